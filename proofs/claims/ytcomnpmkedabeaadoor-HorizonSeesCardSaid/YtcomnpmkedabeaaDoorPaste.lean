/- paint.Paste, paint.From, where all is right. -/
import Derived.Test.YtcomnpmkedabeaaDoorLayWalk
import Derived.Test.YtcomnpmkedabeaaDoorGridNew
set_option linter.unusedVariables false
set_option linter.unusedSimpArgs false
namespace Go.Proofs.YtcomnpmkedabeaaDoor
open Go.RowKit

/-- Of a grid something is filled, and Fine is answered. -/
def FilledFine (g : Nat) (F : Nat → Prop) (w h : Int) (f : Int → Int → Int) (W : World) (e : Ending) (W' : World) : Prop := e = .returned (.int .i64 0) ∧ Filled g F w h f W W'
theorem Filled.after {g : Nat} {F : Nat → Prop} {w h : Int} {f : Int → Int → Int} {W W1 : World} {W' : World} (hb : Below W.heap.size W W1) (hf : Filled g F w h f W1 W') : Filled g F w h f W W' := by
  obtain ⟨F', h2, h3, h4⟩ := hf
  exact ⟨F', (Mod.of_below (S := F) hb).trans h2 (fun _ x => .inl x), fun k hk => (h3 k hk).imp id (fun h => by have := hb.size; omega), h4⟩

set_option maxHeartbeats 2000000 in
theorem paint_Paste_ok (g : Nat) (F : Nat → Prop) (w h x0 y0 x1 y1 : Int) (f : Int → Int → Int) (W : World) (H : GridAt W g F w h f) (a0 : 0 ≤ x0) (a1 : x0 ≤ x1) (a2 : x1 < w) (a3 : 0 ≤ y0) (a4 : y0 ≤ y1) (a5 : y1 < h)
    (rw rh : Nat) (hrw : (rw : Int) = x1 - x0 + 1) (hrh : (rh : Int) = y1 - y0 + 1) (ad : Addr) (cap : Nat) (u : Nat → Int) (hu : ∀ j, j < rw * rh → -2147483648 ≤ u j ∧ u j ≤ 2147483647) (hrow : RowAt W ad (rw * rh) u) (hF : ¬ F ad.block) :
    Calls Tryd.prog 28 #[.pointer (some ⟨g, 0, none⟩), .agg #[.int .i64 x0, .int .i64 y0, .int .i64 x1, .int .i64 y1], .slice (some ad) (rw * rh) cap] W (FilledFine g F w h (pasteF f x0 y0 x1 y1 rw u) W) := by
  obtain ⟨d1, d2, d3, d4⟩ := H.dims
  have hm := Nat.mul_le_mul (show rw ≤ 1024 by omega) (show rh ≤ 1024 by omega)
  have harea : (x1 - x0 + 1) * (y1 - y0 + 1) = ((rw * rh : Nat) : Int) := by rw [← hrw, ← hrh]; push_cast; rfl
  have HA := Lib.hid harea
  have HU := Lib.hid hu
  clear harea hu
  go_enter Tryd.func28, Tryd.ntmps28
  go_wp2_with fail
  have n1 := blk_new W (.cells #[.int .i64 x0, .int .i64 y0, .int .i64 x1, .int .i64 y1] 73)
  have hB := below_alloc1 W (.cells #[.int .i64 x0, .int .i64 y0, .int .i64 x1, .int .i64 y1] 73)
  have H1 := H.below hB
  refine (grid_Values_ok g F w h x0 y0 x1 y1 f _ H1 a0 a1 a2 a3 a4 a5 rw rh hrw hrh).mono ?_
  rintro e w2 ⟨k, cap2, cs, rfl, _, _, hb, _, _⟩
  replace n1 := below_blk hb n1
  replace H1 := H1.below hb
  replace hB := below_next hB hb
  clear hb
  have j_0 := cells_w n1 0 rfl
  have j_1 := cells_w n1 1 rfl
  have j_2 := cells_w n1 2 rfl
  have j_3 := cells_w n1 3 rfl
  go_wp2_with fail
  refine (area_ok x0 y0 x1 y1 w2 a0 a1 (by omega) a3 a4 (by omega)).mono ?_
  rw [HA.out]
  rintro e w3 ⟨rfl, hb⟩
  replace n1 := below_blk hb n1
  replace H1 := H1.below hb
  replace hB := below_next hB hb
  clear hb j_0 j_1 j_2 j_3
  have hr3 := hrow.below hB
  have Hr3 := Lib.hid hr3
  clear hr3
  go_wp2_with fail
  refine (contains64_any ad (rw * rh) cap u w3 (by omega) Hr3.out).mono ?_
  rintro e w4 ⟨r, rfl, hr, rfl⟩
  have er : r = false := hr.2 (fun j hj => mayB_iff.2 (HU.out j hj))
  clear hr
  subst er
  have j_0 := cells_w n1 0 rfl
  have j_1 := cells_w n1 1 rfl
  have j_2 := cells_w n1 2 rfl
  have j_3 := cells_w n1 3 rfl
  go_wp2_with fail
  refine (paint_lay_ok g F w h x0 y0 x1 y1 f w3 H1 a0 a1 a2 a3 a4 a5 rw rh hrw hrh ad cap u HU.out Hr3.out hF).mono ?_
  rintro e w5 ⟨rfl, hfl⟩
  have hfl2 := hfl.after hB
  have HFL := Lib.hid hfl2
  clear hfl hfl2 j_0 j_1 j_2 j_3
  go_wp2_with fail
  go_ret
  exact ⟨rfl, HFL.out⟩

theorem GridAt.congr {W : World} {g : Nat} {F : Nat → Prop} {w h : Int} {f f' : Int → Int → Int} (H : GridAt W g F w h f) (e : ∀ x y, 0 ≤ x → x < w → 0 ≤ y → y < h → f' x y = f x y) : GridAt W g F w h f' := by
  obtain ⟨a, n, cap, ps, s, Fs, HR⟩ := H
  refine ⟨a, n, cap, ps, s, Fs, HR.w1, HR.w2, HR.h1, HR.h2, HR.own, HR.owna, HR.ne, HR.lt, HR.n_eq, HR.cap_le, HR.grid, HR.row, HR.ptr, fun i hi => (HR.slab i hi).congr ?_, HR.sub, HR.apart⟩
  intro x y a1 a2 a3 a4
  have e1 := acr_eq HR.w1
  have hi2 := HR.n_eq ▸ hi
  have hpos := (acr_bd HR.w1 HR.w2).1
  have q1 : i % acr w < acr w := Nat.mod_lt i (by omega)
  have q2 : i / acr w < acr h := Nat.div_lt_of_lt_mul hi2
  unfold tileF
  unfold side imin at a2 a4
  generalize i % acr w = p at *
  generalize i / acr w = q at *
  refine e _ _ (by omega) ?_ (by omega) ?_
  · split at a2 <;> omega
  · split at a4 <;> omega
/-- A new grid with values. -/
def GridFrom (w h : Int) (f : Int → Int → Int) (W : World) (e : Ending) (W' : World) : Prop :=
  ∃ g F, e = .returned (.tuple #[.pointer (some ⟨g, 0, none⟩), .int .i64 0]) ∧ Below W.heap.size W W' ∧ (∀ k, F k → W.heap.size ≤ k) ∧ GridAt W' g F w h f

set_option maxHeartbeats 2000000 in
theorem paint_From_ok (rw rh : Nat) (W : World) (w1 : 1 ≤ rw) (w2 : rw ≤ 1024) (h1 : 1 ≤ rh) (h2 : rh ≤ 1024) (ad : Addr) (cap : Nat) (u : Nat → Int) (hu : ∀ j, j < rw * rh → -2147483648 ≤ u j ∧ u j ≤ 2147483647) (hrow : RowAt W ad (rw * rh) u) :
    Calls Tryd.prog 15 #[.int .i64 rw, .int .i64 rh, .slice (some ad) (rw * rh) cap] W (GridFrom rw rh (fun x y => u ((y * rw + x).toNat)) W) := by
  have HU := Lib.hid hu
  clear hu
  go_enter Tryd.func15, Tryd.ntmps15
  go_wp2_with fail
  refine (grid_New_ok rw rh 0 W (by omega) (by omega) (by omega) (by omega) (by omega) (by omega)).mono ?_
  rintro e w3 ⟨g, F, rfl, hB, hF, HG⟩
  have Hr3 := Lib.hid (hrow.below hB)
  have hm := Nat.mul_le_mul w1 h1
  have hadW : ad.block < W.heap.size := by
    have := World.block_lt_of_cell? W _ (hrow 0 (by omega))
    rwa [add_block] at this
  have hnF : ¬ F ad.block := fun hk => by have := hF _ hk; omega
  clear hrow
  go_wp2_with fail
  refine (grid_All_ok g F rw rh _ w3 HG).mono ?_
  rintro e w4 ⟨rfl, hb⟩
  have HG4 := HG.below hb
  have hB4 := below_next hB hb
  have Hr4 := Lib.hid (Hr3.out.below hb)
  clear hb
  go_wp2_with fail
  refine (paint_Paste_ok g F rw rh 0 0 ((rw : Int) - 1) ((rh : Int) - 1) _ w4 HG4 (by omega) (by omega) (by omega) (by omega) (by omega) (by omega) rw rh (by omega) (by omega) ad cap u HU.out Hr4.out hnF).mono ?_
  rintro e w5 ⟨rfl, F2, hM, hF2, HG5⟩
  go_wp2_with fail
  go_ret2
  refine ⟨g, F2, rfl, hB4.trans (hM.below hB4.size hF), fun k hk => ?_, HG5.congr ?_⟩
  · rcases hF2 k hk with h1 | h1
    · exact hF k h1
    · have := hB4.size; omega
  · intro x y a1 a2 a3 a4
    unfold pasteF
    rw [if_pos (by unfold inR; omega)]
    unfold idxOf
    rw [Int.sub_zero, Int.sub_zero]
end Go.Proofs.YtcomnpmkedabeaaDoor
