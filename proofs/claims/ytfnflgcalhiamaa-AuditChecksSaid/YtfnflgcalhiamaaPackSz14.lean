/- Texts of this claim, joined: Paste, Join, Mend, Mix. -/
import Derived.Test.YtfnflgcalhiamaaPackSz11
import Derived.Test.YtfnflgcalhiamaaPackSz12
import Derived.Test.YtfnflgcalhiamaaPackSz13
import Derived.Deep.LoopGhost
/- paint.Paste, paint.From, where all is right. -/
set_option linter.unusedVariables false
set_option linter.unusedSimpArgs false
namespace Go.Proofs.Ytfnflgcalhiamaa
open Go.RowKit

/-- Of a grid something is filled, and Fine is answered. -/
def FilledFine (g : Nat) (F : Nat → Prop) (w h : Int) (f : Int → Int → Int) (W : World) (e : Ending) (W' : World) : Prop := e = .returned (.int .i64 0) ∧ Filled g F w h f W W'
theorem Filled.after {g : Nat} {F : Nat → Prop} {w h : Int} {f : Int → Int → Int} {W W1 : World} {W' : World} (hb : Below W.heap.size W W1) (hf : Filled g F w h f W1 W') : Filled g F w h f W W' := by
  obtain ⟨F', h2, h3, h4⟩ := hf
  exact ⟨F', (Mod.of_below (S := F) hb).trans h2 (fun _ x => .inl x), fun k hk => (h3 k hk).imp id (fun h => by have := hb.size; omega), h4⟩

set_option maxHeartbeats 2000000 in
theorem paint_Paste_ok (g : Nat) (F : Nat → Prop) (w h x0 y0 x1 y1 : Int) (f : Int → Int → Int) (W : World) (H : GridAt W g F w h f) (a0 : 0 ≤ x0) (a1 : x0 ≤ x1) (a2 : x1 < w) (a3 : 0 ≤ y0) (a4 : y0 ≤ y1) (a5 : y1 < h)
    (rw rh : Nat) (hrw : (rw : Int) = x1 - x0 + 1) (hrh : (rh : Int) = y1 - y0 + 1) (ad : Addr) (cap : Nat) (u : Nat → Int) (hu : ∀ j, j < rw * rh → -2147483648 ≤ u j ∧ u j ≤ 2147483647) (hrow : RowAt W ad (rw * rh) u) (hF : ¬ F ad.block) :
    Calls Try.prog 40 #[.pointer (some ⟨g, 0, none⟩), .agg #[.int .i64 x0, .int .i64 y0, .int .i64 x1, .int .i64 y1], .slice (some ad) (rw * rh) cap] W (FilledFine g F w h (pasteF f x0 y0 x1 y1 rw u) W) := by
  obtain ⟨d1, d2, d3, d4⟩ := H.dims
  have hm := Nat.mul_le_mul (show rw ≤ 1024 by omega) (show rh ≤ 1024 by omega)
  have harea : (x1 - x0 + 1) * (y1 - y0 + 1) = ((rw * rh : Nat) : Int) := by rw [← hrw, ← hrh]; push_cast; rfl
  have HA := Lib.hid harea
  have HU := Lib.hid hu
  clear harea hu
  go_enter Try.func40, Try.ntmps40
  go_wp2_with fail
  have n1 := blk_new W (.cells #[.int .i64 x0, .int .i64 y0, .int .i64 x1, .int .i64 y1] 71)
  have hB := below_alloc1 W (.cells #[.int .i64 x0, .int .i64 y0, .int .i64 x1, .int .i64 y1] 71)
  have H1 := H.below hB
  refine (grid_Values_ok g F w h x0 y0 x1 y1 f _ H1 a0 a1 a2 a3 a4 a5 rw rh hrw hrh).mono ?_
  rintro e w2 ⟨k, cap2, cs, rfl, _, _, hb, _, _⟩
  replace n1 := below_blk hb n1
  replace H1 := H1.below hb
  replace hB := below_next hB hb
  clear hb
  have j_0 := cells_w n1 0 rfl
  have j_1 := cells_w n1 1 rfl
  have j_2 := cells_w n1 2 rfl
  have j_3 := cells_w n1 3 rfl
  go_wp2_with fail
  refine (area_ok x0 y0 x1 y1 w2 a0 a1 (by omega) a3 a4 (by omega)).mono ?_
  rw [HA.out]
  rintro e w3 ⟨rfl, hb⟩
  replace n1 := below_blk hb n1
  replace H1 := H1.below hb
  replace hB := below_next hB hb
  clear hb j_0 j_1 j_2 j_3
  have hr3 := hrow.below hB
  have Hr3 := Lib.hid hr3
  clear hr3
  go_wp2_with fail
  refine (contains64_any ad (rw * rh) cap u w3 (by omega) Hr3.out).mono ?_
  rintro e w4 ⟨r, rfl, hr, rfl⟩
  have er : r = false := hr.2 (fun j hj => mayB_iff.2 (HU.out j hj))
  clear hr
  subst er
  have j_0 := cells_w n1 0 rfl
  have j_1 := cells_w n1 1 rfl
  have j_2 := cells_w n1 2 rfl
  have j_3 := cells_w n1 3 rfl
  go_wp2_with fail
  refine (paint_lay_ok g F w h x0 y0 x1 y1 f w3 H1 a0 a1 a2 a3 a4 a5 rw rh hrw hrh ad cap u HU.out Hr3.out hF).mono ?_
  rintro e w5 ⟨rfl, hfl⟩
  have hfl2 := hfl.after hB
  have HFL := Lib.hid hfl2
  clear hfl hfl2 j_0 j_1 j_2 j_3
  go_wp2_with fail
  go_ret
  exact ⟨rfl, HFL.out⟩

theorem GridAt.congr {W : World} {g : Nat} {F : Nat → Prop} {w h : Int} {f f' : Int → Int → Int} (H : GridAt W g F w h f) (e : ∀ x y, 0 ≤ x → x < w → 0 ≤ y → y < h → f' x y = f x y) : GridAt W g F w h f' := by
  obtain ⟨a, n, cap, ps, s, Fs, HR⟩ := H
  refine ⟨a, n, cap, ps, s, Fs, HR.w1, HR.w2, HR.h1, HR.h2, HR.own, HR.owna, HR.ne, HR.lt, HR.n_eq, HR.cap_le, HR.grid, HR.row, HR.ptr, fun i hi => (HR.slab i hi).congr ?_, HR.sub, HR.apart⟩
  intro x y a1 a2 a3 a4
  have e1 := acr_eq HR.w1
  have hi2 := HR.n_eq ▸ hi
  have hpos := (acr_bd HR.w1 HR.w2).1
  have q1 : i % acr w < acr w := Nat.mod_lt i (by omega)
  have q2 : i / acr w < acr h := Nat.div_lt_of_lt_mul hi2
  unfold tileF
  unfold side imin at a2 a4
  generalize i % acr w = p at *
  generalize i / acr w = q at *
  refine e _ _ (by omega) ?_ (by omega) ?_
  · split at a2 <;> omega
  · split at a4 <;> omega
/-- A new grid with values. -/
def GridFrom (w h : Int) (f : Int → Int → Int) (W : World) (e : Ending) (W' : World) : Prop :=
  ∃ g F, e = .returned (.tuple #[.pointer (some ⟨g, 0, none⟩), .int .i64 0]) ∧ Below W.heap.size W W' ∧ (∀ k, F k → W.heap.size ≤ k) ∧ GridAt W' g F w h f

set_option maxHeartbeats 2000000 in
theorem paint_From_ok (rw rh : Nat) (W : World) (w1 : 1 ≤ rw) (w2 : rw ≤ 1024) (h1 : 1 ≤ rh) (h2 : rh ≤ 1024) (ad : Addr) (cap : Nat) (u : Nat → Int) (hu : ∀ j, j < rw * rh → -2147483648 ≤ u j ∧ u j ≤ 2147483647) (hrow : RowAt W ad (rw * rh) u) :
    Calls Try.prog 16 #[.int .i64 rw, .int .i64 rh, .slice (some ad) (rw * rh) cap] W (GridFrom rw rh (fun x y => u ((y * rw + x).toNat)) W) := by
  have HU := Lib.hid hu
  clear hu
  go_enter Try.func16, Try.ntmps16
  go_wp2_with fail
  refine (grid_New_ok rw rh 0 W (by omega) (by omega) (by omega) (by omega) (by omega) (by omega)).mono ?_
  rintro e w3 ⟨g, F, rfl, hB, hF, HG⟩
  have Hr3 := Lib.hid (hrow.below hB)
  have hm := Nat.mul_le_mul w1 h1
  have hadW : ad.block < W.heap.size := by
    have := World.block_lt_of_cell? W _ (hrow 0 (by omega))
    rwa [add_block] at this
  have hnF : ¬ F ad.block := fun hk => by have := hF _ hk; omega
  clear hrow
  go_wp2_with fail
  refine (grid_All_ok g F rw rh _ w3 HG).mono ?_
  rintro e w4 ⟨rfl, hb⟩
  have HG4 := HG.below hb
  have hB4 := below_next hB hb
  have Hr4 := Lib.hid (Hr3.out.below hb)
  clear hb
  go_wp2_with fail
  refine (paint_Paste_ok g F rw rh 0 0 ((rw : Int) - 1) ((rh : Int) - 1) _ w4 HG4 (by omega) (by omega) (by omega) (by omega) (by omega) (by omega) rw rh (by omega) (by omega) ad cap u HU.out Hr4.out hnF).mono ?_
  rintro e w5 ⟨rfl, F2, hM, hF2, HG5⟩
  go_wp2_with fail
  go_ret2
  refine ⟨g, F2, rfl, hB4.trans (hM.below hB4.size hF), fun k hk => ?_, HG5.congr ?_⟩
  · rcases hF2 k hk with h1 | h1
    · exact hF k h1
    · have := hB4.size; omega
  · intro x y a1 a2 a3 a4
    unfold pasteF
    rw [if_pos (by unfold inR; omega)]
    unfold idxOf
    rw [Int.sub_zero, Int.sub_zero]
end Go.Proofs.Ytfnflgcalhiamaa
/- pyr.join; a level's cells turned one by one. -/
set_option linter.unusedVariables false
set_option linter.unusedSimpArgs false
namespace Go.Proofs.Ytfnflgcalhiamaa
open Go.RowKit

set_option maxHeartbeats 2000000 in
theorem join_ok (a c b d : Int) (W : World) :
    Calls Try.prog 70 #[.agg #[.int .i64 a, .int .i64 c], .agg #[.int .i64 b, .int .i64 d]] W fun e W' => e = .returned (.agg #[.int .i64 (imin a b), .int .i64 (imax c d)]) ∧ Below W.heap.size W W' := by
  go_enter Try.func70, Try.ntmps70
  go_wp2_with fail
  have nR := blk_new2 (W.alloc (.cells #[.int .i64 a, .int .i64 c] 83)) (.cells #[.int .i64 b, .int .i64 d] 83) (.cells #[.int .i64 (imin a b), .int .i64 (imax c d)] 83)
  rw [alloc_size] at nR
  refine bodyPost_ret (res_c rfl rfl nR agg_Range rfl) rfl ?_
  exact ⟨rfl, below_alloc (below_alloc (below_alloc1 _ _) _) _⟩

theorem CellsAt.put {W : World} {b : Nat} {w h : Int} {R R' : Int → Int → Int → Int → Prop} (H : CellsAt W b w h R) {X Y : Int} (b0 : 0 ≤ X) (b1 : X < w) (b2 : 0 ≤ Y) (b3 : Y < h) {a c : Int} (hR : R' X Y a c)
    (hr : ∀ x y a' c', 0 ≤ x → x < w → 0 ≤ y → y < h → ¬ (x = X ∧ y = Y) → R x y a' c' → R' x y a' c') :
    CellsAt ((W.setCell ⟨b, (Y * w + X).toNat * 2, none⟩ (.int .i64 a)).setCell ⟨b, (Y * w + X).toNat * 2 + 1, none⟩ (.int .i64 c)) b w h R' := by
  obtain ⟨cs, h1, h2⟩ := H
  refine ⟨_, blk_set (blk_set h1 _ _) _ _, fun x y a1 a2 a3 a4 => ?_⟩
  obtain ⟨a', c', k1, k2, k3⟩ := h2 x y a1 a2 a3 a4
  obtain ⟨_, _, m1, m2, _⟩ := h2 X Y b0 b1 b2 b3
  by_cases e : x = X ∧ y = Y
  · obtain ⟨rfl, rfl⟩ := e
    have l1 := (Array.getElem?_eq_some_iff.1 m1).1
    have l2 := (Array.getElem?_eq_some_iff.1 m2).1
    refine ⟨a, c, ?_, ?_, hR⟩
    · rw [Array.getElem?_setIfInBounds_ne (by omega), Array.getElem?_setIfInBounds_self_of_lt l1]
    · rw [Array.getElem?_setIfInBounds_self_of_lt (by simpa using l2)]
  · have hne : (y * w + x).toNat ≠ (Y * w + X).toNat := fun q => e (idx_inj a1 a2 a3 b0 b1 b2 q)
    refine ⟨a', c', ?_, ?_, hr x y a' c' a1 a2 a3 a4 e k3⟩
    · rw [Array.getElem?_setIfInBounds_ne (by omega), Array.getElem?_setIfInBounds_ne (by omega)]
      exact k1
    · rw [Array.getElem?_setIfInBounds_ne (by omega), Array.getElem?_setIfInBounds_ne (by omega)]
      exact k2
/-- The first j rows, and i cells of the next one, are mended. -/
def doneM (x0 y0 x1 y1 : Int) (j i : Nat) (x y : Int) : Prop := x0 ≤ x ∧ x ≤ x1 ∧ y0 ≤ y ∧ y ≤ y1 ∧ (y < y0 + j ∨ (y = y0 + j ∧ x < x0 + i))
def MendR (x0 y0 x1 y1 : Int) (j i : Nat) (R' R : Int → Int → Int → Int → Prop) (x y a c : Int) : Prop := (doneM x0 y0 x1 y1 j i x y → R' x y a c) ∧ (¬ doneM x0 y0 x1 y1 j i x y → R x y a c)
/-- Inside a rectangle the one, elsewhere the other. -/
def MixR (x0 y0 x1 y1 : Int) (R' R : Int → Int → Int → Int → Prop) (x y a c : Int) : Prop := (inR x0 y0 x1 y1 x y → R' x y a c) ∧ (¬ inR x0 y0 x1 y1 x y → R x y a c)
theorem mend_zero {x0 y0 x1 y1 x y a c : Int} {R' R : Int → Int → Int → Int → Prop} (h : R x y a c) : MendR x0 y0 x1 y1 0 0 R' R x y a c :=
  ⟨fun hd => by unfold doneM at hd; omega, fun _ => h⟩
theorem mend_row {x0 y0 x1 y1 x y a c : Int} {rw j : Nat} {R' R : Int → Int → Int → Int → Prop} (hrw : (rw : Int) = x1 - x0 + 1) (h : MendR x0 y0 x1 y1 j rw R' R x y a c) : MendR x0 y0 x1 y1 (j + 1) 0 R' R x y a c := by
  have e : doneM x0 y0 x1 y1 (j + 1) 0 x y ↔ doneM x0 y0 x1 y1 j rw x y := by unfold doneM; omega
  unfold MendR at h ⊢
  rw [e]
  exact h
theorem mend_last {x0 y0 x1 y1 x y a c : Int} {rh : Nat} {R' R : Int → Int → Int → Int → Prop} (hrh : (rh : Int) = y1 - y0 + 1) (h : MendR x0 y0 x1 y1 rh 0 R' R x y a c) : MixR x0 y0 x1 y1 R' R x y a c := by
  have e : doneM x0 y0 x1 y1 rh 0 x y ↔ inR x0 y0 x1 y1 x y := by unfold doneM inR; omega
  unfold MendR at h
  rw [e] at h
  exact h
theorem mend_next {x0 y0 x1 y1 X Y x y a c : Int} {j i : Nat} {R' R : Int → Int → Int → Int → Prop} (hX : X = x0 + i) (hY : Y = y0 + j) (hn : ¬ (x = X ∧ y = Y)) (h : MendR x0 y0 x1 y1 j i R' R x y a c) : MendR x0 y0 x1 y1 j (i + 1) R' R x y a c := by
  have e : doneM x0 y0 x1 y1 j (i + 1) x y ↔ doneM x0 y0 x1 y1 j i x y := by unfold doneM; omega
  unfold MendR at h ⊢
  rw [e]
  exact h
theorem mend_this {x0 y0 x1 y1 X Y a c : Int} {j i : Nat} {R' R : Int → Int → Int → Int → Prop} (hX : X = x0 + i) (hY : Y = y0 + j) (h1 : X ≤ x1) (h2 : Y ≤ y1) (h : R' X Y a c) : MendR x0 y0 x1 y1 j (i + 1) R' R X Y a c :=
  ⟨fun _ => h, fun hn => absurd (by unfold doneM; omega) hn⟩
end Go.Proofs.Ytfnflgcalhiamaa
/- pyr's mend: a level's cells in a rectangle, by those of the level ahead. -/
set_option linter.unusedVariables false
set_option linter.unusedSimpArgs false
namespace Go.Proofs.Ytfnflgcalhiamaa
open Go.RowKit

/-- The level is mended up to there. -/
def MendSt (W : World) (B : Nat) (w h : Int) (k : Nat) (x0 y0 x1 y1 : Int) (f : Int → Int → Int) (R : Int → Int → Int → Int → Prop) (j i : Nat) (wr : World) : Prop :=
  Mod (fun t => t = B) W wr ∧ CellsAt wr B (lw w (k + 1)) (lw h (k + 1)) (MendR x0 y0 x1 y1 j i (Rng f w h (k + 1)) R)
/-- A level behind mending. -/
def MendOut (B : Nat) (w h : Int) (k : Nat) (x0 y0 x1 y1 : Int) (f : Int → Int → Int) (R : Int → Int → Int → Int → Prop) (W : World) (e : Ending) (W' : World) : Prop :=
  e = .returned (.tuple #[]) ∧ Mod (fun t => t = B) W W' ∧ CellsAt W' B (lw w (k + 1)) (lw h (k + 1)) (MixR x0 y0 x1 y1 (Rng f w h (k + 1)) R)

set_option maxHeartbeats 2000000 in
set_option maxRecDepth 100000 in
theorem mend_ok (B U : Nat) (w h : Int) (k : Nat) (x0 y0 x1 y1 : Int) (f : Int → Int → Int) (R : Int → Int → Int → Int → Prop) (W : World) (w1 : 1 ≤ w) (w2 : w ≤ 1024) (h1 : 1 ≤ h) (h2 : h ≤ 1024) (hBU : B ≠ U)
    (HB : CellsAt W B (lw w (k + 1)) (lw h (k + 1)) R) (HU : CellsAt W U (lw w k) (lw h k) (Rng f w h k)) (a0 : 0 ≤ x0) (a1 : x0 ≤ x1) (a2 : x1 < lw w (k + 1)) (a3 : 0 ≤ y0) (a4 : y0 ≤ y1) (a5 : y1 < lw h (k + 1)) :
    Calls Try.prog 48 #[.agg #[.int .i64 (lw w (k + 1)), .int .i64 (lw h (k + 1)), .slice (some ⟨B, 0, none⟩) (area w h (k + 1)) (area w h (k + 1))], .agg #[.int .i64 (lw w k), .int .i64 (lw h k), .slice (some ⟨U, 0, none⟩) (area w h k) (area w h k)], .agg #[.int .i64 x0, .int .i64 y0, .int .i64 x1, .int .i64 y1]] W (MendOut B w h k x0 y0 x1 y1 f R W) := by
  have bP := lw_bd w1 (k + 1)
  have bQ := lw_bd h1 (k + 1)
  have bp := lw_bd w1 k
  have bq := lw_bd h1 k
  have sP := lw_succ w k
  have sQ := lw_succ h k
  have HS := Lib.hid (And.intro sP sQ)
  clear sP sQ
  have hBW : B < W.heap.size := by obtain ⟨cs, hc, _⟩ := HB; exact blk_lt hc
  have hUW : U < W.heap.size := by obtain ⟨cs, hc, _⟩ := HU; exact blk_lt hc
  obtain ⟨rw, hrw⟩ : ∃ rw : Nat, (rw : Int) = x1 - x0 + 1 := ⟨(x1 - x0 + 1).toNat, by omega⟩
  obtain ⟨rh, hrh⟩ : ∃ rh : Nat, (rh : Int) = y1 - y0 + 1 := ⟨(y1 - y0 + 1).toNat, by omega⟩
  have Hrw := Lib.hid hrw
  have Hrh := Lib.hid hrh
  clear hrw hrh
  obtain ⟨NB, hNB⟩ : ∃ NB, area w h (k + 1) = NB := ⟨_, rfl⟩
  obtain ⟨NU, hNU⟩ : ∃ NU, area w h k = NU := ⟨_, rfl⟩
  rw [hNB, hNU]
  have HNB := Lib.hid hNB
  have HNU := Lib.hid hNU
  clear hNB hNU
  go_enter Try.func48, Try.ntmps48
  go_wp2_with fail
  have n3 := below_blk (below_alloc (below_alloc1 (W.alloc (.cells #[.int .i64 (lw w (k + 1)), .int .i64 (lw h (k + 1)), .slice (some ⟨B, 0, none⟩) NB NB] 68)) (.cells #[.int .i64 (lw w k), .int .i64 (lw h k), .slice (some ⟨U, 0, none⟩) NU NU] 68)) (.cells #[.int .i64 x0, .int .i64 y0, .int .i64 x1, .int .i64 y1] 71)) (blk_new W (.cells #[.int .i64 (lw w (k + 1)), .int .i64 (lw h (k + 1)), .slice (some ⟨B, 0, none⟩) NB NB] 68))
  have n4 := below_blk (below_alloc1 ((W.alloc (.cells #[.int .i64 (lw w (k + 1)), .int .i64 (lw h (k + 1)), .slice (some ⟨B, 0, none⟩) NB NB] 68)).alloc (.cells #[.int .i64 (lw w k), .int .i64 (lw h k), .slice (some ⟨U, 0, none⟩) NU NU] 68)) (.cells #[.int .i64 x0, .int .i64 y0, .int .i64 x1, .int .i64 y1] 71)) (blk_new2 W (.cells #[.int .i64 (lw w (k + 1)), .int .i64 (lw h (k + 1)), .slice (some ⟨B, 0, none⟩) NB NB] 68) (.cells #[.int .i64 (lw w k), .int .i64 (lw h k), .slice (some ⟨U, 0, none⟩) NU NU] 68))
  have n5 := blk_new2 (W.alloc (.cells #[.int .i64 (lw w (k + 1)), .int .i64 (lw h (k + 1)), .slice (some ⟨B, 0, none⟩) NB NB] 68)) (.cells #[.int .i64 (lw w k), .int .i64 (lw h k), .slice (some ⟨U, 0, none⟩) NU NU] 68) (.cells #[.int .i64 x0, .int .i64 y0, .int .i64 x1, .int .i64 y1] 71)
  rw [alloc_size] at n5
  have hB0 := below_alloc (below_alloc (below_alloc1 W (.cells #[.int .i64 (lw w (k + 1)), .int .i64 (lw h (k + 1)), .slice (some ⟨B, 0, none⟩) NB NB] 68)) (.cells #[.int .i64 (lw w k), .int .i64 (lw h k), .slice (some ⟨U, 0, none⟩) NU NU] 68)) (.cells #[.int .i64 x0, .int .i64 y0, .int .i64 x1, .int .i64 y1] 71)
  obtain ⟨W1, hW1⟩ : ∃ W1, (((W.alloc (.cells #[.int .i64 (lw w (k + 1)), .int .i64 (lw h (k + 1)), .slice (some ⟨B, 0, none⟩) NB NB] 68)).alloc (.cells #[.int .i64 (lw w k), .int .i64 (lw h k), .slice (some ⟨U, 0, none⟩) NU NU] 68)).alloc (.cells #[.int .i64 x0, .int .i64 y0, .int .i64 x1, .int .i64 y1] 71)) = W1 := ⟨_, rfl⟩
  rw [hW1] at n3 n4 n5 hB0 ⊢
  clear hW1
  have HB1 : CellsAt W1 B (lw w (k + 1)) (lw h (k + 1)) R := HB.keep (hB0.block B hBW)
  have HU1 : CellsAt W1 U (lw w k) (lw h k) (Rng f w h k) := HU.keep (hB0.block U hUW)
  have Hout := Lib.hid hB0
  clear HB HU hB0
  obtain ⟨E, hE⟩ : ∃ E, W.heap.size = E := ⟨_, rfl⟩
  rw [hE] at n3 n4 n5 hBW hUW ⊢
  clear hE
  go_loopg [6] rh (fun q v6 wr => ∃ (j : Nat) (Y : Int), Hid (j + q = rh) ∧ Hid (Y = y0 + j) ∧ v6 = .int .i64 Y ∧ Hid (MendSt W1 B w h k x0 y0 x1 y1 f R j 0 wr))
  case atStart => exact ⟨0, y0, Nat.zero_add _, show y0 = y0 + (0 : Nat) by omega, rfl, Mod.refl _ _, HB1.weaken (fun x y a c _ _ _ _ hr => mend_zero hr)⟩
  case round =>
    obtain ⟨j, Y, hj, hY, rfl, hSt⟩ := hrel
    have r5 := hSt.out.1.blk n5 (by omega)
    have k5_0 := cells_w r5 0 rfl
    have k5_1 := cells_w r5 1 rfl
    have k5_2 := cells_w r5 2 rfl
    have k5_3 := cells_w r5 3 rfl
    cases gk with
    | zero =>
      have ht : decide (Y ≤ y1) = false := decide_eq_false (by have := Hrh.out; have := hj.out; have := hY.out; omega)
      go_wp2_with fail
      refine bodyPost_end (results_none rfl _ _ _) rfl ?_
      have ej : j = rh := hj.out
      obtain ⟨hM, hC⟩ := hSt.out
      exact ⟨rfl, Mod.of_below_then Hout.out hM, hC.weaken (fun x y a c _ _ _ _ hr => mend_last Hrh.out (ej ▸ hr))⟩
    | succ m =>
      have hYb : y0 ≤ Y ∧ Y ≤ y1 := by have := Hrh.out; have := hj.out; have := hY.out; omega
      have ht : decide (Y ≤ y1) = true := decide_eq_true hYb.2
      go_wp2_with fail
      clear k5_0 k5_1 k5_2 k5_3 r5
      go_loopg [7] rw (fun q v7 wi => ∃ (i : Nat) (X : Int), Hid (i + q = rw) ∧ Hid (X = x0 + i) ∧ v7 = .int .i64 X ∧ Hid (MendSt W1 B w h k x0 y0 x1 y1 f R j i wi))
      case atStart => exact ⟨0, x0, Nat.zero_add _, show x0 = x0 + (0 : Nat) by omega, rfl, hSt⟩
      case round =>
        clear hSt
        obtain ⟨i, X, hi, hX, rfl, hSt⟩ := hrel
        have r5 := hSt.out.1.blk n5 (by omega)
        have k5_0 := cells_w r5 0 rfl
        have k5_1 := cells_w r5 1 rfl
        have k5_2 := cells_w r5 2 rfl
        have k5_3 := cells_w r5 3 rfl
        cases gk with
        | zero =>
          have ht2 : decide (X ≤ x1) = false := decide_eq_false (by have := Hrw.out; have := hi.out; have := hX.out; omega)
          go_wp2_with fail
          go_roundg m
          case measure => omega
          case rel =>
            have ei : i = rw := hi.out
            obtain ⟨hM, hC⟩ := hSt.out
            exact ⟨j + 1, Y + 1, by have := hj.out; exact (show j + 1 + m = rh by omega), by have := hY.out; exact (show Y + 1 = y0 + (j + 1 : Nat) by omega), by first | rfl | (exact congrArg (Value.int .i64) (by push_cast; omega)), hM, hC.weaken (fun x y a c _ _ _ _ hr => mend_row Hrw.out (ei ▸ hr))⟩
        | succ m2 =>
          have hXb : x0 ≤ X ∧ X ≤ x1 := by have := Hrw.out; have := hi.out; have := hX.out; omega
          have ht2 : decide (X ≤ x1) = true := decide_eq_true hXb.2
          have hX2 : 2 * X < lw w k := by have := HS.out.1; omega
          have hY2 : 2 * Y < lw h k := by have := HS.out.2; omega
          have hsz := hSt.out.1.size
          have r4 := hSt.out.1.blk n4 (by omega)
          have k4_0 := cells_w r4 0 rfl
          have k4_1 := cells_w r4 1 rfl
          have k4_2 := cells_w r4 2 rfl
          have hUB := n5
          have hUW1 : U < W1.heap.size := by obtain ⟨cs, hc, _⟩ := HU1; exact blk_lt hc
          have HUr : CellsAt wr U (lw w k) (lw h k) (Rng f w h k) := HU1.keep (hSt.out.1.block U hUW1 (fun e => hBU e.symm))
          obtain ⟨cu, hcu, hval⟩ := HUr
          obtain ⟨av, cv, e1, e2, hR0⟩ := hval (2 * X) (2 * Y) (by omega) hX2 (by omega) hY2
          have v0 := (blk_cell hcu _).trans e1
          have v1 := (blk_cell hcu _).trans e2
          have hpq := mul_bd (a := lw w k) (b := lw h k) (A := 1024) (B := 1024) (by omega) (by omega) (by omega) (by omega)
          have hNUe : (NU : Int) = lw w k * lw h k := by have h8 := HNU.out; unfold area at h8; omega
          have hix := idx_lt (x := 2 * X) (y := 2 * Y) (w := lw w k) (h := lw h k) (by omega) hX2 (by omega) hY2
          have hm := mul_bd (a := 2 * Y) (b := lw w k) (A := 2048) (B := 1024) (by omega) (by omega) (by omega) (by omega)
          have u1 : wrap64 (2 * Y * lw w k) = 2 * Y * lw w k := wrap64_id (by omega) (by omega)
          have u2 : wrap64 (2 * Y * lw w k + 2 * X) = 2 * Y * lw w k + 2 * X := wrap64_id (by omega) (by omega)
          have hI0 := hix.1
          have hI1 : 2 * Y * lw w k + 2 * X < (NU : Int) := by omega
          have HNUe := Lib.hid hNUe
          have HR0 := Lib.hid hR0
          have Hval := Lib.hid hval
          clear e1 e2 hUB hNUe hix hR0 hval
          go_wp2_with fail
          have nV := blk_new wr (.cells #[.int .i64 av, .int .i64 cv] 83)
          have hbV := below_alloc1 wr (.cells #[.int .i64 av, .int .i64 cv] 83)
          have hVB : wr.heap.size ≠ B := by have := blk_lt r4; omega
          obtain ⟨V, hV⟩ : ∃ V, wr.heap.size = V := ⟨_, rfl⟩
          have hVge : E + 3 ≤ V := by have := blk_lt r5; have := blk_lt r4; omega
          obtain ⟨W7, hW7⟩ : ∃ W7, wr.alloc (.cells #[.int .i64 av, .int .i64 cv] 83) = W7 := ⟨_, rfl⟩
          rw [hW7] at nV hbV ⊢
          rw [hV] at nV hVB ⊢
          have m4 := below_blk hbV r4
          have m5 := below_blk hbV r5
          have mU := below_blk hbV hcu
          have lU := blk_lt hcu
          have hSt7 : MendSt W1 B w h k x0 y0 x1 y1 f R j i W7 := ⟨hSt.out.1.then_below hbV, hSt.out.2.keep (hbV.block B (by omega))⟩
          have HSt7 := Lib.hid hSt7
          have hUV : U ≠ V := by omega
          have hV1 : W1.heap.size ≤ V := by omega
          have hval2 := Hval.out
          have HV2 := Lib.hid hval2
          clear hval2
          clear hSt7 hW7 hV hbV r4 r5 hcu v0 v1 u1 u2 hI0 hI1 hm hSt
          clear k4_0 k4_1 k4_2 k5_0 k5_1 k5_2 k5_3
          go_loopg [40] 4 (fun q v40 wi => ∃ (i : Nat) (a c : Int), Hid (i + q = 4) ∧ v40 = .int .i64 (i : Int) ∧ Hid (RngOn (kids w h k X Y i) f a c) ∧ wi.heap[V]? = some (.cells #[.int .i64 a, .int .i64 c] 83 (0, 0)) ∧ Mod (fun t => t = V) W7 wi)
          case atStart => exact ⟨0, av, cv, Nat.zero_add _, rfl, RngOn.iff HR0.out (fun u v => kids_zero), nV, Mod.refl _ _⟩
          case round =>
            obtain ⟨n, a, c, hn, rfl, hR, hv, hM7⟩ := hrel
            have s4 := hM7.blk m4 (by omega)
            have sU := hM7.blk mU hUV
            have hn4 : n ≤ 4 := by have := hn.out; omega
            cases gk with
            | zero =>
              have hnd : decide (n < 4) = false := decide_eq_false (by have := hn.out; omega)
              have hnd2 : decide ((n : Int) < 4) = false := decide_eq_false (by have := hn.out; omega)
              have s3 := hM7.blk (HSt7.out.1.blk n3 (by omega)) (by omega)
              have hCB : CellsAt wr B (lw w (k + 1)) (lw h (k + 1)) (MendR x0 y0 x1 y1 j i (Rng f w h (k + 1)) R) := by
                have hlt : B < W7.heap.size := by obtain ⟨cs, hc, _⟩ := HSt7.out.2; exact blk_lt hc
                exact HSt7.out.2.keep (hM7.block B hlt (fun e => hVB e.symm))
              have hXP : X < lw w (k + 1) := by omega
              have hYQ : Y < lw h (k + 1) := by omega
              have hCB2 := hCB
              obtain ⟨cb, hcb, hvb⟩ := hCB2
              obtain ⟨oa, oc, f1, f2, _⟩ := hvb X Y (by omega) hXP (by omega) hYQ
              have g0 := (blk_cell hcb _).trans f1
              have g1 := (blk_cell hcb _).trans f2
              have z0 := blk_frozen hcb ((Y * lw w (k + 1) + X).toNat * 2)
              have z1 := blk_frozen hcb ((Y * lw w (k + 1) + X).toNat * 2 + 1)
              have hix := idx_lt (x := X) (y := Y) (w := lw w (k + 1)) (h := lw h (k + 1)) (by omega) hXP (by omega) hYQ
              have hm := mul_bd (a := Y) (b := lw w (k + 1)) (A := 1024) (B := 1024) (by omega) (by omega) (by omega) (by omega)
              have hPQ := mul_bd (a := lw w (k + 1)) (b := lw h (k + 1)) (A := 1024) (B := 1024) (by omega) (by omega) (by omega) (by omega)
              have hNBe : (NB : Int) = lw w (k + 1) * lw h (k + 1) := by have h8 := HNB.out; unfold area at h8; omega
              have u1 : wrap64 (Y * lw w (k + 1)) = Y * lw w (k + 1) := wrap64_id (by omega) (by omega)
              have u2 : wrap64 (Y * lw w (k + 1) + X) = Y * lw w (k + 1) + X := wrap64_id (by omega) (by omega)
              have hI0 := hix.1
              have hI1 : Y * lw w (k + 1) + X < (NB : Int) := by omega
              have HCB := Lib.hid hCB
              have k3_0 := cells_w s3 0 rfl
              have k3_1 := cells_w s3 1 rfl
              have k3_2 := cells_w s3 2 rfl
              have kv_0 := cells_w hv 0 rfl
              have kv_1 := cells_w hv 1 rfl
              clear hCB hvb f1 f2 hNBe hix hPQ
              go_wp2_with fail
              go_roundg m2
              case measure => omega
              case rel =>
                have en : n = 4 := hn.out
                have hR4 := hR.out
                rw [en] at hR4
                refine ⟨i + 1, X + 1, by have := hi.out; exact (show i + 1 + m2 = rw by omega), by have := hX.out; exact (show X + 1 = x0 + (i + 1 : Nat) by omega), rfl, ?_, ?_⟩
                · exact ((HSt7.out.1.trans hM7 (fun t ht => .inr (by omega))).setCell (.inl rfl) _).setCell (.inl rfl) _
                · exact HCB.out.put (by omega) hXP (by omega) hYQ (mend_this hX.out hY.out hXb.2 hYb.2 (hR4.iff (fun u v => kids_all))) (fun x y a' c' _ _ _ _ hne hr => mend_next hX.out hY.out hne hr)
            | succ q =>
              have hn4' : n < 4 := by have := hn.out; omega
              have hnd : decide (n < 4) = true := decide_eq_true hn4'
              have hnd2 : decide ((n : Int) < 4) = true := decide_eq_true (by omega)
              have k4_0 := cells_w s4 0 rfl
              have k4_1 := cells_w s4 1 rfl
              have k4_2 := cells_w s4 2 rfl
              by_cases hu : 2 * X + (n : Int) % 2 < lw w k
              · have hud := decide_eq_true hu
                by_cases hv2 : 2 * Y + (n : Int) / 2 < lw h k
                · have hvd := decide_eq_true hv2
                  go_wp2_with fail
                  obtain ⟨ux, hux⟩ : ∃ ux, 2 * X + (n : Int) % 2 = ux := ⟨_, rfl⟩
                  obtain ⟨uy, huy⟩ : ∃ uy, 2 * Y + (n : Int) / 2 = uy := ⟨_, rfl⟩
                  rw [hux] at hu
                  rw [huy] at hv2
                  have bu : 0 ≤ ux ∧ 0 ≤ uy := by omega
                  obtain ⟨ka, kc, e1, e2, hK⟩ := HV2.out ux uy bu.1 hu bu.2 hv2
                  have c0 := (blk_cell sU _).trans e1
                  have c1 := (blk_cell sU _).trans e2
                  have hix := idx_lt (x := ux) (y := uy) (w := lw w k) (h := lw h k) bu.1 hu bu.2 hv2
                  have hm := mul_bd (a := uy) (b := lw w k) (A := 1024) (B := 1024) (by omega) (by omega) (by omega) (by omega)
                  have hI1 : uy * lw w k + ux < (NU : Int) := by have := HNUe.out; omega
                  have hI0 := hix.1
                  have u1 : IntKind.i64.wrap (uy * lw w k) = uy * lw w k := IntWalk.i64_in _ (by omega)
                  have u2 : IntKind.i64.wrap (uy * lw w k + ux) = uy * lw w k + ux := IntWalk.i64_in _ (by omega)
                  have q0 := fun d os => cell_regrown c0 d os
                  have q1 := fun d os => cell_regrown c1 d os
                  simp only [← hux, ← huy] at q0 q1 u1 u2 hI0 hI1
                  have HK := Lib.hid hK
                  have HUX := Lib.hid (And.intro hux huy)
                  clear c0 c1 e1 e2 hK hux huy k4_0 k4_1 k4_2 hix hm hud hvd
                  have k4_0 := cells_q s4 0 rfl
                  have k4_1 := cells_q s4 1 rfl
                  have k4_2 := cells_q s4 2 rfl
                  have kv_0 := cells_q hv 0 rfl
                  have kv_1 := cells_q hv 1 rfl
                  refine wp_tail 11 (by kernel_rfl) (by kernel_rfl) ?_
                  simp only [List.take_succ_cons, List.take_zero, List.drop_succ_cons, List.drop_zero]
                  repeat (go_big_quiet_step ((first | fail)))
                  refine wpQuiet_nil ?_
                  intro w4 hb4
                  clear k4_0 k4_1 k4_2 kv_0 kv_1 q0 q1 u1 u2
                  have hv4 := below_blk hb4 hv
                  have hM4 := hM7.then_below hb4
                  go_wp2_with fail
                  refine (join_ok a c ka kc w4).mono ?_
                  rintro e w5 ⟨rfl, hb5⟩
                  have hv5 := below_blk hb5 hv4
                  have hM5 := hM4.then_below hb5
                  have kv_0 := cells_w hv5 0 rfl
                  have kv_1 := cells_w hv5 1 rfl
                  have z_0 := blk_frozen hv5 0
                  have z_1 := blk_frozen hv5 1
                  go_wp2_with fail
                  go_roundg q
                  case measure => omega
                  case rel =>
                    obtain ⟨hux, huy⟩ := HUX.out
                    refine ⟨n + 1, imin a ka, imax c kc, by have := hn.out; exact (show n + 1 + q = 4 by omega), by first | rfl | (exact congrArg (Value.int .i64) (by push_cast; omega)), ?_, by simpa using blk_set (blk_set hv5 0 (.int .i64 (imin a ka))) 1 (.int .i64 (imax c kc)), (hM5.setCell (.inl rfl) _).setCell (.inl rfl) _⟩
                    have hJ := RngOn.join hR.out HK.out
                    rw [← hux, ← huy] at hJ
                    exact hJ.iff (fun u v => kids_step)
                · have hvd := decide_eq_false hv2
                  go_wp2_with fail
                  go_roundg q
                  case measure => omega
                  case rel =>
                    exact ⟨n + 1, a, c, by have := hn.out; exact (show n + 1 + q = 4 by omega), by first | rfl | (exact congrArg (Value.int .i64) (by push_cast; omega)), hR.out.iff (fun u v => kids_skip (by omega)), hv, hM7⟩
              · have hud := decide_eq_false hu
                go_wp2_with fail
                go_roundg q
                case measure => omega
                case rel =>
                  exact ⟨n + 1, a, c, by have := hn.out; exact (show n + 1 + q = 4 by omega), by first | rfl | (exact congrArg (Value.int .i64) (by push_cast; omega)), hR.out.iff (fun u v => kids_skip (by omega)), hv, hM7⟩
end Go.Proofs.Ytfnflgcalhiamaa
/- Repairing, plain: inside a rectangle the one land, elsewhere the other; level by level. -/
set_option linter.unusedVariables false
set_option linter.unusedSimpArgs false
namespace Go.Proofs.Ytfnflgcalhiamaa
open Go.RowKit

/-- Inside a rectangle the one land, elsewhere the other. -/
def mixF (x0 y0 x1 y1 : Int) (f' f : Int → Int → Int) : Int → Int → Int := fun x y => if inR x0 y0 x1 y1 x y then f' x y else f x y
theorem mix_in {x0 y0 x1 y1 x y : Int} {f' f : Int → Int → Int} (h : inR x0 y0 x1 y1 x y) : mixF x0 y0 x1 y1 f' f x y = f' x y := by unfold mixF; rw [if_pos h]
theorem mix_out {x0 y0 x1 y1 x y : Int} {f' f : Int → Int → Int} (h : ¬ inR x0 y0 x1 y1 x y) : mixF x0 y0 x1 y1 f' f x y = f x y := by unfold mixF; rw [if_neg h]
theorem mix_rng {x0 y0 x1 y1 w h x y a c : Int} {k : Nat} {f' f : Int → Int → Int}
    (H : MixR (x0 / 2 ^ k) (y0 / 2 ^ k) (x1 / 2 ^ k) (y1 / 2 ^ k) (Rng (mixF x0 y0 x1 y1 f' f) w h k) (Rng f w h k) x y a c) : Rng (mixF x0 y0 x1 y1 f' f) w h k x y a c := by
  by_cases hin : inR (x0 / 2 ^ k) (y0 / 2 ^ k) (x1 / 2 ^ k) (y1 / 2 ^ k) x y
  · exact H.1 hin
  · refine RngOn.congr (H.2 hin) (fun u v hs => mix_out (fun hi => hin ?_))
    obtain ⟨_, _, _, _, e1, e2⟩ := hs
    unfold inR at hi ⊢
    have p := pow2_pos k
    have q1 := Int.ediv_le_ediv p hi.1
    have q2 := Int.ediv_le_ediv p hi.2.1
    have q3 := Int.ediv_le_ediv p hi.2.2.1
    have q4 := Int.ediv_le_ediv p hi.2.2.2
    rw [e1] at q1 q2
    rw [e2] at q3 q4
    exact ⟨q1, q2, q3, q4⟩
theorem div_half (x : Int) (k : Nat) : x / 2 ^ k / 2 = x / 2 ^ (k + 1) := by
  rw [Int.pow_succ, Int.ediv_ediv_of_nonneg (Int.pow_nonneg (by omega))]
theorem div_zero' (x : Int) : x / 2 ^ 0 = x := by simp
theorem rect_lv {x0 x1 w : Int} {k : Nat} (a0 : 0 ≤ x0) (a1 : x0 ≤ x1) (a2 : x1 < w) : 0 ≤ x0 / 2 ^ k ∧ x0 / 2 ^ k ≤ x1 / 2 ^ k ∧ x1 / 2 ^ k < lw w k :=
  ⟨Int.ediv_nonneg a0 (Int.le_of_lt (pow2_pos k)), Int.ediv_le_ediv (pow2_pos k) a1, (div_lw (by omega) a2).2⟩

/-- The first i cells of a rectangle, row by row. -/
def doneL (x0 y0 x1 y1 : Int) (rw i : Nat) (x y : Int) : Prop := inR x0 y0 x1 y1 x y ∧ idxOf x0 y0 rw x y < i
def LayR (x0 y0 x1 y1 : Int) (rw i : Nat) (R' R : Int → Int → Int → Int → Prop) (x y a c : Int) : Prop := (doneL x0 y0 x1 y1 rw i x y → R' x y a c) ∧ (¬ doneL x0 y0 x1 y1 rw i x y → R x y a c)
theorem layR_zero {x0 y0 x1 y1 x y a c : Int} {rw : Nat} {R' R : Int → Int → Int → Int → Prop} (h : R x y a c) : LayR x0 y0 x1 y1 rw 0 R' R x y a c :=
  ⟨fun hd => by unfold doneL at hd; omega, fun _ => h⟩
theorem layR_all {x0 y0 x1 y1 x y a c : Int} {rw rh : Nat} {R' R : Int → Int → Int → Int → Prop} (hrw : (rw : Int) = x1 - x0 + 1) (hrh : (rh : Int) = y1 - y0 + 1) (h : LayR x0 y0 x1 y1 rw (rw * rh) R' R x y a c) : MixR x0 y0 x1 y1 R' R x y a c :=
  ⟨fun hi => h.1 ⟨hi, idxOf_lt hrw hrh hi⟩, fun hn => h.2 (fun hd => hn hd.1)⟩
theorem idxOf_this {x0 y0 : Int} {rw I J : Nat} (hI : I < rw) : idxOf x0 y0 rw (x0 + I) (y0 + J) = rw * J + I := by
  unfold idxOf
  have e : (y0 + (J : Int) - y0) * (rw : Int) = ((rw * J : Nat) : Int) := by rw [show y0 + (J : Int) - y0 = (J : Int) by omega]; push_cast; rw [Int.mul_comm]
  rw [e]
  omega
theorem idxOf_inj {x0 y0 x1 y1 x y : Int} {rw I J : Nat} (hrw : (rw : Int) = x1 - x0 + 1) (hI : I < rw) (hi : inR x0 y0 x1 y1 x y) (he : idxOf x0 y0 rw x y = rw * J + I) : x = x0 + I ∧ y = y0 + J := by
  unfold inR at hi
  unfold idxOf at he
  have k1 := lex_lt (X := x - x0) (Y := y - y0) (rw := rw) (J := J) (K := I) (by omega) (by omega) (by omega) (by omega)
  have k2 := lex_lt (X := x - x0) (Y := y - y0) (rw := rw) (J := J) (K := I + 1) (by omega) (by omega) (by omega) (by omega)
  rw [he] at k1 k2
  have n1 := mt k1.2 (by omega)
  have n2 := k2.1 (by omega)
  omega
theorem layR_next {x0 y0 x1 y1 x y a c : Int} {rw I J : Nat} {R' R : Int → Int → Int → Int → Prop} (hrw : (rw : Int) = x1 - x0 + 1) (hI : I < rw) (hn : ¬ (x = x0 + I ∧ y = y0 + J)) (h : LayR x0 y0 x1 y1 rw (rw * J + I) R' R x y a c) : LayR x0 y0 x1 y1 rw (rw * J + I + 1) R' R x y a c := by
  have e : doneL x0 y0 x1 y1 rw (rw * J + I + 1) x y ↔ doneL x0 y0 x1 y1 rw (rw * J + I) x y := by
    unfold doneL
    refine ⟨fun ⟨hi, hlt⟩ => ⟨hi, ?_⟩, fun ⟨hi, hlt⟩ => ⟨hi, by omega⟩⟩
    have : idxOf x0 y0 rw x y ≠ rw * J + I := fun he => hn (idxOf_inj hrw hI hi he)
    omega
  unfold LayR at h ⊢
  rw [e]
  exact h
theorem layR_this {x0 y0 x1 y1 a c : Int} {rw I J : Nat} {R' R : Int → Int → Int → Int → Prop} (hI : I < rw) (hi : inR x0 y0 x1 y1 (x0 + I) (y0 + J)) (h : R' (x0 + I) (y0 + J) a c) : LayR x0 y0 x1 y1 rw (rw * J + I + 1) R' R (x0 + I) (y0 + J) a c :=
  ⟨fun _ => h, fun hn => absurd ⟨hi, by rw [idxOf_this hI]; omega⟩ hn⟩

/-- The levels ahead of the k-th are the one land's, the others the other's. -/
def lvl (fm f : Int → Int → Int) (w h : Int) (k j : Nat) : Int → Int → Int → Int → Prop := if j < k then Rng fm w h j else Rng f w h j
theorem lvl_lt {fm f : Int → Int → Int} {w h : Int} {k j : Nat} (h1 : j < k) : lvl fm f w h k j = Rng fm w h j := by unfold lvl; rw [if_pos h1]
theorem lvl_ge {fm f : Int → Int → Int} {w h : Int} {k j : Nat} (h1 : k ≤ j) : lvl fm f w h k j = Rng f w h j := by unfold lvl; rw [if_neg (by omega)]
theorem PyrRaw.step {W W' : World} {p : Nat} {F : Nat → Prop} {w h : Int} {fm f : Int → Int → Int} {k A cap : Nat} {ps : Array Value} {s : Nat → Nat} (H : PyrRaw W p F w h (lvl fm f w h k) A cap ps s) (hk : k < levs w h)
    (hm : Mod (fun t => t = s k) W W') (hc : CellsAt W' (s k) (lw w k) (lw h k) (Rng fm w h k)) : PyrRaw W' p F w h (lvl fm f w h (k + 1)) A cap ps s := by
  have n1 := H.nep k hk
  refine ⟨H.w1, H.w2, H.h1, H.h2, H.own, H.owna, H.owns, fun t ht => Nat.lt_of_lt_of_le (H.lt t ht) hm.size, H.ne, H.nep, H.inj, H.cap_le, hm.blk H.head (fun e => n1.1 e.symm), hm.blk H.row (fun e => n1.2 e.symm), H.lev, fun j hj => ?_⟩
  by_cases e : j = k
  · subst e
    rw [lvl_lt (by omega)]
    exact hc
  · have hcj := (H.cells j hj).keep (hm.block _ (H.lt _ (H.owns j hj)) (fun e2 => H.inj j k hj hk e e2))
    by_cases hlt : j < k
    · rw [lvl_lt hlt] at hcj
      rw [lvl_lt (by omega)]
      exact hcj
    · rw [lvl_ge (by omega)] at hcj
      rw [lvl_ge (by omega)]
      exact hcj
theorem PyrRaw.turn {W : World} {p : Nat} {F : Nat → Prop} {w h : Int} {R R' : Nat → Int → Int → Int → Int → Prop} {A cap : Nat} {ps : Array Value} {s : Nat → Nat} (H : PyrRaw W p F w h R A cap ps s) (hr : ∀ k, k < levs w h → ∀ x y a c, 0 ≤ x → x < lw w k → 0 ≤ y → y < lw h k → R k x y a c → R' k x y a c) : PyrRaw W p F w h R' A cap ps s :=
  ⟨H.w1, H.w2, H.h1, H.h2, H.own, H.owna, H.owns, H.lt, H.ne, H.nep, H.inj, H.cap_le, H.head, H.row, H.lev, fun k hk => (H.cells k hk).weaken (hr k hk)⟩
end Go.Proofs.Ytfnflgcalhiamaa
