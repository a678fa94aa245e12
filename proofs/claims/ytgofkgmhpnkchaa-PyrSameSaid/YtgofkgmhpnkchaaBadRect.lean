/- grid.Values, pyr.Repair, paint.Paste on a rectangle that is not in the grid, or with other values. -/
import Derived.Test.YtgofkgmhpnkchaaRepair
import Derived.Test.YtgofkgmhpnkchaaPaste
set_option linter.unusedVariables false
set_option linter.unusedSimpArgs false
namespace Go.Proofs.Ytgofkgmhpnkchaa
open Go.RowKit

set_option maxHeartbeats 2000000 in
theorem grid_Values_bad (g : Nat) (F : Nat → Prop) (w h x0 y0 x1 y1 : Int) (f : Int → Int → Int) (W : World) (H : GridAt W g F w h f) (hc : withinC x0 y0 x1 y1 w h ≠ 0) :
    Calls Try.prog 28 #[.pointer (some ⟨g, 0, none⟩), .agg #[.int .i64 x0, .int .i64 y0, .int .i64 x1, .int .i64 y1]] W fun e W' => e = .returned (.tuple #[.slice none 0 0, .int .i64 (withinC x0 y0 x1 y1 w h)]) ∧ Below W.heap.size W W' := by
  have hb : (withinC x0 y0 x1 y1 w h != 0) = true := by simp [hc]
  clear hc
  go_enter Try.func28, Try.ntmps28
  go_wp2_with fail
  have hB := below_alloc1 W (.cells #[.int .i64 x0, .int .i64 y0, .int .i64 x1, .int .i64 y1] 45)
  refine (grid_check_any g F w h _ _ _ _ f _ (H.below hB)).mono ?_
  rintro e w2 ⟨rfl, hb2⟩
  go_wp2_with fail
  go_ret2
  exact ⟨rfl, below_next hB hb2⟩

set_option maxHeartbeats 2000000 in
set_option maxRecDepth 100000 in
theorem repair_bad (p : Nat) (F : Nat → Prop) (g : Nat) (Fg : Nat → Prop) (w h x0 y0 x1 y1 : Int) (f' f : Int → Int → Int) (W : World) (HP : PyrAt W p F w h f) (HG : GridAt W g Fg w h f') (hc : withinC x0 y0 x1 y1 w h ≠ 0) :
    Calls Try.prog 21 #[.pointer (some ⟨p, 0, none⟩), .pointer (some ⟨g, 0, none⟩), .agg #[.int .i64 x0, .int .i64 y0, .int .i64 x1, .int .i64 y1]] W fun e W' => e = .returned (.int .i64 (withinC x0 y0 x1 y1 w h)) ∧ Below W.heap.size W W' := by
  obtain ⟨A, cap, ps, s, HR⟩ := HP
  obtain ⟨d1, d2, d3, d4⟩ := HG.dims
  have hL := levs_bd d1 d2 d3 d4
  have hw0 := lw0 w
  have hh0 := lw0 h
  obtain ⟨e0, e1, e2⟩ := HR.lev 0 (by omega)
  rw [hw0] at e0
  rw [hh0] at e1
  rw [Nat.zero_mul] at e0 e1 e2
  obtain ⟨NA, hNA2⟩ : ∃ NA, area w h 0 = NA := ⟨_, rfl⟩
  rw [hNA2] at e2
  obtain ⟨L, hLe⟩ : ∃ L, levs w h = L := ⟨_, rfl⟩
  have hd := below_blk (below_alloc1 W (.cells #[.int .i64 x0, .int .i64 y0, .int .i64 x1, .int .i64 y1] 45)) HR.head
  have hr := below_blk (below_alloc1 W (.cells #[.int .i64 x0, .int .i64 y0, .int .i64 x1, .int .i64 y1] 45)) HR.row
  rw [hLe] at hd hL
  have hLp : 0 < L := by omega
  have c0 := (blk_cell hr 0).trans e0
  have c1 := (blk_cell hr (0 + 1)).trans e1
  have c2 := (blk_cell hr (0 + 2)).trans e2
  have HCC := Lib.hid hc
  have k_0 := cells_w hd 0 rfl
  clear e0 e1 e2 hNA2 hLe hc hw0 hh0
  go_enter Try.func21, Try.ntmps21
  go_wp2_with fail
  have n5 := below_blk (below_alloc1 _ (.cells #[.int .i64 w, .int .i64 h, .slice (some ⟨s 0, 0, none⟩) NA NA] 97)) (blk_new W (.cells #[.int .i64 x0, .int .i64 y0, .int .i64 x1, .int .i64 y1] 45))
  have n7 := blk_new2 W (.cells #[.int .i64 x0, .int .i64 y0, .int .i64 x1, .int .i64 y1] 45) (.cells #[.int .i64 w, .int .i64 h, .slice (some ⟨s 0, 0, none⟩) NA NA] 97)
  have hB := below_alloc (below_alloc1 W (.cells #[.int .i64 x0, .int .i64 y0, .int .i64 x1, .int .i64 y1] 45)) (.cells #[.int .i64 w, .int .i64 h, .slice (some ⟨s 0, 0, none⟩) NA NA] 97)
  have HG1 := HG.below hB
  refine (grid_Size_ok g Fg w h f' _ HG1).mono ?_
  rintro e w2 ⟨rfl, hb⟩
  replace n5 := below_blk hb n5
  replace n7 := below_blk hb n7
  replace HG1 := HG1.below hb
  replace hB := below_next hB hb
  clear hb hd hr c0 c1 c2 k_0
  have k_0 := cells_w n5 0 rfl
  have k_1 := cells_w n5 1 rfl
  have k_2 := cells_w n5 2 rfl
  have k_3 := cells_w n5 3 rfl
  have l_0 := cells_w n7 0 rfl
  have l_1 := cells_w n7 1 rfl
  have l_2 := cells_w n7 2 rfl
  go_wp2_with fail
  refine (grid_Values_bad g Fg w h x0 y0 x1 y1 f' w2 HG1 HCC.out).mono ?_
  rintro e w3 ⟨rfl, hb⟩
  have hcb : (withinC x0 y0 x1 y1 w h != 0) = true := by simp [HCC.out]
  go_wp2_with fail
  go_ret
  exact ⟨rfl, below_next hB hb⟩

/-- A repair by the land itself. -/
theorem repair_self (p : Nat) (F : Nat → Prop) (g : Nat) (Fg : Nat → Prop) (w h x0 y0 x1 y1 : Int) (f : Int → Int → Int) (W : World) (HP : PyrAt W p F w h f) (HG : GridAt W g Fg w h f) :
    Calls Try.prog 21 #[.pointer (some ⟨p, 0, none⟩), .pointer (some ⟨g, 0, none⟩), .agg #[.int .i64 x0, .int .i64 y0, .int .i64 x1, .int .i64 y1]] W fun e W' => e = .returned (.int .i64 (withinC x0 y0 x1 y1 w h)) ∧ Mod F W W' ∧ PyrAt W' p F w h f := by
  by_cases hc : withinC x0 y0 x1 y1 w h = 0
  · obtain ⟨a0, a1, a2, a3, a4, a5⟩ := withinC_ok.1 hc
    refine (repair_ok p F g Fg w h x0 y0 x1 y1 f f W HP HG a0 a1 a2 a3 a4 a5).mono ?_
    rintro e W' ⟨rfl, hm, hp⟩
    exact ⟨by rw [hc], hm, hp.congr (fun x y _ _ _ _ => by unfold mixF; split <;> rfl)⟩
  · refine (repair_bad p F g Fg w h x0 y0 x1 y1 f f W HP HG hc).mono ?_
    rintro e W' ⟨rfl, hb⟩
    exact ⟨rfl, Mod.of_below hb, HP.below hb⟩
end Go.Proofs.Ytgofkgmhpnkchaa
