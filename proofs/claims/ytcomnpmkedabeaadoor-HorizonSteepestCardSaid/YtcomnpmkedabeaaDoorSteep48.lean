/- hachurelaw48.HorizonSteepest: the walk. -/
import Derived.Test.YtcomnpmkedabeaaDoorRef48
import Derived.Test.YtcomnpmkedabeaaDoorAwake48
import Derived.Test.YtcomnpmkedabeaaDoorMade
set_option linter.unusedVariables false
set_option linter.unusedSimpArgs false
namespace Go.Proofs.YtcomnpmkedabeaaDoor
open Go.RowKit

set_option maxHeartbeats 4000000 in
set_option maxRecDepth 100000 in
theorem steep48_any (w h x y hi dir : Int) (v : Value) (n : Nat) (u : Nat → Int) (W : World) (hv : ArgAt W v n u) (hst : StepsAt W) :
    Calls Tryd.prog 3 #[.int .i64 w, .int .i64 h, v, .agg #[.int .i64 x, .int .i64 y], .int .i64 hi, .int .i64 dir] W fun e W' => e = .returned (.bool true) ∧ Below W.heap.size W W' := by
  go_enter Tryd.func3, Tryd.ntmps3
  go_wp2_with fail
  have n_B := (below_alloc1 W (.cells #[.int .i64 x, .int .i64 y] 24))
  have n_0 : (W.alloc (.cells #[.int .i64 x, .int .i64 y] 24)).heap[W.heap.size]? = some (.cells #[.int .i64 x, .int .i64 y] 24) := (blk_new_at (W := W) (o := .cells #[.int .i64 x, .int .i64 y] 24) (by simp))
  obtain ⟨w1, hw1⟩ : ∃ w1, (W.alloc (.cells #[.int .i64 x, .int .i64 y] 24)) = w1 := ⟨_, rfl⟩
  rw [hw1] at n_0 n_B ⊢
  clear hw1
  refine (awake48_ok _ (hst.below n_B)).mono ?_
  rintro e w2 ⟨rfl, hb⟩
  replace n_0 := below_blk hb n_0
  have hB := below_next n_B hb
  have hst2 := Lib.hid (hst.below hB)
  clear hb n_B hst
  go_wp2_with fail
  refine (land_any w h 1000 v n u w2 (hv.below hB)).mono ?_
  rintro e w3 ⟨hb, ⟨hland, rfl⟩ | ⟨hno, rfl⟩⟩
  rotate_left
  · replace hB := below_next hB hb
    go_wp2_with fail
    go_ret
    exact ⟨rfl, below_alloc hB _⟩
  obtain ⟨o, cap0, rfl, hn1, hn2⟩ := hv.below hB
  obtain ⟨c1, c2, c3, c4, c5, c6, c7⟩ := hland
  have hm1 := Int.mul_le_mul c1 c2 (by omega) (by omega)
  obtain ⟨ad, rfl, hr⟩ := hn2 (by omega)
  replace hr := hr.below hb
  have hst3 := Lib.hid (hst2.out.below hb)
  replace n_0 := below_blk hb n_0
  replace hB := below_next hB hb
  obtain ⟨wn, rfl⟩ : ∃ wn : Nat, w = wn := ⟨w.toNat, by omega⟩
  obtain ⟨hn, rfl⟩ : ∃ hn : Nat, h = hn := ⟨h.toNat, by omega⟩
  have c8 : n = wn * hn := by have : ((wn * hn : Nat) : Int) = wn * hn := by { push_cast; rfl }; omega
  subst c8
  have HC := Lib.hid c6
  have hM := fun j hj => mayB_iff.1 (c7 j hj)
  have hmay : ∀ x y, inG wn hn x y → -2147483648 ≤ (fun x y => u ((y * (wn : Int) + x).toNat)) x y ∧ (fun x y => u ((y * (wn : Int) + x).toNat)) x y ≤ 2147483647 := fun x y hin => by
    obtain ⟨b0, b1, b2, b3⟩ := hin
    have := idx_lt b0 b1 b2 b3
    exact hM _ (by omega)
  have HM := Lib.hid hM
  have HMAY := Lib.hid hmay
  clear hb hv hn2 c6 c7 hm1 c5 hn1 hM hmay hst2
  obtain ⟨N, hN⟩ : ∃ N, wn * hn = N := ⟨_, rfl⟩
  rw [hN] at hr HC HM ⊢
  have HN := Lib.hid hN
  clear hN
  go_wp2_with fail
  have nM := blk_new w3 (.cells #[.int .i64 (wn : Int), .int .i64 (hn : Int), .slice (some ad) N cap0] 27)
  have hb := below_alloc1 w3 (.cells #[.int .i64 (wn : Int), .int .i64 (hn : Int), .slice (some ad) N cap0] 27)
  obtain ⟨w4, hw4⟩ : ∃ w4, w3.alloc (.cells #[.int .i64 (wn : Int), .int .i64 (hn : Int), .slice (some ad) N cap0] 27) = w4 := ⟨_, rfl⟩
  obtain ⟨M, hM⟩ : ∃ M, w3.heap.size = M := ⟨_, rfl⟩
  rw [hM] at nM
  rw [hw4] at nM hb
  rw [hM, hw4]
  replace hr := hr.below hb
  have hst4 := Lib.hid (hst3.out.below hb)
  replace n_0 := below_blk hb n_0
  replace hB := below_next hB hb
  clear hb hw4 hM hst3
  have hm7 := made_ok wn hn w4 (by omega) (by omega) (by omega) (by omega) ad cap0 u (by rw [HN.out]; exact HM.out) (by rw [HN.out]; exact hr)
  rw [HN.out] at hm7
  refine hm7.mono ?_
  clear hm7
  rintro e w5 ⟨g, Fg, rfl, hb, hFg, HG⟩
  replace hr := hr.below hb
  replace nM := below_blk hb nM
  replace n_0 := below_blk hb n_0
  have hst5 := Lib.hid (hst4.out.below hb)
  have hB5 := below_next hB hb
  clear hb hB hFg hst4
  have p_0 := cells_w n_0 0 rfl
  have p_1 := cells_w n_0 1 rfl
  go_wp2_with fail
  by_cases hbad : steepC wn hn x y hi dir = 0
  rotate_left
  · refine (hor_steep_bad g Fg wn hn x y hi dir _ w5 HG (HMAY.out x y) hbad).mono ?_
    rintro e w6 ⟨rfl, hb⟩
    replace nM := below_blk hb nM
    replace n_0 := below_blk hb n_0
    replace hr := hr.below hb
    have hB6 := below_next hB5 hb
    have HBAD := Lib.hid hbad
    clear hb hbad p_0 p_1 HG
    have i_0 := cells_w nM 0 rfl
    have i_1 := cells_w nM 1 rfl
    have i_2 := cells_w nM 2 rfl
    have p_0 := cells_w n_0 0 rfl
    have p_1 := cells_w n_0 1 rfl
    have i0 := fun o o2 => cell_alloc (o := o2) (cell_alloc (o := o) i_0)
    have i1 := fun o o2 => cell_alloc (o := o2) (cell_alloc (o := o) i_1)
    have i2 := fun o o2 => cell_alloc (o := o2) (cell_alloc (o := o) i_2)
    have p0 := fun o o2 => cell_alloc (o := o2) (cell_alloc (o := o) p_0)
    have p1 := fun o o2 => cell_alloc (o := o2) (cell_alloc (o := o) p_1)
    go_wp2_with fail
    clear i0 i1 i2 p0 p1 i_0 i_1 i_2 p_0 p_1
    have q_B := (below_alloc (below_alloc1 w6 (.cells #[.int .i64 0, .int .i64 0] 34)) (.cells #[.int .i64 0, .int .i64 0] 24))
    have q_0 : ((w6.alloc (.cells #[.int .i64 0, .int .i64 0] 34)).alloc (.cells #[.int .i64 0, .int .i64 0] 24)).heap[w6.heap.size]? = some (.cells #[.int .i64 0, .int .i64 0] 34) := below_blk (below_alloc1 (w6.alloc (.cells #[.int .i64 0, .int .i64 0] 34)) (.cells #[.int .i64 0, .int .i64 0] 24)) (blk_new_at (W := w6) (o := .cells #[.int .i64 0, .int .i64 0] 34) (by simp))
    have q_1 : ((w6.alloc (.cells #[.int .i64 0, .int .i64 0] 34)).alloc (.cells #[.int .i64 0, .int .i64 0] 24)).heap[w6.heap.size + 1]? = some (.cells #[.int .i64 0, .int .i64 0] 24) := (blk_new_at (W := (w6.alloc (.cells #[.int .i64 0, .int .i64 0] 34))) (o := .cells #[.int .i64 0, .int .i64 0] 24) (by simp))
    obtain ⟨w7, hw7⟩ : ∃ w7, ((w6.alloc (.cells #[.int .i64 0, .int .i64 0] 34)).alloc (.cells #[.int .i64 0, .int .i64 0] 24)) = w7 := ⟨_, rfl⟩
    rw [hw7] at q_0 q_1 q_B ⊢
    clear hw7
    refine (may25_any ad cap0 N u wn hn x y hi w7 (by omega) (by omega) (by omega) (by omega) HC.out (hr.below q_B)).mono ?_
    rintro e w8 ⟨rfl, hb⟩
    have hB8 := below_next (below_next hB6 q_B) hb
    replace q_0 := below_blk hb q_0
    replace q_1 := below_blk hb q_1
    clear hb q_B hB6
    have i_0 := cells_w q_0 0 rfl
    have i_1 := cells_w q_0 1 rfl
    have p_0 := cells_w q_1 0 rfl
    have p_1 := cells_w q_1 1 rfl
    have hsc : (mayC wn hn x y hi = 0 ∧ steepC wn hn x y hi dir = 11 ∧ ¬ (0 ≤ dir ∧ dir ≤ 7)) ∨ (mayC wn hn x y hi ≠ 0 ∧ steepC wn hn x y hi dir = mayC wn hn x y hi) := by
      have := HBAD.out
      unfold steepC at this ⊢
      by_cases hm : mayC wn hn x y hi = 0
      · rw [if_pos hm] at this ⊢
        split at this
        · simp at this
        · rename_i a; exact .inl ⟨hm, if_neg a, a⟩
      · exact .inr ⟨hm, if_neg hm⟩
    rcases hsc with ⟨hm, hs, hd⟩ | ⟨hm, hs⟩
    · rw [hm, hs]
      clear hm hs
      by_cases k1 : dir < 0
      · have t1 := decide_eq_true k1
        go_wp2_with fail
        go_ret
        exact ⟨rfl, hB8⟩
      · have t1 := decide_eq_false k1
        have t2 : decide (7 < dir) = true := decide_eq_true (by omega)
        go_wp2_with fail
        go_ret
        exact ⟨rfl, hB8⟩
    · rw [hs]
      have hmb : (mayC wn hn x y hi == 0) = false := by simp [hm]
      have hmb2 : (mayC wn hn x y hi != 0) = true := by simp [hm]
      clear hm hs
      go_wp2_with fail
      go_ret
      exact ⟨rfl, hB8⟩
  · obtain ⟨hm, hd1, hd2⟩ := steepC_0.1 hbad
    obtain ⟨k, rfl⟩ : ∃ k : Nat, dir = k := ⟨dir.toNat, by omega⟩
    have hk : k < 8 := by omega
    obtain ⟨nr, hrun⟩ := run_ex (w := wn) (h := hn) (cx := x) (cy := y) c3 c4 (dir_ok hk) (mayC_0.1 hm).1
    have HRUN := Lib.hid hrun
    have HMC := Lib.hid hm
    clear hbad hm hrun
    refine (hor_steep_ok g Fg wn hn x y hi k nr _ w5 HG HMAY.out hst5.out HMC.out hk HRUN.out).mono ?_
    have h48 := ref48_ok ad cap0 N u wn hn x y hi k nr
    unfold BestOut
    unfold Ref48Out bestRow at h48
    obtain ⟨up, hup⟩ : ∃ up, rise (fun x y => u ((y * (wn : Int) + x).toNat)) x y (dX k) (dY k) (u ((y * (wn : Int) + x).toNat) + hi) = up := ⟨_, rfl⟩
    obtain ⟨U, hU⟩ : ∃ U, bUp (fun x y => u ((y * (wn : Int) + x).toNat)) x y (dX k) (dY k) (u ((y * (wn : Int) + x).toNat) + hi) nr = U := ⟨_, rfl⟩
    rw [hup, hU] at h48 ⊢
    obtain ⟨b, hb⟩ : ∃ b, best up nr = b := ⟨_, rfl⟩
    obtain ⟨X, hX⟩ : ∃ X, bAt up x (dX k) nr = X := ⟨_, rfl⟩
    obtain ⟨Y, hY⟩ : ∃ Y, bAt up y (dY k) nr = Y := ⟨_, rfl⟩
    rw [hb, hX, hY] at h48 ⊢
    have H48 := Lib.hid (fun W hr => h48 W c1 c3 c2 c4 HC.out hr HM.out HMC.out hk HRUN.out)
    clear h48 hup hU hb hX hY HRUN
    rintro e w6 ⟨rfl, hb⟩
    replace nM := below_blk hb nM
    replace n_0 := below_blk hb n_0
    replace hr := hr.below hb
    have hB6 := below_next hB5 hb
    clear hb p_0 p_1 HG
    have hbd : decide ((0 : Int) < (b : Int)) = decide (0 < b) := by simp
    have t1 : decide ((k : Int) < 0) = false := decide_eq_false (by omega)
    have t2 : decide ((7 : Int) < (k : Int)) = false := decide_eq_false (by omega)
    have t3 : decide (7 < k) = false := decide_eq_false (by omega)
    have i_0 := cells_w nM 0 rfl
    have i_1 := cells_w nM 1 rfl
    have i_2 := cells_w nM 2 rfl
    have p_0 := cells_w n_0 0 rfl
    have p_1 := cells_w n_0 1 rfl
    have i0 := fun o o2 => cell_alloc (o := o2) (cell_alloc (o := o) i_0)
    have i1 := fun o o2 => cell_alloc (o := o2) (cell_alloc (o := o) i_1)
    have i2 := fun o o2 => cell_alloc (o := o2) (cell_alloc (o := o) i_2)
    have p0 := fun o o2 => cell_alloc (o := o2) (cell_alloc (o := o) p_0)
    have p1 := fun o o2 => cell_alloc (o := o2) (cell_alloc (o := o) p_1)
    go_wp2_with fail
    clear i0 i1 i2 p0 p1 i_0 i_1 i_2 p_0 p_1
    have q_B := (below_alloc (below_alloc1 w6 (.cells #[.int .i64 U, .int .i64 (b : Int)] 34)) (.cells #[.int .i64 X, .int .i64 Y] 24))
    have q_0 : ((w6.alloc (.cells #[.int .i64 U, .int .i64 (b : Int)] 34)).alloc (.cells #[.int .i64 X, .int .i64 Y] 24)).heap[w6.heap.size]? = some (.cells #[.int .i64 U, .int .i64 (b : Int)] 34) := below_blk (below_alloc1 (w6.alloc (.cells #[.int .i64 U, .int .i64 (b : Int)] 34)) (.cells #[.int .i64 X, .int .i64 Y] 24)) (blk_new_at (W := w6) (o := .cells #[.int .i64 U, .int .i64 (b : Int)] 34) (by simp))
    have q_1 : ((w6.alloc (.cells #[.int .i64 U, .int .i64 (b : Int)] 34)).alloc (.cells #[.int .i64 X, .int .i64 Y] 24)).heap[w6.heap.size + 1]? = some (.cells #[.int .i64 X, .int .i64 Y] 24) := (blk_new_at (W := (w6.alloc (.cells #[.int .i64 U, .int .i64 (b : Int)] 34))) (o := .cells #[.int .i64 X, .int .i64 Y] 24) (by simp))
    obtain ⟨w7, hw7⟩ : ∃ w7, ((w6.alloc (.cells #[.int .i64 U, .int .i64 (b : Int)] 34)).alloc (.cells #[.int .i64 X, .int .i64 Y] 24)) = w7 := ⟨_, rfl⟩
    rw [hw7] at q_0 q_1 q_B ⊢
    clear hw7
    replace nM := below_blk q_B nM
    replace n_0 := below_blk q_B n_0
    replace hr := hr.below q_B
    replace hB6 := below_next hB6 q_B
    clear q_B
    refine (may25_any ad cap0 N u wn hn x y hi w7 (by omega) (by omega) (by omega) (by omega) HC.out hr).mono ?_
    rw [HMC.out]
    rintro e w8 ⟨rfl, hb⟩
    replace q_0 := below_blk hb q_0
    replace q_1 := below_blk hb q_1
    replace nM := below_blk hb nM
    replace n_0 := below_blk hb n_0
    replace hr := hr.below hb
    replace hB6 := below_next hB6 hb
    clear hb
    have i_0 := cells_w nM 0 rfl
    have i_1 := cells_w nM 1 rfl
    have i_2 := cells_w nM 2 rfl
    have p_0 := cells_w n_0 0 rfl
    have p_1 := cells_w n_0 1 rfl
    go_wp2_with fail
    refine (H48.out w8 hr).mono ?_
    rintro e w9 ⟨rfl, hb⟩
    replace q_0 := below_blk hb q_0
    replace q_1 := below_blk hb q_1
    replace hB6 := below_next hB6 hb
    clear hb i_0 i_1 i_2 p_0 p_1 nM n_0 hr
    have i_0 := cells_w q_0 0 rfl
    have i_1 := cells_w q_0 1 rfl
    have p_0 := cells_w q_1 0 rfl
    have p_1 := cells_w q_1 1 rfl
    have i0 := fun o => cell_alloc (o := o) i_0
    have i1 := fun o => cell_alloc (o := o) i_1
    have p0 := fun o => cell_alloc (o := o) p_0
    have p1 := fun o => cell_alloc (o := o) p_1
    go_wp2_with fail
    go_ret
    refine ⟨?_, below_alloc hB6 _⟩
    first | rfl | simp
end Go.Proofs.YtcomnpmkedabeaaDoor
