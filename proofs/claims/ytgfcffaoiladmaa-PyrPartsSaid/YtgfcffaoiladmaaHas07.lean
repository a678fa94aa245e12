/- hachureref07.Right and Has, of a right rectangle. -/
import Derived.Test.YtgfcffaoiladmaaMix
set_option linter.unusedVariables false
set_option linter.unusedSimpArgs false
namespace Go.Proofs.Ytgfcffaoiladmaa
open Go.RowKit

set_option maxHeartbeats 1000000 in
theorem right07_ok (x0 y0 x1 y1 : Int) (W : World) (a0 : 0 ≤ x0) (a1 : x0 ≤ x1) (a2 : x1 < 1024) (a3 : 0 ≤ y0) (a4 : y0 ≤ y1) (a5 : y1 < 1024) :
    Calls Try.prog 46 #[.agg #[.int .i64 x0, .int .i64 y0, .int .i64 x1, .int .i64 y1]] W fun e W' => e = .returned (.bool true) ∧ Below W.heap.size W W' := by
  have t1 : decide (0 ≤ x0) = true := decide_eq_true a0
  have t2 : decide (x0 ≤ x1) = true := decide_eq_true a1
  have t3 : decide (x1 < 1024) = true := decide_eq_true a2
  have t4 : decide (0 ≤ y0) = true := decide_eq_true a3
  have t5 : decide (y0 ≤ y1) = true := decide_eq_true a4
  have t6 : decide (y1 < 1024) = true := decide_eq_true a5
  go_enter Try.func46, Try.ntmps46
  go_wp2_with fail
  go_ret
  exact ⟨rfl, below_alloc1 _ _⟩
/-- Does a rectangle have a cell? -/
def hasB (x0 y0 x1 y1 x y : Int) : Bool := decide (x0 ≤ x) && decide (x ≤ x1) && decide (y0 ≤ y) && decide (y ≤ y1)
theorem has_iff {x0 y0 x1 y1 x y : Int} : hasB x0 y0 x1 y1 x y = true ↔ inR x0 y0 x1 y1 x y := by
  unfold hasB inR
  simp
  omega
set_option maxHeartbeats 1000000 in
theorem has07_ok (x0 y0 x1 y1 x y : Int) (W : World) (a0 : 0 ≤ x0) (a1 : x0 ≤ x1) (a2 : x1 < 1024) (a3 : 0 ≤ y0) (a4 : y0 ≤ y1) (a5 : y1 < 1024) :
    Calls Try.prog 16 #[.agg #[.int .i64 x0, .int .i64 y0, .int .i64 x1, .int .i64 y1], .agg #[.int .i64 x, .int .i64 y]] W fun e W' => e = .returned (.bool (hasB x0 y0 x1 y1 x y)) ∧ Below W.heap.size W W' := by
  by_cases c1 : x0 ≤ x
  · have t1 := decide_eq_true c1
    by_cases c2 : x ≤ x1
    · have t2 := decide_eq_true c2
      by_cases c3 : y0 ≤ y
      · have t3 := decide_eq_true c3
        by_cases c4 : y ≤ y1
        · have t4 := decide_eq_true c4
          have e : hasB x0 y0 x1 y1 x y = true := by unfold hasB; simp [c1, c2, c3, c4]
          rw [e]
          clear e
          go_enter Try.func16, Try.ntmps16
          go_wp2_with fail
          have n0 := below_blk (below_alloc1 _ (.cells #[.int .i64 x, .int .i64 y] 41)) (blk_new W (.cells #[.int .i64 x0, .int .i64 y0, .int .i64 x1, .int .i64 y1] 24))
          have n1 := blk_new2 W (.cells #[.int .i64 x0, .int .i64 y0, .int .i64 x1, .int .i64 y1] 24) (.cells #[.int .i64 x, .int .i64 y] 41)
          have hB := below_alloc (below_alloc1 W (.cells #[.int .i64 x0, .int .i64 y0, .int .i64 x1, .int .i64 y1] 24)) (.cells #[.int .i64 x, .int .i64 y] 41)
          refine (right07_ok x0 y0 x1 y1 _ a0 a1 a2 a3 a4 a5).mono ?_
          rintro e w2 ⟨rfl, hb⟩
          replace n0 := below_blk hb n0
          replace n1 := below_blk hb n1
          replace hB := below_next hB hb
          have k_0 := cells_w n0 0 rfl
          have k_1 := cells_w n0 1 rfl
          have k_2 := cells_w n0 2 rfl
          have k_3 := cells_w n0 3 rfl
          have l_0 := cells_w n1 0 rfl
          have l_1 := cells_w n1 1 rfl
          go_wp2_with fail
          go_ret
          exact ⟨rfl, hB⟩
        · have t4 := decide_eq_false c4
          have e : hasB x0 y0 x1 y1 x y = false := by unfold hasB; simp [c4]
          rw [e]
          clear e
          go_enter Try.func16, Try.ntmps16
          go_wp2_with fail
          have n0 := below_blk (below_alloc1 _ (.cells #[.int .i64 x, .int .i64 y] 41)) (blk_new W (.cells #[.int .i64 x0, .int .i64 y0, .int .i64 x1, .int .i64 y1] 24))
          have n1 := blk_new2 W (.cells #[.int .i64 x0, .int .i64 y0, .int .i64 x1, .int .i64 y1] 24) (.cells #[.int .i64 x, .int .i64 y] 41)
          have hB := below_alloc (below_alloc1 W (.cells #[.int .i64 x0, .int .i64 y0, .int .i64 x1, .int .i64 y1] 24)) (.cells #[.int .i64 x, .int .i64 y] 41)
          refine (right07_ok x0 y0 x1 y1 _ a0 a1 a2 a3 a4 a5).mono ?_
          rintro e w2 ⟨rfl, hb⟩
          replace n0 := below_blk hb n0
          replace n1 := below_blk hb n1
          replace hB := below_next hB hb
          have k_0 := cells_w n0 0 rfl
          have k_1 := cells_w n0 1 rfl
          have k_2 := cells_w n0 2 rfl
          have k_3 := cells_w n0 3 rfl
          have l_0 := cells_w n1 0 rfl
          have l_1 := cells_w n1 1 rfl
          go_wp2_with fail
          go_ret
          exact ⟨rfl, hB⟩
      · have t3 := decide_eq_false c3
        have e : hasB x0 y0 x1 y1 x y = false := by unfold hasB; simp [c3]
        rw [e]
        clear e
        go_enter Try.func16, Try.ntmps16
        go_wp2_with fail
        have n0 := below_blk (below_alloc1 _ (.cells #[.int .i64 x, .int .i64 y] 41)) (blk_new W (.cells #[.int .i64 x0, .int .i64 y0, .int .i64 x1, .int .i64 y1] 24))
        have n1 := blk_new2 W (.cells #[.int .i64 x0, .int .i64 y0, .int .i64 x1, .int .i64 y1] 24) (.cells #[.int .i64 x, .int .i64 y] 41)
        have hB := below_alloc (below_alloc1 W (.cells #[.int .i64 x0, .int .i64 y0, .int .i64 x1, .int .i64 y1] 24)) (.cells #[.int .i64 x, .int .i64 y] 41)
        refine (right07_ok x0 y0 x1 y1 _ a0 a1 a2 a3 a4 a5).mono ?_
        rintro e w2 ⟨rfl, hb⟩
        replace n0 := below_blk hb n0
        replace n1 := below_blk hb n1
        replace hB := below_next hB hb
        have k_0 := cells_w n0 0 rfl
        have k_1 := cells_w n0 1 rfl
        have k_2 := cells_w n0 2 rfl
        have k_3 := cells_w n0 3 rfl
        have l_0 := cells_w n1 0 rfl
        have l_1 := cells_w n1 1 rfl
        go_wp2_with fail
        go_ret
        exact ⟨rfl, hB⟩
    · have t2 := decide_eq_false c2
      have e : hasB x0 y0 x1 y1 x y = false := by unfold hasB; simp [c2]
      rw [e]
      clear e
      go_enter Try.func16, Try.ntmps16
      go_wp2_with fail
      have n0 := below_blk (below_alloc1 _ (.cells #[.int .i64 x, .int .i64 y] 41)) (blk_new W (.cells #[.int .i64 x0, .int .i64 y0, .int .i64 x1, .int .i64 y1] 24))
      have n1 := blk_new2 W (.cells #[.int .i64 x0, .int .i64 y0, .int .i64 x1, .int .i64 y1] 24) (.cells #[.int .i64 x, .int .i64 y] 41)
      have hB := below_alloc (below_alloc1 W (.cells #[.int .i64 x0, .int .i64 y0, .int .i64 x1, .int .i64 y1] 24)) (.cells #[.int .i64 x, .int .i64 y] 41)
      refine (right07_ok x0 y0 x1 y1 _ a0 a1 a2 a3 a4 a5).mono ?_
      rintro e w2 ⟨rfl, hb⟩
      replace n0 := below_blk hb n0
      replace n1 := below_blk hb n1
      replace hB := below_next hB hb
      have k_0 := cells_w n0 0 rfl
      have k_1 := cells_w n0 1 rfl
      have k_2 := cells_w n0 2 rfl
      have k_3 := cells_w n0 3 rfl
      have l_0 := cells_w n1 0 rfl
      have l_1 := cells_w n1 1 rfl
      go_wp2_with fail
      go_ret
      exact ⟨rfl, hB⟩
  · have t1 := decide_eq_false c1
    have e : hasB x0 y0 x1 y1 x y = false := by unfold hasB; simp [c1]
    rw [e]
    clear e
    go_enter Try.func16, Try.ntmps16
    go_wp2_with fail
    have n0 := below_blk (below_alloc1 _ (.cells #[.int .i64 x, .int .i64 y] 41)) (blk_new W (.cells #[.int .i64 x0, .int .i64 y0, .int .i64 x1, .int .i64 y1] 24))
    have n1 := blk_new2 W (.cells #[.int .i64 x0, .int .i64 y0, .int .i64 x1, .int .i64 y1] 24) (.cells #[.int .i64 x, .int .i64 y] 41)
    have hB := below_alloc (below_alloc1 W (.cells #[.int .i64 x0, .int .i64 y0, .int .i64 x1, .int .i64 y1] 24)) (.cells #[.int .i64 x, .int .i64 y] 41)
    refine (right07_ok x0 y0 x1 y1 _ a0 a1 a2 a3 a4 a5).mono ?_
    rintro e w2 ⟨rfl, hb⟩
    replace n0 := below_blk hb n0
    replace n1 := below_blk hb n1
    replace hB := below_next hB hb
    have k_0 := cells_w n0 0 rfl
    have k_1 := cells_w n0 1 rfl
    have k_2 := cells_w n0 2 rfl
    have k_3 := cells_w n0 3 rfl
    have l_0 := cells_w n1 0 rfl
    have l_1 := cells_w n1 1 rfl
    go_wp2_with fail
    go_ret
    exact ⟨rfl, hB⟩
theorem has07_in (x0 y0 x1 y1 x y : Int) (W : World) (a0 : 0 ≤ x0) (a1 : x0 ≤ x1) (a2 : x1 < 1024) (a3 : 0 ≤ y0) (a4 : y0 ≤ y1) (a5 : y1 < 1024) (h : inR x0 y0 x1 y1 x y) :
    Calls Try.prog 16 #[.agg #[.int .i64 x0, .int .i64 y0, .int .i64 x1, .int .i64 y1], .agg #[.int .i64 x, .int .i64 y]] W fun e W' => e = .returned (.bool true) ∧ Below W.heap.size W W' :=
  (has07_ok x0 y0 x1 y1 x y W a0 a1 a2 a3 a4 a5).mono fun e W' hh => by rw [has_iff.2 h] at hh; exact hh
theorem has07_out (x0 y0 x1 y1 x y : Int) (W : World) (a0 : 0 ≤ x0) (a1 : x0 ≤ x1) (a2 : x1 < 1024) (a3 : 0 ≤ y0) (a4 : y0 ≤ y1) (a5 : y1 < 1024) (h : ¬ inR x0 y0 x1 y1 x y) :
    Calls Try.prog 16 #[.agg #[.int .i64 x0, .int .i64 y0, .int .i64 x1, .int .i64 y1], .agg #[.int .i64 x, .int .i64 y]] W fun e W' => e = .returned (.bool false) ∧ Below W.heap.size W W' :=
  (has07_ok x0 y0 x1 y1 x y W a0 a1 a2 a3 a4 a5).mono fun e W' hh => by rw [show hasB x0 y0 x1 y1 x y = false from by rw [Bool.eq_false_iff]; exact fun hc => h (has_iff.1 hc)] at hh; exact hh
end Go.Proofs.Ytgfcffaoiladmaa
