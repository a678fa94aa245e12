/- hachureref07.Within: the code of a rectangle in a grid whose size can be. -/
import Derived.Test.YtgofkgmhpnkchaaRect
set_option linter.unusedVariables false
set_option linter.unusedSimpArgs false
namespace Go.Proofs.Ytgofkgmhpnkchaa
open Go.RowKit

set_option maxHeartbeats 2000000 in
set_option maxRecDepth 100000 in
theorem within07_any (x0 y0 x1 y1 w h : Int) (W : World) (w1 : 1 ≤ w) (w2 : w ≤ 1024) (h1 : 1 ≤ h) (h2 : h ≤ 1024) :
    Calls Try.prog 20 #[.agg #[.int .i64 x0, .int .i64 y0, .int .i64 x1, .int .i64 y1], .int .i64 w, .int .i64 h] W fun r w' => r = .returned (.int .i64 (withinC x0 y0 x1 y1 w h)) ∧ Below W.heap.size W w' := by
  have d1 : decide (w < 1) = false := decide_eq_false (by omega)
  have d2 : decide (1024 < w) = false := decide_eq_false (by omega)
  have d3 : decide (h < 1) = false := decide_eq_false (by omega)
  have d4 : decide (1024 < h) = false := decide_eq_false (by omega)
  have D := And.intro w1 (And.intro w2 (And.intro h1 h2))
  have HD := Lib.hid D
  clear w1 w2 h1 h2 D
  by_cases c1 : x0 < 0
  · have t1 : decide (x0 < 0) = true := decide_eq_true c1
    rw [show withinC x0 y0 x1 y1 w h = 4 from by unfold withinC; rw [if_neg (by omega)]]
    go_enter Try.func20, Try.ntmps20
    go_wp2_with fail
    go_ret
    exact ⟨rfl, below_alloc1 _ _⟩
  have t1 : decide (x0 < 0) = false := decide_eq_false c1
  by_cases c2 : w ≤ x0
  · have t2 : decide (w ≤ x0) = true := decide_eq_true c2
    rw [show withinC x0 y0 x1 y1 w h = 4 from by unfold withinC; rw [if_neg (by omega)]]
    go_enter Try.func20, Try.ntmps20
    go_wp2_with fail
    go_ret
    exact ⟨rfl, below_alloc1 _ _⟩
  have t2 : decide (w ≤ x0) = false := decide_eq_false c2
  by_cases c3 : x1 < 0
  · have t3 : decide (x1 < 0) = true := decide_eq_true c3
    rw [show withinC x0 y0 x1 y1 w h = 4 from by unfold withinC; rw [if_neg (by omega)]]
    go_enter Try.func20, Try.ntmps20
    go_wp2_with fail
    go_ret
    exact ⟨rfl, below_alloc1 _ _⟩
  have t3 : decide (x1 < 0) = false := decide_eq_false c3
  by_cases c4 : w ≤ x1
  · have t4 : decide (w ≤ x1) = true := decide_eq_true c4
    rw [show withinC x0 y0 x1 y1 w h = 4 from by unfold withinC; rw [if_neg (by omega)]]
    go_enter Try.func20, Try.ntmps20
    go_wp2_with fail
    go_ret
    exact ⟨rfl, below_alloc1 _ _⟩
  have t4 : decide (w ≤ x1) = false := decide_eq_false c4
  by_cases c5 : y0 < 0
  · have t5 : decide (y0 < 0) = true := decide_eq_true c5
    rw [show withinC x0 y0 x1 y1 w h = 4 from by unfold withinC; rw [if_neg (by omega)]]
    go_enter Try.func20, Try.ntmps20
    go_wp2_with fail
    go_ret
    exact ⟨rfl, below_alloc1 _ _⟩
  have t5 : decide (y0 < 0) = false := decide_eq_false c5
  by_cases c6 : h ≤ y0
  · have t6 : decide (h ≤ y0) = true := decide_eq_true c6
    rw [show withinC x0 y0 x1 y1 w h = 4 from by unfold withinC; rw [if_neg (by omega)]]
    go_enter Try.func20, Try.ntmps20
    go_wp2_with fail
    go_ret
    exact ⟨rfl, below_alloc1 _ _⟩
  have t6 : decide (h ≤ y0) = false := decide_eq_false c6
  by_cases c7 : y1 < 0
  · have t7 : decide (y1 < 0) = true := decide_eq_true c7
    rw [show withinC x0 y0 x1 y1 w h = 4 from by unfold withinC; rw [if_neg (by omega)]]
    go_enter Try.func20, Try.ntmps20
    go_wp2_with fail
    go_ret
    exact ⟨rfl, below_alloc1 _ _⟩
  have t7 : decide (y1 < 0) = false := decide_eq_false c7
  by_cases c8 : h ≤ y1
  · have t8 : decide (h ≤ y1) = true := decide_eq_true c8
    rw [show withinC x0 y0 x1 y1 w h = 4 from by unfold withinC; rw [if_neg (by omega)]]
    go_enter Try.func20, Try.ntmps20
    go_wp2_with fail
    go_ret
    exact ⟨rfl, below_alloc1 _ _⟩
  have t8 : decide (h ≤ y1) = false := decide_eq_false c8
  by_cases c9 : x1 < x0
  · have t9 : decide (x1 < x0) = true := decide_eq_true c9
    rw [show withinC x0 y0 x1 y1 w h = 5 from by unfold withinC; rw [if_pos (by omega), if_neg (by omega)]]
    go_enter Try.func20, Try.ntmps20
    go_wp2_with fail
    go_ret
    exact ⟨rfl, below_alloc1 _ _⟩
  have t9 : decide (x1 < x0) = false := decide_eq_false c9
  by_cases c10 : y1 < y0
  · have t10 : decide (y1 < y0) = true := decide_eq_true c10
    rw [show withinC x0 y0 x1 y1 w h = 5 from by unfold withinC; rw [if_pos (by omega), if_neg (by omega)]]
    go_enter Try.func20, Try.ntmps20
    go_wp2_with fail
    go_ret
    exact ⟨rfl, below_alloc1 _ _⟩
  have t10 : decide (y1 < y0) = false := decide_eq_false c10
  rw [show withinC x0 y0 x1 y1 w h = 0 from by unfold withinC; rw [if_pos (by omega), if_pos (by omega)]]
  go_enter Try.func20, Try.ntmps20
  go_wp2_with fail
  go_ret
  exact ⟨rfl, below_alloc1 _ _⟩
end Go.Proofs.Ytgofkgmhpnkchaa
