/- Contracts of package rect. -/
import Derived.Test.YtcomnpmkedabeaaDoorTail
set_option linter.unusedVariables false
set_option linter.unusedSimpArgs false
namespace Go.Proofs.YtcomnpmkedabeaaDoor
open Go.RowKit

theorem inside_any (n e : Int) (w : World) :
    Calls Tryd.prog 50 #[.int .i64 n, .int .i64 e] w fun r w' => r = .returned (.bool (decide (0 ≤ n ∧ n < e))) ∧ w = w' := by
  go_enter Tryd.func50, Tryd.ntmps50
  by_cases h : 0 ≤ n
  · have h1 : decide (0 ≤ n) = true := decide_eq_true h
    by_cases h2 : n < e
    · go_wp2; go_ret; exact ⟨by simp [h, h2], rfl⟩
    · go_wp2; go_ret; exact ⟨by simp [h, h2], rfl⟩
  · have h1 : decide (0 ≤ n) = false := decide_eq_false h
    go_wp2; go_ret; exact ⟨by simp [h], rfl⟩
theorem inside_yes (n e : Int) (w : World) (h0 : 0 ≤ n) (h1 : n < e) :
    Calls Tryd.prog 50 #[.int .i64 n, .int .i64 e] w fun r w' => r = .returned (.bool true) ∧ w = w' :=
  (inside_any n e w).mono fun _ _ h => by simpa [h0, h1] using h
theorem inside_no (n e : Int) (w : World) (h : n < 0 ∨ e ≤ n) :
    Calls Tryd.prog 50 #[.int .i64 n, .int .i64 e] w fun r w' => r = .returned (.bool false) ∧ w = w' :=
  (inside_any n e w).mono fun _ _ hh => by
    have : ¬ (0 ≤ n ∧ n < e) := by omega
    simpa [this] using hh

/-- The code of a rectangle in a grid whose size can be. -/
def withinC (x0 y0 x1 y1 W H : Int) : Int :=
  if 0 ≤ x0 ∧ x0 < W ∧ 0 ≤ x1 ∧ x1 < W ∧ 0 ≤ y0 ∧ y0 < H ∧ 0 ≤ y1 ∧ y1 < H then (if x0 ≤ x1 ∧ y0 ≤ y1 then 0 else 5) else 4

theorem withinC_ok {x0 y0 x1 y1 W H : Int} : withinC x0 y0 x1 y1 W H = 0 ↔ (0 ≤ x0 ∧ x0 ≤ x1 ∧ x1 < W ∧ 0 ≤ y0 ∧ y0 ≤ y1 ∧ y1 < H) := by
  unfold withinC
  constructor
  · intro h
    split at h
    · split at h
      · omega
      · simp at h
    · simp at h
  · intro h
    rw [if_pos (by omega), if_pos (by omega)]

set_option maxHeartbeats 1000000 in
theorem within_ok (x0 y0 x1 y1 W H : Int) (w : World) (hW : 1 ≤ W) (hW' : W ≤ 1024) (hH : 1 ≤ H) (hH' : H ≤ 1024) (h0 : 0 ≤ x0) (h1 : x0 ≤ x1) (h2 : x1 < W) (h3 : 0 ≤ y0) (h4 : y0 ≤ y1) (h5 : y1 < H) :
    Calls Tryd.prog 30 #[.agg #[.int .i64 x0, .int .i64 y0, .int .i64 x1, .int .i64 y1], .int .i64 W, .int .i64 H] w fun r w' => r = .returned (.int .i64 0) ∧ Below w.heap.size w w' := by
  have q1 : decide (x1 < x0) = false := decide_eq_false (by omega)
  have q2 : decide (y1 < y0) = false := decide_eq_false (by omega)
  go_enter Tryd.func30, Tryd.ntmps30
  go_wp2_with (go_at_call 50; refine (inside_yes _ _ _ (by omega) (by omega)).mono ?_; rintro e w' ⟨rfl, rfl⟩)
  go_ret
  exact ⟨rfl, below_alloc1 _ _⟩

set_option maxHeartbeats 1000000 in
theorem within_turned (x0 y0 x1 y1 W H : Int) (w : World) (hW : 1 ≤ W) (hW' : W ≤ 1024) (hH : 1 ≤ H) (hH' : H ≤ 1024) (h0 : 0 ≤ x0) (h1 : x0 < W) (h2 : 0 ≤ x1) (h2' : x1 < W) (h3 : 0 ≤ y0) (h3' : y0 < H) (h4 : 0 ≤ y1) (h5 : y1 < H) (ht : x1 < x0 ∨ y1 < y0) :
    Calls Tryd.prog 30 #[.agg #[.int .i64 x0, .int .i64 y0, .int .i64 x1, .int .i64 y1], .int .i64 W, .int .i64 H] w fun r w' => r = .returned (.int .i64 5) ∧ Below w.heap.size w w' := by
  by_cases hx : x1 < x0
  · have q1 : decide (x1 < x0) = true := decide_eq_true hx
    go_enter Tryd.func30, Tryd.ntmps30
    go_wp2_with (go_at_call 50; refine (inside_yes _ _ _ (by omega) (by omega)).mono ?_; rintro e w' ⟨rfl, rfl⟩)
    go_ret
    exact ⟨rfl, below_alloc1 _ _⟩
  · have q1 : decide (x1 < x0) = false := decide_eq_false hx
    have q2 : decide (y1 < y0) = true := decide_eq_true (by omega)
    go_enter Tryd.func30, Tryd.ntmps30
    go_wp2_with (go_at_call 50; refine (inside_yes _ _ _ (by omega) (by omega)).mono ?_; rintro e w' ⟨rfl, rfl⟩)
    go_ret
    exact ⟨rfl, below_alloc1 _ _⟩

set_option maxHeartbeats 1000000 in
theorem within_place (x0 y0 x1 y1 W H : Int) (w : World) (hW : 1 ≤ W) (hW' : W ≤ 1024) (hH : 1 ≤ H) (hH' : H ≤ 1024) (hn : ¬ (0 ≤ x0 ∧ x0 < W ∧ 0 ≤ x1 ∧ x1 < W ∧ 0 ≤ y0 ∧ y0 < H ∧ 0 ≤ y1 ∧ y1 < H)) :
    Calls Tryd.prog 30 #[.agg #[.int .i64 x0, .int .i64 y0, .int .i64 x1, .int .i64 y1], .int .i64 W, .int .i64 H] w fun r w' => r = .returned (.int .i64 4) ∧ Below w.heap.size w w' := by
  by_cases a0 : 0 ≤ x0 ∧ x0 < W
  · by_cases a1 : 0 ≤ x1 ∧ x1 < W
    · by_cases a2 : 0 ≤ y0 ∧ y0 < H
      · have a3 : y1 < 0 ∨ H ≤ y1 := by omega
        clear hn
        go_enter Tryd.func30, Tryd.ntmps30
        go_wp2_with (first | (go_at_call 50; refine (inside_yes _ _ _ (by omega) (by omega)).mono ?_; rintro e w' ⟨rfl, rfl⟩) | (go_at_call 50; refine (inside_no _ _ _ (by omega)).mono ?_; rintro e w' ⟨rfl, rfl⟩))
        go_ret
        exact ⟨rfl, below_alloc1 _ _⟩
      · have a3 : y0 < 0 ∨ H ≤ y0 := by omega
        clear hn a2
        go_enter Tryd.func30, Tryd.ntmps30
        go_wp2_with (first | (go_at_call 50; refine (inside_yes _ _ _ (by omega) (by omega)).mono ?_; rintro e w' ⟨rfl, rfl⟩) | (go_at_call 50; refine (inside_no _ _ _ (by omega)).mono ?_; rintro e w' ⟨rfl, rfl⟩))
        go_ret
        exact ⟨rfl, below_alloc1 _ _⟩
    · have a3 : x1 < 0 ∨ W ≤ x1 := by omega
      clear hn a1
      go_enter Tryd.func30, Tryd.ntmps30
      go_wp2_with (first | (go_at_call 50; refine (inside_yes _ _ _ (by omega) (by omega)).mono ?_; rintro e w' ⟨rfl, rfl⟩) | (go_at_call 50; refine (inside_no _ _ _ (by omega)).mono ?_; rintro e w' ⟨rfl, rfl⟩))
      go_ret
      exact ⟨rfl, below_alloc1 _ _⟩
  · have a3 : x0 < 0 ∨ W ≤ x0 := by omega
    clear hn a0
    go_enter Tryd.func30, Tryd.ntmps30
    go_wp2_with (first | (go_at_call 50; refine (inside_yes _ _ _ (by omega) (by omega)).mono ?_; rintro e w' ⟨rfl, rfl⟩) | (go_at_call 50; refine (inside_no _ _ _ (by omega)).mono ?_; rintro e w' ⟨rfl, rfl⟩))
    go_ret
    exact ⟨rfl, below_alloc1 _ _⟩

theorem within_any (x0 y0 x1 y1 W H : Int) (w : World) (hW : 1 ≤ W) (hW' : W ≤ 1024) (hH : 1 ≤ H) (hH' : H ≤ 1024) :
    Calls Tryd.prog 30 #[.agg #[.int .i64 x0, .int .i64 y0, .int .i64 x1, .int .i64 y1], .int .i64 W, .int .i64 H] w fun r w' => r = .returned (.int .i64 (withinC x0 y0 x1 y1 W H)) ∧ Below w.heap.size w w' := by
  by_cases h : 0 ≤ x0 ∧ x0 < W ∧ 0 ≤ x1 ∧ x1 < W ∧ 0 ≤ y0 ∧ y0 < H ∧ 0 ≤ y1 ∧ y1 < H
  · by_cases h2 : x0 ≤ x1 ∧ y0 ≤ y1
    · rw [show withinC x0 y0 x1 y1 W H = 0 from by unfold withinC; rw [if_pos h, if_pos h2]]
      exact within_ok _ _ _ _ _ _ _ hW hW' hH hH' (by omega) (by omega) (by omega) (by omega) (by omega) (by omega)
    · rw [show withinC x0 y0 x1 y1 W H = 5 from by unfold withinC; rw [if_pos h, if_neg h2]]
      exact within_turned _ _ _ _ _ _ _ hW hW' hH hH' (by omega) (by omega) (by omega) (by omega) (by omega) (by omega) (by omega) (by omega) (by omega)
  · rw [show withinC x0 y0 x1 y1 W H = 4 from by unfold withinC; rw [if_neg h]]
    exact within_place _ _ _ _ _ _ _ hW hW' hH hH' h

theorem right_any (x0 y0 x1 y1 : Int) (w : World) :
    Calls Tryd.prog 51 #[.agg #[.int .i64 x0, .int .i64 y0, .int .i64 x1, .int .i64 y1]] w fun r w' => r = .returned (.bool (withinC x0 y0 x1 y1 1024 1024 == 0)) ∧ Below w.heap.size w w' := by
  go_enter Tryd.func51, Tryd.ntmps51
  go_wp2_with fail
  refine (within_any _ _ _ _ _ _ _ (by omega) (by omega) (by omega) (by omega)).mono ?_
  rintro e w1 ⟨rfl, hb⟩
  go_wp2_with fail
  go_ret
  exact ⟨rfl, (below_alloc1 _ _).trans (hb.mono (by simp))⟩
theorem right_ok (x0 y0 x1 y1 : Int) (w : World) (h0 : 0 ≤ x0) (h1 : x0 ≤ x1) (h2 : x1 < 1024) (h3 : 0 ≤ y0) (h4 : y0 ≤ y1) (h5 : y1 < 1024) :
    Calls Tryd.prog 51 #[.agg #[.int .i64 x0, .int .i64 y0, .int .i64 x1, .int .i64 y1]] w fun r w' => r = .returned (.bool true) ∧ Below w.heap.size w w' :=
  (right_any x0 y0 x1 y1 w).mono fun e w' h => by
    rw [withinC_ok.2 ⟨h0, h1, h2, h3, h4, h5⟩] at h
    simpa using h

theorem width_any (x0 y0 x1 y1 : Int) (w : World) (h0 : 0 ≤ x0) (h1 : x0 < 2000) (h2 : 0 ≤ x1) (h3 : x1 < 2000) :
    Calls Tryd.prog 68 #[.agg #[.int .i64 x0, .int .i64 y0, .int .i64 x1, .int .i64 y1]] w fun r w' => r = .returned (.int .i64 (x1 - x0 + 1)) ∧ Below w.heap.size w w' := by
  go_enter Tryd.func68, Tryd.ntmps68
  go_wp2
  go_ret
  exact ⟨rfl, below_alloc1 _ _⟩

end Go.Proofs.YtcomnpmkedabeaaDoor
