/- hachureref08.Model.At. -/
import Derived.Test.YtcomnpmkedabeaaDoorGridAny
import Derived.Test.YtcomnpmkedabeaaDoorFind64
set_option linter.unusedVariables false
set_option linter.unusedSimpArgs false
namespace Go.Proofs.YtcomnpmkedabeaaDoor
open Go.RowKit

set_option maxHeartbeats 2000000 in
set_option maxRecDepth 100000 in
theorem model_At_any (ad : Addr) (cap N : Nat) (u : Nat → Int) (w h x y : Int) (W : World) (w1 : 1 ≤ w) (w2 : w ≤ 1024) (h1 : 1 ≤ h) (h2 : h ≤ 1024) (hN : (N : Int) = w * h) (hrow : RowAt W ad N u) :
    Calls Tryd.prog 22 #[.agg #[.int .i64 w, .int .i64 h, .slice (some ad) N cap], .agg #[.int .i64 x, .int .i64 y]] W
      fun e W' => e = .returned (.tuple #[.int .i64 (atV (fun x y => u ((y * w + x).toNat)) w h x y), .int .i64 (atC w h x y)]) ∧ Below W.heap.size W W' := by
  by_cases hin : inG w h x y
  · rw [atV_in hin, atC_in hin]
    obtain ⟨a1, a2, a3, a4⟩ := hin
    have hi := idx_lt a1 a2 a3 a4
    have hm := mul_bd (a := y) (b := w) (A := 1024) (B := 1024) a3 (by omega) (by omega) w2
    obtain ⟨i, hi3⟩ : ∃ i : Nat, (y * w + x).toNat = i := ⟨_, rfl⟩
    obtain ⟨m, hmm⟩ : ∃ m, y * w = m := ⟨_, rfl⟩
    have hiN : i < N := by omega
    have hc0 := hrow i hiN
    have hc1 := below_cell (below_alloc (below_alloc1 W (.cells #[.int .i64 w, .int .i64 h, .slice (some ad) N cap] 27)) (.cells #[.int .i64 x, .int .i64 y] 24)) hc0
    have wm : wrap64 (y * w) = m := by rw [wrap64_id (by omega) (by omega)]; exact hmm
    have wi : wrap64 (m + x) = (i : Int) := by rw [wrap64_id (by omega) (by omega)]; omega
    have wi2 : m + x = (i : Int) := by omega
    rw [hi3]
    have t1 : decide (x < 0) = false := decide_eq_false (by omega)
    have t2 : decide (w ≤ x) = false := decide_eq_false (by omega)
    have t3 : decide (y < 0) = false := decide_eq_false (by omega)
    have t4 : decide (h ≤ y) = false := decide_eq_false (by omega)
    have b1 : (0 : Int) ≤ (i : Int) := by omega
    have b2 : (i : Int) < (N : Int) := by omega
    have b3 : i ≤ 9223372036854775807 := by have := mul_bd (a := w) (b := h) (A := 1024) (B := 1024) (by omega) w2 (by omega) h2; omega
    clear hi hm hi3 hmm hc0 hrow hN
    go_enter Tryd.func22, Tryd.ntmps22
    go_wp2_with fail
    go_ret2
    exact ⟨rfl, below_alloc (below_alloc1 W _) _⟩
  · rw [atV_out hin, atC_out hin]
    have hB := below_alloc (below_alloc1 W (.cells #[.int .i64 w, .int .i64 h, .slice (some ad) N cap] 27)) (.cells #[.int .i64 x, .int .i64 y] 24)
    clear hrow hN
    by_cases k1 : x < 0
    · have t1 := decide_eq_true k1
      go_enter Tryd.func22, Tryd.ntmps22
      go_wp2_with fail
      go_ret2
      exact ⟨rfl, hB⟩
    have t1 := decide_eq_false k1
    by_cases k2 : w ≤ x
    · have t2 := decide_eq_true k2
      go_enter Tryd.func22, Tryd.ntmps22
      go_wp2_with fail
      go_ret2
      exact ⟨rfl, hB⟩
    have t2 := decide_eq_false k2
    by_cases k3 : y < 0
    · have t3 := decide_eq_true k3
      go_enter Tryd.func22, Tryd.ntmps22
      go_wp2_with fail
      go_ret2
      exact ⟨rfl, hB⟩
    have t3 := decide_eq_false k3
    have t4 : decide (h ≤ y) = true := decide_eq_true (by unfold inG at hin; omega)
    go_enter Tryd.func22, Tryd.ntmps22
    go_wp2_with fail
    go_ret2
    exact ⟨rfl, hB⟩
end Go.Proofs.YtcomnpmkedabeaaDoor
