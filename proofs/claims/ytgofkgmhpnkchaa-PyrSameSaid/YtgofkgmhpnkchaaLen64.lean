/- math/bits.Len64, of what is below 1024. -/
import Derived.Test.YtgofkgmhpnkchaaLev
set_option linter.unusedVariables false
set_option linter.unusedSimpArgs false
namespace Go.Proofs.Ytgofkgmhpnkchaa
open Go.RowKit

set_option maxHeartbeats 2000000 in
set_option maxRecDepth 100000 in
theorem len64_ok (n : Nat) (hn : n < 1024) (W : World) :
    Calls Try.prog 86 #[.int .u64 n] W fun e W' => e = .returned (.int .i64 (bl n)) ∧ W = W' := by
  have d1 : decide ((4294967296 : Int) ≤ n) = false := decide_eq_false (by omega)
  have d2 : decide ((65536 : Int) ≤ n) = false := decide_eq_false (by omega)
  by_cases h : n < 256
  · have d3 : decide ((256 : Int) ≤ n) = false := decide_eq_false (by omega)
    go_enter Try.func86, Try.ntmps86
    go_wp2_with fail
    go_ret
    refine ⟨ret_int ?_, rfl⟩
    clear d1 d2 d3 hn
    revert n
    decide +kernel
  · have d3 : decide ((256 : Int) ≤ n) = true := decide_eq_true (by omega)
    go_enter Try.func86, Try.ntmps86
    go_wp2_with fail
    go_ret
    refine ⟨ret_int ?_, rfl⟩
    clear d1 d2 d3
    revert n
    decide +kernel
#print axioms len64_ok
end Go.Proofs.Ytgofkgmhpnkchaa
