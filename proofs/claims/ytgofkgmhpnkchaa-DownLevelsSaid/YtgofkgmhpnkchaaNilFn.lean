/- A function is not the nil one. -/
import Derived.Test.YtgofkgmhpnkchaaDownWay
set_option linter.unusedVariables false
set_option linter.unusedSimpArgs false
namespace Go.Proofs.Ytgofkgmhpnkchaa
open Go.RowKit
theorem func_not_nil (FN : FuncId) (w : World) : (binOp BinOp.eql 116 (.func (.func FN) #[] #[]) .nilFunc).run Try.prog w = .ok (.bool false) w := by
  have h : ∀ d : Nat, (Op.equalIn (d + 1) 116 (.func (.func FN) #[] #[]) .nilFunc).run Try.prog w = .ok false w := fun d => by
    simp [Op.equalIn, run_underlying Try.underlying116]
  have h2 : (Op.equal 116 (.func (.func FN) #[] #[]) .nilFunc).run Try.prog w = .ok false w := h _
  simp [binOp, h2, Sem.run_bind, Sem.run_pure]
end Go.Proofs.Ytgofkgmhpnkchaa
