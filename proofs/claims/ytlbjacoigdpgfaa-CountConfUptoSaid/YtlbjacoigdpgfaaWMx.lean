/- What all walks share. -/
import Derived.Test.YtlbjacoigdpgfaaW0
set_option linter.unusedSimpArgs false
set_option linter.unusedVariables false
set_option linter.unusedSectionVars false
namespace Go.Sk
open Go Go.Proofs

theorem mixed : Try.prog.follows .mixedOrders = true := by kernel_rfl
def nE (n : Nat) : List PV := [.int .u64 (n : Int)]
end Go.Sk
