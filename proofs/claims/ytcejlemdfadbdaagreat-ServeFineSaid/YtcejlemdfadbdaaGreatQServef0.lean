/- ServeFine: closed facts of its row. No conditions. -/
import Derived.Test.YtcejlemdfadbdaaGreatRows
import Derived.WalkKit
import Derived.ProofKit
namespace Go.Proofs.YtcejlemdfadbdaaGreat.serveFine
theorem fact_laid : laidOutB Tryz.checked.prog = true := by kernel_rfl
theorem fact_heard : Tryz.checked.prog.stopsHeard = true := by kernel_rfl
end Go.Proofs.YtcejlemdfadbdaaGreat.serveFine
