/- ServeFine: closed facts of its row. No conditions. -/
import Derived.Test.YtcejlemdfadbdaaGreatRows
import Derived.WalkKit
import Derived.ProofKit
namespace Go.Proofs.YtcejlemdfadbdaaGreat.serveFine
theorem fact_named : (Rows.serveFineRow.named == Tryz.checked.prog.varsNamed 3) = true := by kernel_rfl
end Go.Proofs.YtcejlemdfadbdaaGreat.serveFine
