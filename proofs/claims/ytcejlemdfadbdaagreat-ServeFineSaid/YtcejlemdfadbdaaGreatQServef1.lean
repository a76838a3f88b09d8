/- ServeFine: closed facts of its row. No conditions. -/
import Derived.Test.YtcejlemdfadbdaaGreatRows
import Derived.WalkKit
import Derived.ProofKit
namespace Go.Proofs.YtcejlemdfadbdaaGreat.serveFine
theorem fact_maps : mapsRowed Tryz.checked.prog = true := by kernel_rfl
theorem fact_plain : (Rows.serveFineRow.plainKeys == Tryz.checked.prog.plainKeys) = true := by kernel_rfl
theorem fact_enter : Tryz.checked.prog.mayEnter = true := by kernel_rfl
end Go.Proofs.YtcejlemdfadbdaaGreat.serveFine
