/- An element of a literal array of three numbers. No conditions but that the index is one of 0, 1, 2. -/
import Derived.Test.YtoojcilbdeiodaaProg
import Derived.Test.YtoojcilbdeiodaaWWords
import Derived.KernelRfl
namespace Go.Proofs.Ytoojcilbdeiodaa.CutThree
open Go.RowKit Go.Proofs.YtoojcilbdeiodaaW.PrintWords
theorem idx3 (t : Int) (h0 : 0 ≤ t) (h3 : t < 3) (W : World) : (Instr.index 42 (.agg #[.int .i64 (-1), .int .i64 1073741824, .int .i64 1073741825]) (.int .i64 t)).run Try.prog W = .ok (.int .i64 (rd ([-1, 1073741824, 1073741825] : List Int) t)) W := by
  obtain rfl | rfl | rfl : t = 0 ∨ t = 1 ∨ t = 2 := by omega
  · kernel_rfl
  · kernel_rfl
  · kernel_rfl
end Go.Proofs.Ytoojcilbdeiodaa.CutThree
