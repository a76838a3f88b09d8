/- BatchAlike: 'hand.Q' at the pairs of choices 0 to 61. No conditions. -/
import Derived.Test.YtfmjaaekbmhmkaaQAlikeq
namespace Go.Proofs.Ytfmjaaekbmhmkaa.QAlike
theorem qok0 : (List.range 62).all (fun i => okB (qrun ((i + 0) / 6) ((i + 0) % 6))) = true := by kernel_rfl
end Go.Proofs.Ytfmjaaekbmhmkaa.QAlike
