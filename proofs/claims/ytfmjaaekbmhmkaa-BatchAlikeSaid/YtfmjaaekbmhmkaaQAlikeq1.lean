/- BatchAlike: 'hand.Q' at the pairs of choices 62 to 123. No conditions. -/
import Derived.Test.YtfmjaaekbmhmkaaQAlikeq
namespace Go.Proofs.Ytfmjaaekbmhmkaa.QAlike
theorem qok1 : (List.range 62).all (fun i => okB (qrun ((i + 62) / 6) ((i + 62) % 6))) = true := by kernel_rfl
end Go.Proofs.Ytfmjaaekbmhmkaa.QAlike
