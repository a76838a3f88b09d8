/- BatchAlike: 'hand.Q' at the pairs of choices 124 to 185. No conditions. -/
import Derived.Test.YtfmjaaekbmhmkaaQAlikeq
namespace Go.Proofs.Ytfmjaaekbmhmkaa.QAlike
theorem qok2 : (List.range 62).all (fun i => okB (qrun ((i + 124) / 6) ((i + 124) % 6))) = true := by kernel_rfl
end Go.Proofs.Ytfmjaaekbmhmkaa.QAlike
