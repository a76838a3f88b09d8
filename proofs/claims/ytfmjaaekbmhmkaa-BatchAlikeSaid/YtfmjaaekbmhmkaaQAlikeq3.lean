/- BatchAlike: 'hand.Q' at the pairs of choices 186 to 245. No conditions. -/
import Derived.Test.YtfmjaaekbmhmkaaQAlikeq
namespace Go.Proofs.Ytfmjaaekbmhmkaa.QAlike
theorem qok3 : (List.range 60).all (fun i => okB (qrun ((i + 186) / 6) ((i + 186) % 6))) = true := by kernel_rfl
end Go.Proofs.Ytfmjaaekbmhmkaa.QAlike
