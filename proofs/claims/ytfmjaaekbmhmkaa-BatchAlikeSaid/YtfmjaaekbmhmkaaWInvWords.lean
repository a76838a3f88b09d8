-- PRINTED BY print.sh 35421559b90ae4d0a3588c463048766b98c2df88dd9212a6774a882060cdf62d: not written by this session
import Derived.Test.YtfmjaaekbmhmkaaWInv
import Derived.Test.YtfmjaaekbmhmkaaWFootNe
namespace Go.Proofs.YtfmjaaekbmhmkaaW.PrintWords
open Go.RowKit
end Go.Proofs.YtfmjaaekbmhmkaaW.PrintWords
namespace Go.Proofs.YtfmjaaekbmhmkaaW.PrintLast
section
variable {ops : Array Oper} {a : Act} {o og : Oper} {g : Nat} {t : Tmp} {u : Bool}
theorem putSel_not {b : Nat → Bool} {j : Nat} (hj : b j = false) : ∀ {L : List (Nat × Tmp × Value)} {a : Act}, (L.all fun e => !(e.2.1 == t) || e.1 == j) = true → (putSel a b L).tmps[t]? = a.tmps[t]?
  | [], _, _ => rfl
  | e :: r, a, h => by
    rw [List.all_cons, Bool.and_eq_true] at h
    unfold putSel
    by_cases hb : b e.1 = true
    · rw [if_pos hb, putSel_not hj h.2]
      have he : e.2.1 ≠ t := by
        intro ht
        rw [Bool.or_eq_true] at h
        rcases h.1 with h1 | h1
        · simp [ht] at h1
        · rw [beq_iff_eq] at h1
          rw [h1, hj] at hb
          cases hb
      simp [Act.put, Array.getElem?_setIfInBounds_ne he]
    · rw [if_neg hb]
      exact putSel_not hj h.2
end
end Go.Proofs.YtfmjaaekbmhmkaaW.PrintLast
