/- BatchAlike: 'frac.Q.Cmp' of each two of the numbers that 'hand.Q' returns is 0 if they are the same, and else not. No conditions. -/
import Derived.Test.YtfmjaaekbmhmkaaQAlikex4
import Derived.Test.YtfmjaaekbmhmkaaQAlikeq
namespace Go.Proofs.Ytfmjaaekbmhmkaa.QAlike
open Go.RowKit Go.Proofs.YtfmjaaekbmhmkaaW.PrintWords Go.Proofs.YtfmjaaekbmhmkaaW.PrintLast
def cmp3 (p q : Bool × Nat × Nat) : Bool := match frac_Q_Cmp.f 12 p.1 (lst p.2.1) (lst p.2.2) q.1 (lst q.2.1) (lst q.2.2) with
  | some s => (s == 0) == (p.1 == q.1 && p.2.1 == q.2.1 && p.2.2 == q.2.2)
  | none => false
def dl : List (Bool × Nat × Nat) := [(true, 20, 0), (true, 10, 0), (true, 20, 3), (true, 5, 0), (true, 19, 0), (true, 19, 2), (true, 19, 3), (true, 19, 4), (true, 18, 0), (true, 9, 0), (true, 6, 0), (true, 9, 2), (true, 17, 0), (true, 17, 2), (true, 17, 3), (true, 17, 4), (true, 16, 0), (true, 8, 0), (true, 16, 3), (true, 4, 0), (true, 15, 0), (true, 15, 2), (true, 15, 4), (true, 14, 0), (true, 7, 0), (true, 14, 3), (true, 7, 2), (true, 13, 0), (true, 13, 2), (true, 13, 3), (true, 13, 4), (true, 12, 0), (true, 3, 0), (true, 11, 0), (true, 11, 2), (true, 11, 3), (true, 11, 4), (true, 10, 3), (true, 5, 2), (true, 9, 4), (true, 8, 3), (true, 2, 0), (true, 7, 3), (true, 7, 4), (true, 3, 2), (true, 5, 3), (true, 5, 4), (true, 4, 3), (true, 1, 0), (true, 3, 4), (true, 2, 3), (true, 1, 2), (true, 1, 3), (true, 1, 4), (false, 0, 0), (false, 1, 0), (false, 1, 2), (false, 1, 3), (false, 1, 4), (false, 2, 0), (false, 2, 3), (false, 3, 0), (false, 3, 2), (false, 3, 4), (false, 4, 0), (false, 4, 3), (false, 5, 0), (false, 5, 2), (false, 5, 3), (false, 5, 4), (false, 6, 0), (false, 7, 0), (false, 7, 2), (false, 7, 3), (false, 7, 4), (false, 8, 0), (false, 8, 3), (false, 9, 0), (false, 9, 2), (false, 9, 4), (false, 10, 0), (false, 10, 3), (false, 11, 0), (false, 11, 2), (false, 11, 3), (false, 11, 4), (false, 12, 0), (false, 13, 0), (false, 13, 2), (false, 13, 3), (false, 13, 4), (false, 14, 0), (false, 14, 3), (false, 15, 0), (false, 15, 2), (false, 15, 4), (false, 16, 0), (false, 16, 3), (false, 17, 0), (false, 17, 2), (false, 17, 3), (false, 17, 4), (false, 18, 0), (false, 19, 0), (false, 19, 2), (false, 19, 3), (false, 19, 4), (false, 20, 0), (false, 20, 3)]
def isIn (t : Bool × Nat × Nat) : Bool := dl.any fun p => p.1 == t.1 && p.2.1 == t.2.1 && p.2.2 == t.2.2
theorem ins : ((List.range 41).all fun c => (List.range 6).all fun d => isIn (qneg c, qnum c d, qden c d)) = true := by kernel_rfl
theorem pairs : (dl.all fun p => dl.all fun q => cmp3 p q) = true := by kernel_rfl
theorem in_dl {c d : Nat} (hc : c < 41) (hd : d < 6) : (qneg c, qnum c d, qden c d) ∈ dl := by
  have h := (List.all_eq_true.1 ((List.all_eq_true.1 ins) c (List.mem_range.2 hc))) d (List.mem_range.2 hd)
  unfold isIn at h
  obtain ⟨⟨p1, p2, p3⟩, hp, he⟩ := List.any_eq_true.1 h
  simp only [Bool.and_eq_true, beq_iff_eq] at he
  obtain ⟨⟨e1, e2⟩, e3⟩ := he
  rw [← e1, ← e2, ← e3]
  exact hp
/-- 'frac.Q.Cmp' of two of them. -/
theorem cmp_two {a b c d : Nat} (ha : a < 41) (hb : b < 6) (hc : c < 41) (hd : d < 6) :
    ∃ s, frac_Q_Cmp.f 12 (qneg a) (lst (qnum a b)) (lst (qden a b)) (qneg c) (lst (qnum c d)) (lst (qden c d)) = some s ∧ (s = 0 ↔ ((qneg a, qnum a b, qden a b) : Bool × Nat × Nat) = (qneg c, qnum c d, qden c d)) := by
  have h := (List.all_eq_true.1 ((List.all_eq_true.1 pairs) _ (in_dl ha hb))) _ (in_dl hc hd)
  unfold cmp3 at h
  split at h
  · rename_i s hs
    refine ⟨s, hs, ?_⟩
    have h2 : (s == 0) = (qneg a == qneg c && qnum a b == qnum c d && qden a b == qden c d) := by simpa using h
    constructor
    · intro h0
      subst h0
      have h3 : (qneg a == qneg c && qnum a b == qnum c d && qden a b == qden c d) = true := by rw [← h2]; rfl
      simp only [Bool.and_eq_true, beq_iff_eq] at h3
      obtain ⟨⟨e1, e2⟩, e3⟩ := h3
      rw [e1, e2, e3]
    · intro h0
      simp only [Prod.mk.injEq] at h0
      obtain ⟨e1, e2, e3⟩ := h0
      rw [e1, e2, e3] at h2
      simpa using h2
  · cases h
end Go.Proofs.Ytfmjaaekbmhmkaa.QAlike
