/- BatchAlike: Alike compares error and reply, and neither time nor group. No conditions. -/
import Derived.Test.YtfmjaaekbmhmkaaQAlikex5
import Derived.Test.YtfmjaaekbmhmkaaQAlikec
namespace Go.Proofs.Ytfmjaaekbmhmkaa.Pure
open Go.RowKit Go.Proofs.Ytfmjaaekbmhmkaa.QAlike Go.Proofs.YtfmjaaekbmhmkaaW.PrintWords Go.Proofs.YtfmjaaekbmhmkaaW.PrintLast
set_option linter.unusedVariables false

theorem wf_bounds {a : Int} (h : (Lit.int .i64 a).wf = true) : -9223372036854775808 ≤ a ∧ a < 9223372036854775808 := by
  simp only [Lit.wf, IntKind.min, IntKind.max, IntKind.signed, IntKind.bits, Bool.and_eq_true, decide_eq_true_eq, if_true] at h
  omega

theorem tdiv_b {a : Int} (h1 : -9223372036854775808 ≤ a) (h2 : a < 9223372036854775808) : -9223372036854775808 ≤ Int.tdiv a 41 ∧ Int.tdiv a 41 < 9223372036854775808 := by
  have ht : (Int.tdiv a 41).natAbs ≤ a.natAbs := tdiv_abs a 41
  constructor
  · omega
  · by_cases e : a = -9223372036854775808
    · rw [e]; decide
    · omega

/-- What 'hand.Q' returns: one of 246 pairs of choices. -/
theorem q_some {a : Int} (h : (Lit.int .i64 a).wf = true) : ∃ c d : Nat, c < 41 ∧ d < 6 ∧ ∀ k, abaculushand_Q.f k a = some (qneg c, lst (qnum c d), lst (qden c d)) := by
  obtain ⟨h1, h2⟩ := wf_bounds h
  obtain ⟨c, hc, hc2⟩ := pick_ok h1 h2 (m := 41) (by decide) (by decide)
  obtain ⟨t1, t2⟩ := tdiv_b h1 h2
  obtain ⟨d, hd, hd2⟩ := pick_ok t1 t2 (m := 6) (by decide) (by decide)
  refine ⟨c, d, by omega, by omega, fun k => ?_⟩
  unfold abaculushand_Q.f
  rw [if_pos ⟨h1, h2⟩, hc, Option.bind_some, hd, Option.bind_some]
  rfl

theorem alike_c {K : Nat} {g t a b g' t' s : Int} {n n' : Bool} {u v u' v' : List Int} (h : frac_Q_Cmp.f K n u v n' u' v' = some s) : batch_Alike.f K g t a b n u v g' t' a b n' u' v' = some (s == 0) := by
  unfold batch_Alike.f pipe_Alike.f
  rw [if_pos rfl, if_pos rfl, h, Option.bind_some, Option.bind_some]
theorem alike_a {K : Nat} {g t a b g' t' a' b' : Int} {n n' : Bool} {u v u' v' : List Int} (h : ¬ a = a') : batch_Alike.f K g t a b n u v g' t' a' b' n' u' v' = some false := by
  unfold batch_Alike.f
  rw [if_neg h]
theorem alike_b {K : Nat} {g t a b g' t' b' : Int} {n n' : Bool} {u v u' v' : List Int} (h : ¬ b = b') : batch_Alike.f K g t a b n u v g' t' a b' n' u' v' = some false := by
  unfold batch_Alike.f pipe_Alike.f
  rw [if_pos rfl, if_neg h, Option.bind_some]
/-- The law's rest, of values that are known. -/
theorem rest {K : Nat} {a2 a3 : Int} {x0 x1 p q y0 y1 z0 z1 z2 z3 s2 s3 : Int} {n n' : Bool} {u v u' v' : List Int}
    (hQ2 : ∀ k, abaculushand_Q.f k a2 = some (n', u', v')) (hQ3 : ∀ k, abaculushand_Q.f k a3 = some (n, u, v))
    (h1 : frac_Q_Cmp.f K n u v n u v = some 0) (h2 : frac_Q_Cmp.f K n u v n' u' v' = some s2) (h3 : frac_Q_Cmp.f K n' u' v' n u v = some s3) (sh : (s2 == 0) = (s3 == 0))
    (hz : batch_Alike.f K x0 x1 p q n u v z0 z1 z2 z3 n u v = some false) :
    abaculuslaw38_BatchAlike.j0 (K + 1) a2 a3 x0 x1 p q n u v y0 y1 p q n u v z0 z1 z2 z3 n u v = some true := by
  rw [abaculuslaw38_BatchAlike.j0, hQ2, Option.bind_some]
  have e1 : abaculuslaw38_known.f K = some true := rfl
  rw [e1, Option.bind_some, if_pos rfl, alike_c h1, Option.bind_some, if_pos (by rfl), hz, Option.bind_some, if_neg (by decide), alike_c h2, Option.bind_some, Option.bind_some, hQ3, Option.bind_some, h3, Option.bind_some, sh, beq_self_eq_true]

theorem BatchAlike (a0 : Int) (a1 : Int) (a2 : Int) (a3 : Int) (a4 : Bool) (w0 : (Lit.int .i64 a0).wf = true) (w1 : (Lit.int .i64 a1).wf = true) (w2 : (Lit.int .i64 a2).wf = true) (w3 : (Lit.int .i64 a3).wf = true) : ∃ k, abaculuslaw38_BatchAlike.f k a0 a1 a2 a3 a4 = some true := by
  obtain ⟨K, hK⟩ : ∃ K : Nat, K = 12 := ⟨12, rfl⟩
  refine ⟨K + 1, ?_⟩
  obtain ⟨b21, b22⟩ := wf_bounds w2
  obtain ⟨b31, b32⟩ := wf_bounds w3
  obtain ⟨p, hp, hp2⟩ := pick_ok b21 b22 (m := 3) (by decide) (by decide)
  obtain ⟨q, hq, hq2⟩ := pick_ok b31 b32 (m := 3) (by decide) (by decide)
  obtain ⟨c, d, hc, hd, hQ2⟩ := q_some w2
  obtain ⟨e, f, he, hf, hQ3⟩ := q_some w3
  obtain ⟨s1, hs1, is1⟩ := cmp_two he hf he hf
  obtain ⟨s2, hs2, is2⟩ := cmp_two he hf hc hd
  obtain ⟨s3, hs3, is3⟩ := cmp_two hc hd he hf
  rw [← hK] at hs1 hs2 hs3
  clear hK
  have z1 : s1 = 0 := is1.2 rfl
  subst z1
  have zz : s2 = 0 ↔ s3 = 0 := is2.trans (⟨Eq.symm, Eq.symm⟩ : _ ↔ _) |>.trans is3.symm
  have sh : (s2 == 0) = (s3 == 0) := by
    by_cases z : s2 = 0
    · rw [z, zz.1 z]
    · have z' : ¬ s3 = 0 := fun h => z (zz.2 h)
      rw [beq_eq_false_iff_ne.2 z, beq_eq_false_iff_ne.2 z']
  have wp : wrap64 ((p : Int) + 1) = (p : Int) + 1 := by unfold wrap64; omega
  have wq : wrap64 ((q : Int) + 1) = (q : Int) + 1 := by unfold wrap64; omega
  have np : ¬ ((p : Int) = wrap64 ((p : Int) + 1)) := by rw [wp]; omega
  have nq : ¬ ((q : Int) = wrap64 ((q : Int) + 1)) := by rw [wq]; omega
  unfold abaculuslaw38_BatchAlike.f
  rw [hp, Option.bind_some, hq, Option.bind_some, hQ3, Option.bind_some]
  cases a4 with
  | true =>
    rw [if_pos rfl]
    exact rest hQ2 hQ3 hs1 hs2 hs3 sh (alike_a np)
  | false =>
    rw [if_neg (by decide)]
    exact rest hQ2 hQ3 hs1 hs2 hs3 sh (alike_b nq)
end Go.Proofs.Ytfmjaaekbmhmkaa.Pure
