/- BatchAlike: 'hand.Q', in the form that the print asks for. No conditions. -/
import Derived.Test.YtfmjaaekbmhmkaaQAlikeq0
import Derived.Test.YtfmjaaekbmhmkaaQAlikeq1
import Derived.Test.YtfmjaaekbmhmkaaQAlikeq2
import Derived.Test.YtfmjaaekbmhmkaaQAlikeq3
namespace Go.Proofs.Ytfmjaaekbmhmkaa.QAlike
open Go.RowKit Go.Proofs.YtfmjaaekbmhmkaaW.PrintWords Go.Proofs.YtfmjaaekbmhmkaaW.PrintLast Go.Proofs.YtfmjaaekbmhmkaaW.PrintMore
set_option linter.unusedVariables false

theorem qok_all {c d : Nat} (hc : c < 41) (hd : d < 6) : okB (qrun c d) = true := by
  have e1 : (c * 6 + d) / 6 = c := by omega
  have e2 : (c * 6 + d) % 6 = d := by omega
  have key : ∀ j n : Nat, j ≤ c * 6 + d → c * 6 + d < j + n → (List.range n).all (fun i => okB (qrun ((i + j) / 6) ((i + j) % 6))) = true → okB (qrun c d) = true := by
    intro j n h1 h2 h
    have h3 := (List.all_eq_true.1 h) (c * 6 + d - j) (List.mem_range.2 (by omega))
    have e : c * 6 + d - j + j = c * 6 + d := by omega
    rw [e, e1, e2] at h3
    exact h3
  by_cases a : c * 6 + d < 62
  · exact key 0 62 (by omega) (by omega) qok0
  by_cases b : c * 6 + d < 124
  · exact key 62 62 (by omega) (by omega) qok1
  by_cases b2 : c * 6 + d < 186
  · exact key 124 62 (by omega) (by omega) qok2
  · exact key 186 60 (by omega) (by omega) qok3

theorem pick_ok {a m : Int} (h1 : -9223372036854775808 ≤ a) (h2 : a < 9223372036854775808) (hm : 0 < m) (hm2 : m < 1000) : ∃ c : Nat, abaculushand_Pick.f a m = some (c : Int) ∧ (c : Int) < m := by
  unfold abaculushand_Pick.f
  rw [if_neg (by omega)]
  have b1 : Int.tmod a m < m := Int.tmod_lt_of_pos a hm
  have b2 : -m < Int.tmod a m := by
    have := Int.lt_tmod_of_pos a hm
    omega
  by_cases c : Int.tmod a m < 0
  · rw [if_pos c]
    have e : wrap64 (Int.tmod a m + m) = Int.tmod a m + m := by unfold wrap64; omega
    rw [e]
    exact ⟨(Int.tmod a m + m).toNat, by congr 1; omega, by omega⟩
  · rw [if_neg c]
    exact ⟨(Int.tmod a m).toNat, by congr 1; omega, by omega⟩

def qval (c d : Int) : Bool × List Int × List Int := (qneg c.toNat, lst (qnum c.toNat d.toNat), lst (qden c.toNat d.toNat))
def abaculushand_Q.f (k : Nat) (a0 : Int) : Option (Bool × List Int × List Int) :=
  if -9223372036854775808 ≤ a0 ∧ a0 < 9223372036854775808 then (abaculushand_Pick.f a0 41).bind fun c => (abaculushand_Pick.f (Int.tdiv a0 41) 6).bind fun d => some (qval c d) else none
theorem abaculushand_Q.mono : ∀ a0 k, LeO (abaculushand_Q.f k a0) (abaculushand_Q.f (k + 1) a0) := fun _ _ => LeO.refl _
theorem abaculushand_Q.calls (k : Nat) (a0 : Int) (r1 : Bool) (r2 r3 : List Int) (w : World) (h : abaculushand_Q.f k a0 = some (r1, r2, r3)) :
    Calls Try.prog 5 #[.int .i64 a0] w fun e w' => ∃ v1_ v2_ : Value, e = .returned (.agg #[.bool r1, v1_, v2_]) ∧ Kd.V (Kd.int .u64) 72 w' w.heap.size (fun k_ => (w.heap.size ≤ k_)) v1_ r2 ∧ Kd.V (Kd.int .u64) 72 w' w.heap.size (fun k_ => (w.heap.size ≤ k_)) v2_ r3 ∧ Below w.heap.size w w' := by
  unfold abaculushand_Q.f at h
  by_cases hb : -9223372036854775808 ≤ a0 ∧ a0 < 9223372036854775808
  · rw [if_pos hb] at h
    obtain ⟨c, hc, hc2⟩ := pick_ok hb.1 hb.2 (m := 41) (by decide) (by decide)
    have ht : (Int.tdiv a0 41).natAbs ≤ a0.natAbs := tdiv_abs a0 41
    have ht2 : Int.tdiv a0 41 < 9223372036854775808 := by
      by_cases e : a0 = -9223372036854775808
      · rw [e]; decide
      · omega
    obtain ⟨d, hd, hd2⟩ := pick_ok (a := Int.tdiv a0 41) (by omega) ht2 (m := 6) (by decide) (by decide)
    rw [hc, Option.bind_some, hd, Option.bind_some] at h
    have e : qval (c : Int) (d : Int) = (qneg c, lst (qnum c d), lst (qden c d)) := rfl
    rw [e] at h
    cases h
    exact q_calls hb.1 hb.2 hc hd (qok_all (by omega) (by omega)) w
  · rw [if_neg hb] at h
    cases h
end Go.Proofs.Ytfmjaaekbmhmkaa.QAlike
