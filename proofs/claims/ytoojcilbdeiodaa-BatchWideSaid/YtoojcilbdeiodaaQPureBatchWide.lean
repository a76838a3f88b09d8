/- BatchWide over numbers and lists alone: it tells true. No conditions but that the times are at most 300. -/
import Derived.Test.YtoojcilbdeiodaaQWidex5
import Derived.Test.YtoojcilbdeiodaaQFormsq
namespace Go.Proofs.Ytoojcilbdeiodaa.Pure
open Go.RowKit Go.Proofs.Ytoojcilbdeiodaa.QForms Go.Proofs.YtoojcilbdeiodaaW.PrintWords Go.Proofs.YtoojcilbdeiodaaW.PrintLast
set_option linter.unusedVariables false
set_option linter.unusedSimpArgs false

theorem fine_is (m w : Int) : batch_Fine.f m w = some (decide (m ≥ 1 ∧ m ≤ 300 ∧ w ≥ 0 ∧ w ≤ 1073741824)) := by
  unfold batch_Fine.f
  by_cases h1 : m ≥ 1
  · by_cases h2 : m ≤ 300
    · by_cases h3 : w ≥ 0
      · simp [h1, h2, h3]
      · simp [h1, h2, h3]
    · simp [h1, h2]
  · simp [h1]

theorem BatchWide (T : List Int) (m w : Int) (hl : T.length ≤ 300) : ∃ k, abaculuslaw38_BatchWide.f k T m w = some true := by
  obtain ⟨K0, hK0⟩ := known_ev
  have hj : ∀ (X : List S40) (e t : Int), EvR (fun k => abaculuslaw38_BatchWide.j0 k T m w X e t true) true →
      EvR (fun k => if m ≥ 1 then (if m ≤ 300 then (if w ≥ 0 then (abaculuslaw38_BatchWide.j0 k T m w X e t (decide (m ≥ 1 ∧ m ≤ 300 ∧ w ≥ 0 ∧ w ≤ 1073741824) == (decide (w ≤ 1073741824)))) else (abaculuslaw38_BatchWide.j0 k T m w X e t (decide (m ≥ 1 ∧ m ≤ 300 ∧ w ≥ 0 ∧ w ≤ 1073741824) == false))) else (abaculuslaw38_BatchWide.j0 k T m w X e t (decide (m ≥ 1 ∧ m ≤ 300 ∧ w ≥ 0 ∧ w ≤ 1073741824) == false))) else (abaculuslaw38_BatchWide.j0 k T m w X e t (decide (m ≥ 1 ∧ m ≤ 300 ∧ w ≥ 0 ∧ w ≤ 1073741824) == false))) true := by
    intro X e t h
    by_cases h1 : m ≥ 1
    · by_cases h2 : m ≤ 300
      · by_cases h3 : w ≥ 0
        · simpa [h1, h2, h3] using h
        · simpa [h1, h2, h3] using h
      · simpa [h1, h2] using h
    · simpa [h1] using h
  rcases both T m w (by omega) with ⟨e, he, ⟨K2, hK2⟩, ⟨K3, hK3⟩⟩ | ⟨X, ⟨K2, hK2⟩, ⟨K3, hK3⟩, ⟨K4, hK4⟩, ⟨K5, hK5⟩⟩
  · have hjj : EvR (fun k => abaculuslaw38_BatchWide.j0 k T m w [] e e true) true := by
      refine ⟨K0 + 1, fun k hk => ?_⟩
      cases k with
      | zero => omega
      | succ k =>
        have h0 : abaculuslaw38_known.f k = some true := hK0 _ (by omega)
        show abaculuslaw38_BatchWide.j0 (k + 1) T m w [] e e true = some true
        rw [abaculuslaw38_BatchWide.j0, if_neg he, h0, Option.bind_some]
        simp
    obtain ⟨K6, hK6⟩ := hj [] e e hjj
    refine ⟨K2 + K3 + K6, ?_⟩
    have h2 : batch_Form.f (K2 + K3 + K6) T m w = some ([], e) := hK2 _ (by omega)
    have h3 : abaculusref33_FineTimes.f (K2 + K3 + K6) T m w = some e := hK3 _ (by omega)
    unfold abaculuslaw38_BatchWide.f
    rw [h2, Option.bind_some, h3, Option.bind_some, fine_is, Option.bind_some]
    exact hK6 _ (by omega)
  · have hjj : EvR (fun k => abaculuslaw38_BatchWide.j0 k T m w X 0 0 true) true := by
      refine ⟨K0 + K4 + K5 + 1, fun k hk => ?_⟩
      cases k with
      | zero => omega
      | succ k =>
        have h0 : abaculuslaw38_known.f k = some true := hK0 _ (by omega)
        have h4 : abaculusref33_Groups.f k T m w = some (X.map c44) := hK4 _ (by omega)
        have h5 : abaculuslaw38_same.f k X (X.map c44) = some true := hK5 _ (by omega)
        show abaculuslaw38_BatchWide.j0 (k + 1) T m w X 0 0 true = some true
        rw [abaculuslaw38_BatchWide.j0, if_pos rfl, h0, Option.bind_some, if_pos rfl, if_pos rfl, if_pos rfl, h4, Option.bind_some, h5, Option.bind_some]
    obtain ⟨K6, hK6⟩ := hj X 0 0 hjj
    refine ⟨K2 + K3 + K6, ?_⟩
    have h2 : batch_Form.f (K2 + K3 + K6) T m w = some (X, 0) := hK2 _ (by omega)
    have h3 : abaculusref33_FineTimes.f (K2 + K3 + K6) T m w = some 0 := hK3 _ (by omega)
    unfold abaculuslaw38_BatchWide.f
    rw [h2, Option.bind_some, h3, Option.bind_some, fine_is, Option.bind_some]
    exact hK6 _ (by omega)

end Go.Proofs.Ytoojcilbdeiodaa.Pure
