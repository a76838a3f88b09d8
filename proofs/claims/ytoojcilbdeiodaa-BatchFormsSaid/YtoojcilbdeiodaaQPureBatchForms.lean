/- BatchForms over numbers and lists alone: it tells true. No conditions. -/
import Derived.Test.YtoojcilbdeiodaaQFormsx5
import Derived.Test.YtoojcilbdeiodaaQFormsq
namespace Go.Proofs.Ytoojcilbdeiodaa.Pure
open Go.RowKit Go.Proofs.Ytoojcilbdeiodaa.QForms Go.Proofs.YtoojcilbdeiodaaW.PrintWords Go.Proofs.YtoojcilbdeiodaaW.PrintLast
set_option linter.unusedVariables false
set_option linter.unusedSimpArgs false

theorem pick_ok (a m : Int) (h0 : 0 < m) (h1 : m ≤ 1073741824) : ∃ t, abaculushand_Pick.f a m = some t ∧ 0 ≤ t ∧ t < m := by
  have a1 := Int.tmod_lt_of_pos a h0
  have a2 := Int.lt_tmod_of_pos a h0
  unfold abaculushand_Pick.f
  rw [if_neg (by omega)]
  by_cases h : Int.tmod a m < 0
  · rw [if_pos h, w64 _ (by omega)]
    exact ⟨_, rfl, by omega, by omega⟩
  · rw [if_neg h]
    exact ⟨_, rfl, by omega, by omega⟩
/-! ### the times: they rise -/
structure Rise (T : List Int) (b : Int) : Prop where
  lo : ∀ i : Nat, i < T.length → 0 ≤ T.getD i 0
  hi : ∀ i : Nat, i < T.length → T.getD i 0 ≤ b
  up : ∀ i : Nat, i + 1 < T.length → T.getD i 0 ≤ T.getD (i + 1) 0
theorem getD_snoc (T : List Int) (v : Int) (i : Nat) : (T ++ [v]).getD i 0 = if i < T.length then T.getD i 0 else if i = T.length then v else 0 := by
  rw [List.getD_eq_getElem?_getD, List.getElem?_append]
  split
  · rw [List.getD_eq_getElem?_getD]
  · split
    · rename_i h; subst h; simp
    · rw [List.getElem?_eq_none (by simp; omega)]; rfl
theorem Rise.snoc {T : List Int} {b v : Int} (h : Rise T b) (hb : 0 ≤ b) (hv : b ≤ v) : Rise (T ++ [v]) v where
  lo i hi := by
    rw [getD_snoc]
    split
    · exact h.lo i (by assumption)
    · split <;> omega
  hi i hi := by
    rw [getD_snoc]
    split
    · have := h.hi i (by assumption); omega
    · split <;> omega
  up i hi := by
    rw [List.length_append, List.length_singleton] at hi
    rw [getD_snoc, getD_snoc, if_pos (by omega)]
    by_cases h1 : i + 1 < T.length
    · rw [if_pos h1]; exact h.up i h1
    · rw [if_neg h1, if_pos (by omega)]
      have := h.hi i (by omega)
      omega

theorem Rise.wide {T : List Int} {b c : Int} (h : Rise T b) (hb : b ≤ c) : Rise T c where
  lo := h.lo
  hi i hi := by have := h.hi i hi; omega
  up := h.up

def tl (x1 : Int) (x5 : List Int) : Option (List Int) := (abaculushand_Pick.f x1 8).bind fun t106 => (if t106 < 3 then (if (x5.length : Int) > 0 then (if 0 ≤ (wrap64 ((x5.length : Int) - 1)) then (if (wrap64 ((x5.length : Int) - 1)) < (x5.length : Int) then (some (x5.set ((wrap64 ((x5.length : Int) - 1)) : Int).toNat (rd ([-1, 1073741824, 1073741825] : List Int) t106))) else (none)) else (none)) else (some x5)) else (some x5))

theorem times_ok (l : List Int) (odd : Int) : ∀ d j (T : List Int) (now : Int), j + d = 40 → T.length = j → j ≤ l.length → Rise T now → 0 ≤ now → now ≤ 5 * j →
    ∃ T', Rise T' 200 ∧ T'.length ≤ 40 ∧ ∀ r, tl odd T' = some r → EvR (fun k => abaculuslaw38_times.l0 k l odd T now (j : Int)) r := by
  intro d
  induction d with
  | zero =>
    intro j T now hj hT hl hR h0 h5
    refine ⟨T, hR.wide (by omega), by omega, fun r hr => EvR.now (fun k => ?_)⟩
    rw [abaculuslaw38_times.l0]
    by_cases h : (j : Int) < l.length
    · rw [if_pos h, if_neg (by omega)]; exact hr
    · rw [if_neg h]; exact hr
  | succ d ih =>
    intro j T now hj hT hl hR h0 h5
    by_cases h : j < l.length
    · obtain ⟨t, ht, ht0, ht1⟩ := pick_ok (rd l j) 6 (by omega) (by omega)
      have e1 : wrap64 (now + t) = now + t := w64 _ (by omega)
      have e2 : wrap64 ((j : Int) + 1) = ((j + 1 : Nat) : Int) := by rw [w64 _ (by omega)]; omega
      obtain ⟨T', hR', hl', hr'⟩ := ih (j + 1) (T ++ [now + t]) (now + t) (by omega) (by simp [hT]) (by omega) (hR.snoc h0 (by omega)) (by omega) (by omega)
      refine ⟨T', hR', hl', fun r hr => EvR.step (fun k => ?_) (hr' r hr)⟩
      rw [abaculuslaw38_times.l0, if_pos (by omega), if_pos (by omega), if_pos (by omega), ht, Option.bind_some, if_pos (by omega), e1, e2]
    · refine ⟨T, hR.wide (by omega), by omega, fun r hr => EvR.now (fun k => ?_)⟩
      rw [abaculuslaw38_times.l0, if_neg (by omega)]; exact hr

theorem tl_some (odd : Int) (T : List Int) (hl : T.length ≤ 40) : ∃ r, tl odd T = some r ∧ r.length = T.length := by
  obtain ⟨t, ht, ht0, ht1⟩ := pick_ok odd 8 (by omega) (by omega)
  unfold tl
  rw [ht, Option.bind_some]
  by_cases h1 : t < 3
  · rw [if_pos h1]
    by_cases h2 : (T.length : Int) > 0
    · have e1 : wrap64 ((T.length : Int) - 1) = (T.length : Int) - 1 := w64 _ (by omega)
      rw [if_pos h2, e1, if_pos (by omega), if_pos (by omega)]
      exact ⟨_, rfl, by rw [List.length_set]⟩
    · rw [if_neg h2]
      exact ⟨_, rfl, rfl⟩
  · rw [if_neg h1]
    exact ⟨_, rfl, rfl⟩

theorem BatchForms : abaculuslaw38_BatchForms.Pure := by
  intro l odd a2 a3 _ _ _ _ _ _
  obtain ⟨T0, hR, hTl, hT⟩ := times_ok l odd 40 0 [] 0 (by omega) rfl (by omega) ⟨fun i h => by simp at h, fun i h => by simp at h, fun i h => by simp at h⟩ (by omega) (by omega)
  obtain ⟨T, hT1, hT2⟩ := tl_some odd T0 hTl
  obtain ⟨K1, hK1⟩ := hT T hT1
  obtain ⟨s, hs, hs0, hs1⟩ := pick_ok a2 6 (by omega) (by omega)
  obtain ⟨u, hu, hu0, hu1⟩ := pick_ok a3 9 (by omega) (by omega)
  obtain ⟨K0, hK0⟩ := known_ev
  have e1 : wrap64 (u - 1) = u - 1 := w64 _ (by omega)
  rcases both T s (u - 1) (by omega) with ⟨e, he, ⟨K2, hK2⟩, ⟨K3, hK3⟩⟩ | ⟨X, ⟨K2, hK2⟩, ⟨K3, hK3⟩, ⟨K4, hK4⟩, ⟨K5, hK5⟩⟩
  · refine ⟨K0 + K1 + K2 + K3, ?_⟩
    have h0 : abaculuslaw38_known.f (K0 + K1 + K2 + K3) = some true := hK0 _ (by omega)
    have h1 : abaculuslaw38_times.f (K0 + K1 + K2 + K3) l odd = some T := hK1 _ (by omega)
    have h2 : batch_Form.f (K0 + K1 + K2 + K3) T s (u - 1) = some ([], e) := hK2 _ (by omega)
    have h3 : abaculusref33_FineTimes.f (K0 + K1 + K2 + K3) T s (u - 1) = some e := hK3 _ (by omega)
    unfold abaculuslaw38_BatchForms.f
    rw [h1, Option.bind_some, hs, Option.bind_some, hu, Option.bind_some, e1, h2, Option.bind_some, h3, Option.bind_some, if_neg he, h0, Option.bind_some, if_pos rfl, if_pos rfl]
    rfl
  · refine ⟨K0 + K1 + K2 + K3 + K4 + K5, ?_⟩
    have h0 : abaculuslaw38_known.f (K0 + K1 + K2 + K3 + K4 + K5) = some true := hK0 _ (by omega)
    have h1 : abaculuslaw38_times.f (K0 + K1 + K2 + K3 + K4 + K5) l odd = some T := hK1 _ (by omega)
    have h2 : batch_Form.f (K0 + K1 + K2 + K3 + K4 + K5) T s (u - 1) = some (X, 0) := hK2 _ (by omega)
    have h3 : abaculusref33_FineTimes.f (K0 + K1 + K2 + K3 + K4 + K5) T s (u - 1) = some 0 := hK3 _ (by omega)
    have h4 : abaculusref33_Groups.f (K0 + K1 + K2 + K3 + K4 + K5) T s (u - 1) = some (X.map c44) := hK4 _ (by omega)
    have h5 : abaculuslaw38_same.f (K0 + K1 + K2 + K3 + K4 + K5) X (X.map c44) = some true := hK5 _ (by omega)
    unfold abaculuslaw38_BatchForms.f
    rw [h1, Option.bind_some, hs, Option.bind_some, hu, Option.bind_some, e1, h2, Option.bind_some, h3, Option.bind_some, if_pos rfl, h0, Option.bind_some, if_pos rfl, if_pos rfl, h4, Option.bind_some, h5, Option.bind_some]

end Go.Proofs.Ytoojcilbdeiodaa.Pure
