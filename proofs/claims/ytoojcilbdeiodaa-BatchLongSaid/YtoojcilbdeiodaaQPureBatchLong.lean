/- BatchLong over numbers and lists alone: it tells true. No conditions. -/
import Derived.Test.YtoojcilbdeiodaaQLongx3
import Derived.Test.YtoojcilbdeiodaaQLongp
namespace Go.Proofs.Ytoojcilbdeiodaa.Pure
open Go.RowKit Go.Proofs.Ytoojcilbdeiodaa.QLong Go.Proofs.YtoojcilbdeiodaaW.PrintWords Go.Proofs.YtoojcilbdeiodaaW.PrintLast
set_option linter.unusedVariables false
set_option linter.unusedSimpArgs false

theorem pick_ok (a m : Int) (h0 : 0 < m) (h1 : m ≤ 1073741824) : ∃ t, abaculushand_Pick.f a m = some t ∧ 0 ≤ t ∧ t < m := by
  have a1 := Int.tmod_lt_of_pos a h0
  have a2 := Int.lt_tmod_of_pos a h0
  unfold abaculushand_Pick.f
  rw [if_neg (by omega)]
  by_cases h : Int.tmod a m < 0
  · rw [if_pos h, w64 _ (by omega)]
    exact ⟨_, rfl, by omega, by omega⟩
  · rw [if_neg h]
    exact ⟨_, rfl, by omega, by omega⟩
theorem known_ev : EvR (fun k => abaculuslaw38_known.f k) true := EvR.up abaculuslaw38_known.mono (k := 30) (by decide +kernel)

theorem zeros_get (n i : Nat) : (List.replicate n (0 : Int)).getD i 0 = 0 := by
  rw [List.getD_eq_getElem?_getD, List.getElem?_replicate]
  split <;> rfl
theorem zeros_fit (n : Nat) (m : Int) (hn : n ≤ 65536) (h1 : 1 ≤ m) (h2 : m ≤ 300) : Fit (List.replicate n 0) m 1 where
  lo i _ := by rw [zeros_get]; omega
  hi i _ := by rw [zeros_get]; omega
  up i _ := by rw [zeros_get, zeros_get]; omega
  len := by rw [List.length_replicate]; omega
  m1 := h1
  m2 := h2
  w0 := by omega
  w1 := by omega

theorem zeros_adv (n M fr : Nat) : ∀ d i, i + d = n → fr ≤ i → i ≤ fr + M → adv (List.replicate n 0) (M : Int) (0 + 1) fr d i = min (fr + M) n := by
  intro d
  induction d with
  | zero => intro i h1 h2 h3; rw [adv]; omega
  | succ d ih =>
    intro i h1 h2 h3
    rw [adv, zeros_get]
    by_cases h : (i : Int) - fr < M
    · rw [if_pos ⟨h, by omega⟩, ih (i + 1) (by omega) (by omega) (by omega)]
    · rw [if_neg (fun c => h c.1)]; omega
theorem zeros_count (n M : Nat) (hM : 1 ≤ M) : ∀ f i, n ≤ i + f → i ≤ n → (gs (List.replicate n 0) (M : Int) 1 f i).length = (n - i + (M - 1)) / M := by
  intro f
  induction f with
  | zero =>
    intro i h1 h2
    rw [gs, List.length_nil, Nat.div_eq_of_lt (by omega)]
  | succ f ih =>
    intro i h1 h2
    rw [gs, List.length_replicate]
    by_cases h : i < n
    · rw [if_pos h, zeros_get, zeros_adv n M i (n - i) i (by omega) (Nat.le_refl _) (by omega), List.length_cons, ih _ (by omega) (by omega)]
      by_cases h3 : i + M ≤ n
      · rw [Nat.min_eq_left h3, ← Nat.add_div_right _ (by omega)]
        congr 1
        omega
      · rw [Nat.min_eq_right (by omega), Nat.div_eq_of_lt (by omega : n - n + (M - 1) < M)]
        have e : n - i + (M - 1) = (n - i - 1) + M := by omega
        rw [e, Nat.add_div_right _ (by omega), Nat.div_eq_of_lt (by omega)]
    · rw [if_neg h, List.length_nil, Nat.div_eq_of_lt (by omega)]

theorem zeros_long (n : Nat) (m w : Int) (hn : 65536 < n) (hb : n ≤ 70000) : ∀ d i, i + d = n →
    EvR (fun k => batch_Form.l0 k (List.replicate n 0) (List.replicate n 0) ((List.replicate n (0 : Int)).length : Int) (i : Int) m w) ([], 4) := by
  intro d
  induction d with
  | zero =>
    intro i hi
    refine EvR.now (fun k => ?_)
    rw [batch_Form.l0, List.length_replicate, if_neg (by omega), if_pos (by omega)]
  | succ d ih =>
    intro i hi
    have eb : wrap64 ((i : Int) + 1) = ((i + 1 : Nat) : Int) := by rw [w64 _ (by omega)]; omega
    refine EvR.step (fun k => ?_) (ih (i + 1) (by omega))
    rw [batch_Form.l0, List.length_replicate, if_pos (by omega), if_pos (by omega), if_pos (by omega), rd_nat, zeros_get, if_neg (by omega), if_neg (by omega), eb]
    by_cases h0 : (i : Int) > 0
    · have ea : wrap64 ((i : Int) - 1) = ((i - 1 : Nat) : Int) := by rw [w64 _ (by omega)]; omega
      rw [if_pos h0, ea, if_pos (by omega), if_pos (by omega), rd_nat, zeros_get, if_neg (by omega)]
    · rw [if_neg h0]

theorem BatchLong : abaculuslaw38_BatchLong.Pure := by
  intro a0 a1 _ _
  obtain ⟨t, ht, ht0, ht1⟩ := pick_ok a0 12 (by omega) (by omega)
  obtain ⟨s, hs, hs0, hs1⟩ := pick_ok a1 3 (by omega) (by omega)
  obtain ⟨n, hn⟩ : ∃ n : Nat, (n : Int) = 65530 + t := ⟨(65530 + t).toNat, by omega⟩
  obtain ⟨M, hM⟩ : ∃ M : Nat, (M : Int) = s * 100 + 100 := ⟨(s * 100 + 100).toNat, by omega⟩
  have e1 : wrap64 (65530 + t) = (n : Int) := by rw [w64 _ (by omega)]; omega
  have e2 : wrap64 ((wrap64 (s * 100)) + 100) = (M : Int) := by rw [w64 (s * 100) (by omega), w64 _ (by omega)]; omega
  have hfine : batch_Fine.f (M : Int) 1 = some true := fine_ok (zeros_fit 0 M (by omega) (by omega) (by omega))
  obtain ⟨K1, hK1⟩ := known_ev
  by_cases h : 65536 < n
  · obtain ⟨K2, hK2⟩ := zeros_long n M 1 h (by omega) n 0 (by omega)
    have hf : batch_Form.f (max K1 K2) (List.replicate n 0) (M : Int) 1 = some ([], 4) := by
      unfold batch_Form.f
      rw [hfine, Option.bind_some, if_pos rfl]
      exact hK2 _ (by omega)
    refine ⟨max K1 K2, ?_⟩
    have hk : abaculuslaw38_known.f (max K1 K2) = some true := hK1 _ (by omega)
    unfold abaculuslaw38_BatchLong.f
    rw [ht, Option.bind_some, hs, Option.bind_some, e1, e2, if_pos (by omega), if_pos (by omega), Int.toNat_natCast, hf, Option.bind_some, if_pos (by omega), hk, Option.bind_some, if_pos rfl, if_pos rfl]
    rfl
  · obtain ⟨K2, hK2⟩ := form_ok (zeros_fit n M (by omega) (by omega) (by omega))
    have hf : batch_Form.f (max K1 K2) (List.replicate n 0) (M : Int) 1 = some (gs (List.replicate n 0) (M : Int) 1 (List.replicate n (0 : Int)).length 0, 0) := hK2 _ (by omega)
    refine ⟨max K1 K2, ?_⟩
    have hk : abaculuslaw38_known.f (max K1 K2) = some true := hK1 _ (by omega)
    have hc := zeros_count n M (by omega) n 0 (by omega) (by omega)
    unfold abaculuslaw38_BatchLong.f
    rw [ht, Option.bind_some, hs, Option.bind_some, e1, e2, if_pos (by omega), if_pos (by omega), Int.toNat_natCast, hf, Option.bind_some, if_neg (by omega), hk, Option.bind_some, if_pos rfl, if_pos rfl, if_neg (by omega), List.length_replicate, hc]
    have e3 : wrap64 ((wrap64 ((n : Int) + M)) - 1) = ((n + (M - 1) : Nat) : Int) := by rw [w64 ((n : Int) + M) (by omega), w64 _ (by omega)]; omega
    have e4 : Int.tdiv ((n + (M - 1) : Nat) : Int) (M : Int) = (((n + (M - 1)) / M : Nat) : Int) := rfl
    have e5 : (n + (M - 1)) / M ≤ n + (M - 1) := Nat.div_le_self _ _
    have e6 : wrap64 (((n + (M - 1)) / M : Nat) : Int) = (((n + (M - 1)) / M : Nat) : Int) := by
      generalize (n + (M - 1)) / M = q at e5
      exact w64 _ (by omega)
    rw [e3, e4, e6, Nat.sub_zero]
    simp

end Go.Proofs.Ytoojcilbdeiodaa.Pure
