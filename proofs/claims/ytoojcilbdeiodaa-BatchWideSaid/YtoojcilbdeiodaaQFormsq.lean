/- The document's groups are batch.Form's groups, and its refusals batch.Form's refusals, over lists and numbers alone. No conditions. -/
import Derived.Test.YtoojcilbdeiodaaQFormsx4
import Derived.Test.YtoojcilbdeiodaaQFormsp
namespace Go.Proofs.Ytoojcilbdeiodaa.QForms
open Go.RowKit Go.Proofs.YtoojcilbdeiodaaW.PrintWords Go.Proofs.YtoojcilbdeiodaaW.PrintLast
set_option linter.unusedVariables false
set_option linter.unusedSimpArgs false

theorem known_ev : EvR (fun k => abaculuslaw38_known.f k) true := EvR.up abaculuslaw38_known.mono (k := 30) (by decide +kernel)

/-! ### refusals -/
def Vd (T : List Int) (i : Nat) : Prop := 0 ≤ T.getD i 0 ∧ T.getD i 0 ≤ 1073741824 ∧ (0 < i → T.getD (i - 1) 0 ≤ T.getD i 0)
instance (T : List Int) (i : Nat) : Decidable (Vd T i) := by unfold Vd; infer_instance

theorem fine_good (T : List Int) (hl : T.length ≤ 65536) : ∀ d i, i + d = T.length → (∀ q, i ≤ q → q < T.length → Vd T q) → EvR (fun k => abaculusref33_FineTimes.l0 k T (i : Int)) 0 := by
  intro d
  induction d with
  | zero =>
    intro i hi _
    refine EvR.now (fun k => ?_)
    rw [abaculusref33_FineTimes.l0, if_neg (by omega), if_neg (by omega)]
  | succ d ih =>
    intro i hi hv
    obtain ⟨h1, h2, h3⟩ := hv i (Nat.le_refl _) (by omega)
    have eb : wrap64 ((i : Int) + 1) = ((i + 1 : Nat) : Int) := by rw [w64 _ (by omega)]; omega
    refine EvR.step (fun k => ?_) (ih (i + 1) (by omega) (fun q a b => hv q (by omega) b))
    rw [abaculusref33_FineTimes.l0, if_pos (by omega), if_pos (by omega), rd_nat, if_neg (by omega), if_neg (by omega), eb]
    by_cases h0 : (i : Int) > 0
    · have ea : wrap64 ((i : Int) - 1) = ((i - 1 : Nat) : Int) := by rw [w64 _ (by omega)]; omega
      have hup := h3 (by omega)
      rw [if_pos h0, ea, if_pos (by omega), if_pos (by omega), rd_nat, if_neg (by omega)]
    · rw [if_neg h0]

theorem both_bad (T : List Int) (m w : Int) (hl : T.length ≤ 65536) : ∀ d i, i + d = T.length → (∃ q, i ≤ q ∧ q < T.length ∧ ¬ Vd T q) →
    EvR (fun k => abaculusref33_FineTimes.l0 k T (i : Int)) 1 ∧ EvR (fun k => batch_Form.l0 k T T (T.length : Int) (i : Int) m w) ([], 1) := by
  intro d
  induction d with
  | zero =>
    intro i hi ⟨q, h1, h2, h3⟩
    omega
  | succ d ih =>
    intro i hi hq
    have eb : wrap64 ((i : Int) + 1) = ((i + 1 : Nat) : Int) := by rw [w64 _ (by omega)]; omega
    by_cases h1 : T.getD i 0 < 0
    · refine ⟨EvR.now (fun k => ?_), EvR.now (fun k => ?_)⟩
      · rw [abaculusref33_FineTimes.l0, if_pos (by omega), if_pos (by omega), rd_nat, if_pos h1]
      · rw [batch_Form.l0, if_pos (by omega), if_pos (by omega), if_pos (by omega), rd_nat, if_pos h1]
    by_cases h2 : T.getD i 0 > 1073741824
    · refine ⟨EvR.now (fun k => ?_), EvR.now (fun k => ?_)⟩
      · rw [abaculusref33_FineTimes.l0, if_pos (by omega), if_pos (by omega), rd_nat, if_neg h1, if_pos h2]
      · rw [batch_Form.l0, if_pos (by omega), if_pos (by omega), if_pos (by omega), rd_nat, if_neg h1, if_pos h2]
    by_cases h0 : (i : Int) > 0
    · have ea : wrap64 ((i : Int) - 1) = ((i - 1 : Nat) : Int) := by rw [w64 _ (by omega)]; omega
      by_cases h3 : T.getD i 0 < T.getD (i - 1) 0
      · refine ⟨EvR.now (fun k => ?_), EvR.now (fun k => ?_)⟩
        · rw [abaculusref33_FineTimes.l0, if_pos (by omega), if_pos (by omega), rd_nat, if_neg h1, if_neg h2, if_pos h0, ea, if_pos (by omega), if_pos (by omega), rd_nat, if_pos h3]
        · rw [batch_Form.l0, if_pos (by omega), if_pos (by omega), if_pos (by omega), rd_nat, if_neg h1, if_neg h2, if_pos h0, ea, if_pos (by omega), if_pos (by omega), rd_nat, if_pos h3]
      · obtain ⟨q, q1, q2, q3⟩ := hq
        have hqi : q ≠ i := fun e => q3 (by rw [e]; exact ⟨by omega, by omega, fun _ => by omega⟩)
        obtain ⟨r1, r2⟩ := ih (i + 1) (by omega) ⟨q, by omega, q2, q3⟩
        refine ⟨EvR.step (fun k => ?_) r1, EvR.step (fun k => ?_) r2⟩
        · rw [abaculusref33_FineTimes.l0, if_pos (by omega), if_pos (by omega), rd_nat, if_neg h1, if_neg h2, if_pos h0, ea, if_pos (by omega), if_pos (by omega), rd_nat, if_neg h3, eb]
        · rw [batch_Form.l0, if_pos (by omega), if_pos (by omega), if_pos (by omega), rd_nat, if_neg h1, if_neg h2, if_pos h0, ea, if_pos (by omega), if_pos (by omega), rd_nat, if_neg h3, eb]
    · obtain ⟨q, q1, q2, q3⟩ := hq
      have hqi : q ≠ i := fun e => q3 (by rw [e]; exact ⟨by omega, by omega, fun _ => by omega⟩)
      obtain ⟨r1, r2⟩ := ih (i + 1) (by omega) ⟨q, by omega, q2, q3⟩
      refine ⟨EvR.step (fun k => ?_) r1, EvR.step (fun k => ?_) r2⟩
      · rw [abaculusref33_FineTimes.l0, if_pos (by omega), if_pos (by omega), rd_nat, if_neg h1, if_neg h2, if_neg h0, eb]
      · rw [batch_Form.l0, if_pos (by omega), if_pos (by omega), if_pos (by omega), rd_nat, if_neg h1, if_neg h2, if_neg h0, eb]

/-! ### the document's groups -/
def c44 (g : S40) : S44 := ⟨g.f0, g.f1⟩

theorem last44 (X : List S44) (g : S44) : rd_T44 (X ++ [g]) (X.length : Int) = g := by
  simp [rd_T44, List.getD_eq_getElem?_getD]
theorem wpred (n : Nat) (h : n ≤ 65536) : wrap64 (((n + 1 : Nat) : Int) - 1) = (n : Int) := by rw [w64 _ (by omega)]; omega
theorem set44 (X : List S44) (g h : S44) : (X ++ [g]).set X.length h = X ++ [h] := by simp
theorem grp_snoc (T : List Int) (m e : Int) (fr i : Nat) (h1 : fr ≤ i) (h2 : i < T.length) : (grp T m e fr (i + 1)).f0 = (grp T m e fr i).f0 ++ [(i : Int)] := by
  have h3 : ((iota T.length).take (i + 1)) = (iota T.length).take i ++ [(i : Int)] := by
    rw [List.take_add_one]
    congr 1
    simp [iota, h2]
  simp only [grp]
  rw [h3, List.drop_append_of_le_length (by rw [List.length_take, iota_len]; omega)]
theorem grp_self (T : List Int) (m e : Int) (i : Nat) : (grp T m e i i).f0 = [] := by
  simp only [grp]
  rw [List.drop_eq_nil_iff, List.length_take]
  omega
theorem grp_len (T : List Int) (m e : Int) (i a : Nat) (h1 : i ≤ a) (h2 : a ≤ T.length) : (grp T m e i a).f0.length = a - i := by
  simp only [grp, List.length_drop, List.length_take, iota_len]; omega
theorem iota_get (n q : Nat) (h : q < n) : (iota n).getD q 0 = q := by
  simp [iota, List.getD_eq_getElem?_getD, h]
theorem grp_get0 (T : List Int) (m e : Int) (i a : Nat) (h1 : i < a) (h2 : a ≤ T.length) : rd (grp T m e i a).f0 0 = (i : Int) := by
  show (grp T m e i a).f0.getD 0 0 = _
  simp only [grp]
  rw [List.getD_eq_getElem?_getD, List.getElem?_drop, List.getElem?_take, if_pos (by omega), ← List.getD_eq_getElem?_getD, iota_get _ _ (by omega)]
  simp

section
variable {T : List Int} {m w : Int} (F : Fit T m w)
include F

/-- a new group of one ask -/
theorem g_new (X : List S44) (hX : X.length ≤ 65536) (i : Nat) (hi : i < T.length) {r : List S44}
    (h : EvR (fun k => abaculusref33_Groups.l0 k T m w (X ++ [c44 (grp T m (T.getD i 0 + w) i (i + 1))]) ((i + 1 : Nat) : Int)) r) :
    EvR (fun k => abaculusref33_Groups.j1 k T m w X (i : Int) ((X.length : Int) - 1) true) r := by
  have hl := F.len
  have hw0 := F.w0
  have hw1 := F.w1
  have hlo := F.lo i hi
  have hhi := F.hi i hi
  have ew : wrap64 (T.getD i 0 + w) = T.getD i 0 + w := w64 _ (by omega)
  have ex : wrap64 ((X.length : Int) - 1 + 1) = (X.length : Int) := by rw [w64 _ (by omega)]; omega
  have eb : wrap64 ((i : Int) + 1) = ((i + 1 : Nat) : Int) := by rw [w64 _ (by omega)]; omega
  have eg : (grp T m (T.getD i 0 + w) i (i + 1)).f0 = [(i : Int)] := by rw [grp_snoc _ _ _ _ _ (Nat.le_refl _) hi, grp_self]; rfl
  refine EvR.step (fun k => ?_) h
  rw [abaculusref33_Groups.j1, if_pos rfl, if_pos (by omega), if_pos (by omega), if_pos (by omega), Option.bind_some, rd_nat, ew, ex, if_pos (by omega), if_pos (by rw [List.length_append, List.length_singleton]; omega), last44, if_pos (by simp), Option.bind_some, Int.toNat_natCast, set44, last44, set44, eb]
  have e8 : c44 (grp T m (T.getD i 0 + w) i (i + 1)) = ⟨[(i : Int)], (grp T m (T.getD i 0 + w) i (i + 1)).f1⟩ := by rw [← eg]; rfl
  rw [e8]
  by_cases h1 : (1 : Int) = m
  · have e9 : (grp T m (T.getD i 0 + w) i (i + 1)).f1 = T.getD i 0 := by
      show (if ((i + 1 : Nat) : Int) - i = m then T.getD (i + 1 - 1) 0 else T.getD i 0 + w) = _
      rw [if_pos (by omega), Nat.add_sub_cancel]
    rw [if_pos (by simpa using h1), e9]
    rfl
  · have e9 : (grp T m (T.getD i 0 + w) i (i + 1)).f1 = T.getD i 0 + w := by
      show (if ((i + 1 : Nat) : Int) - i = m then T.getD (i + 1 - 1) 0 else T.getD i 0 + w) = _
      rw [if_neg (by omega)]
    rw [if_neg (by simpa using h1), e9]
    rfl

theorem g_loop : ∀ d i fr (X : List S44) f, i + d = T.length → fr < i → ((i : Int) - fr ≤ m) → (∀ q, fr ≤ q → q < i → T.getD q 0 ≤ T.getD fr 0 + w) → X.length ≤ fr →
    T.length ≤ adv T m (T.getD fr 0 + w) fr d i + f →
    EvR (fun k => abaculusref33_Groups.l0 k T m w (X ++ [c44 (grp T m (T.getD fr 0 + w) fr i)]) (i : Int))
      (X ++ c44 (grp T m (T.getD fr 0 + w) fr (adv T m (T.getD fr 0 + w) fr d i)) :: (gs T m w f (adv T m (T.getD fr 0 + w) fr d i)).map c44) := by
  have hl := F.len
  have hw0 := F.w0
  have hw1 := F.w1
  have hm1 := F.m1
  intro d
  induction d with
  | zero =>
    intro i fr X f hid hfi him hq hX hf
    have hg : gs T m w f i = [] := by
      cases f with
      | zero => rfl
      | succ f => rw [gs, if_neg (by omega)]
    refine EvR.now (fun k => ?_)
    rw [abaculusref33_Groups.l0, if_neg (by omega), adv, hg]
    rfl
  | succ d ih =>
    intro i fr X f hid hfi him hq hX
    have hlo := F.lo fr (by omega)
    have hhi := F.hi fr (by omega)
    have ew : wrap64 (T.getD fr 0 + w) = T.getD fr 0 + w := w64 _ (by omega)
    have eb : wrap64 ((i : Int) + 1) = ((i + 1 : Nat) : Int) := by rw [w64 _ (by omega)]; omega
    have hXs : X.length ≤ 65536 := by omega
    have ex0 : wrap64 (((X.length + 1 : Nat) : Int) - 1) = (X.length : Int) := wpred X.length hXs
    have eX0 : Aside0 ((X ++ [c44 (grp T m (T.getD fr 0 + w) fr i)]).length = X.length + 1) := ⟨by simp⟩
    have ex : Aside0 (wrap64 (((X ++ [c44 (grp T m (T.getD fr 0 + w) fr i)]).length : Int) - 1) = (X.length : Int)) := ⟨by rw [eX0.out]; exact ex0⟩
    clear ex0
    have elen : Aside0 ((c44 (grp T m (T.getD fr 0 + w) fr i)).f0.length = i - fr) := ⟨grp_len T m (T.getD fr 0 + w) fr i (by omega) (by omega)⟩
    have elen2 : Aside0 ((((c44 (grp T m (T.getD fr 0 + w) fr i)).f0.length : Nat) : Int) = (i : Int) - fr) := ⟨by rw [elen.out]; omega⟩
    have b1 : (i : Int) < (T.length : Int) := by omega
    have b2 : ¬ ((X.length : Int) < 0) := by omega
    have b3 : (0 : Int) ≤ (X.length : Int) := by omega
    have b4 : Aside0 ((X.length : Int) < ((X ++ [c44 (grp T m (T.getD fr 0 + w) fr i)]).length : Int)) := ⟨by rw [eX0.out]; omega⟩
    have b5 : (0 : Int) ≤ (i : Int) := by omega
    have b6 : (0 : Int) < (i : Int) - fr := by omega
    have b7 : (0 : Int) ≤ (fr : Int) := by omega
    have b8 : (fr : Int) < (T.length : Int) := by omega
    have eget : rd (c44 (grp T m (T.getD fr 0 + w) fr i)).f0 0 = (fr : Int) := grp_get0 T m (T.getD fr 0 + w) fr i hfi (by omega)
    have hew := Aside0.mk ew
    have hebs := Aside0.mk eb
    have hegs := Aside0.mk eget
    clear ew eb eget
    intro hf
    have hff := Aside0.mk hf
    clear hf
    -- the head of the round
    have hnew : ¬ ((i : Int) - fr < m ∧ T.getD i 0 ≤ T.getD fr 0 + w) →
        EvR (fun k => abaculusref33_Groups.j1 k T m w (X ++ [c44 (grp T m (T.getD fr 0 + w) fr i)]) (i : Int) (X.length : Int) true)
          (X ++ c44 (grp T m (T.getD fr 0 + w) fr (adv T m (T.getD fr 0 + w) fr (d + 1) i)) :: (gs T m w f (adv T m (T.getD fr 0 + w) fr (d + 1) i)).map c44) := by
      intro hc
      have ea : adv T m (T.getD fr 0 + w) fr (d + 1) i = i := by rw [adv, if_neg hc]
      have hf := hff.out
      rw [ea] at hf ⊢
      clear hff ea
      cases f with
      | zero => omega
      | succ f =>
        have hlo2 := F.lo i (by omega)
        have ei : adv T m (T.getD i 0 + w) i (T.length - i) i = adv T m (T.getD i 0 + w) i d (i + 1) := by
          rw [show T.length - i = d + 1 by omega, adv, if_pos ⟨by omega, by omega⟩]
        have hge := adv_ge T m (T.getD i 0 + w) i d (i + 1)
        rw [gs, if_pos (by omega), ei, List.map_cons]
        have h2 := ih (i + 1) i (X ++ [c44 (grp T m (T.getD fr 0 + w) fr i)]) f (by omega) (by omega) (by omega) (fun q a b => by rw [show q = i by omega]; omega) (by rw [eX0.out]; omega) (by omega)
        have h3 := g_new F (X ++ [c44 (grp T m (T.getD fr 0 + w) fr i)]) (by rw [eX0.out]; omega) i (by omega) h2
        rw [eX0.out, show (((X.length + 1 : Nat) : Int) - 1) = (X.length : Int) by omega] at h3
        rw [List.append_assoc, List.singleton_append] at h3
        exact h3
    by_cases h1 : (i : Int) - fr < m
    · have et : (c44 (grp T m (T.getD fr 0 + w) fr i)).f1 = T.getD fr 0 + w := by simp only [c44, grp]; rw [if_neg (by omega)]
      by_cases h2 : T.getD i 0 ≤ T.getD fr 0 + w
      · -- one ask more
        have ea : adv T m (T.getD fr 0 + w) fr (d + 1) i = adv T m (T.getD fr 0 + w) fr d (i + 1) := by rw [adv, if_pos ⟨h1, h2⟩]
        have hf := hff.out
        rw [ea] at hf ⊢
        clear hnew hff ea
        have h3 := ih (i + 1) fr X f (by omega) (by omega) (by omega) (fun q a b => by
          by_cases hqi : q = i
          · rw [hqi]; exact h2
          · exact hq q a (by omega)) hX hf
        refine EvR.step (fun k => ?_) (EvR.step (f := fun k => abaculusref33_Groups.j1 k T m w (X ++ [c44 (grp T m (T.getD fr 0 + w) fr i)]) (i : Int) (X.length : Int) false) (fun k => ?_) h3)
        · rw [abaculusref33_Groups.l0, if_pos b1, ex.out, if_neg b2, if_pos b3, if_pos b4.out, last44, elen2.out, if_neg (by omega), if_pos b5, if_pos b6, hegs.out, if_pos b7, if_pos b8, rd_nat, rd_nat, hew.out, decide_eq_false (by omega)]
        · rw [abaculusref33_Groups.j1, if_neg (by decide), if_pos b3, if_pos b4.out, last44, if_pos (by rw [elen.out]; omega), Option.bind_some, Int.toNat_natCast, set44, last44, set44, hebs.out]
          have e4 : (c44 (grp T m (T.getD fr 0 + w) fr i)).f0 ++ [(i : Int)] = (grp T m (T.getD fr 0 + w) fr (i + 1)).f0 := (grp_snoc _ _ _ _ _ (by omega) (by omega)).symm
          have e5 : (((c44 (grp T m (T.getD fr 0 + w) fr i)).f0 ++ [(i : Int)]).length : Int) = (i : Int) + 1 - fr := by rw [List.length_append, elen.out, List.length_singleton]; omega
          rw [e5]
          by_cases h6 : (i : Int) + 1 - fr = m
          · rw [if_pos h6, if_pos (by omega), if_pos (by omega), rd_nat, e4]
            have e7 : (grp T m (T.getD fr 0 + w) fr (i + 1)).f1 = T.getD i 0 := by simp only [grp]; rw [if_pos (by omega)]; simp
            rw [← e7]
            rfl
          · rw [if_neg h6, e4, et]
            have e7 : (grp T m (T.getD fr 0 + w) fr (i + 1)).f1 = T.getD fr 0 + w := by simp only [grp]; rw [if_neg (by omega)]
            exact congrArg (fun z => abaculusref33_Groups.l0 k T m w (X ++ [(⟨(grp T m (T.getD fr 0 + w) fr (i + 1)).f0, z⟩ : S44)]) ((i + 1 : Nat) : Int)) e7.symm
      · refine EvR.step (fun k => ?_) (hnew (fun c => h2 c.2))
        rw [abaculusref33_Groups.l0, if_pos b1, ex.out, if_neg b2, if_pos b3, if_pos b4.out, last44, elen2.out, if_neg (by omega), if_pos b5, if_pos b6, hegs.out, if_pos b7, if_pos b8, rd_nat, rd_nat, hew.out, decide_eq_true (by omega)]
    · refine EvR.step (fun k => ?_) (hnew (fun c => h1 c.1))
      rw [abaculusref33_Groups.l0, if_pos b1, ex.out, if_neg b2, if_pos b3, if_pos b4.out, last44, elen2.out, if_pos (by omega)]

theorem groups_ok : EvR (fun k => abaculusref33_Groups.f k T m w) ((gs T m w T.length 0).map c44) := by
  have hw0 := F.w0
  have hm1 := F.m1
  have e0 : wrap64 ((([] : List S44).length : Int) - 1) = (([] : List S44).length : Int) - 1 := w64 _ (by simp)
  by_cases h : 0 < T.length
  · have hlo := F.lo 0 h
    obtain ⟨d, hd⟩ : ∃ d, T.length = d + 1 := ⟨T.length - 1, by omega⟩
    have ei : adv T m (T.getD 0 0 + w) 0 (T.length - 0) 0 = adv T m (T.getD 0 0 + w) 0 d 1 := by
      rw [show T.length - 0 = d + 1 by omega, adv, if_pos ⟨by omega, by omega⟩]
    have hge := adv_ge T m (T.getD 0 0 + w) 0 d 1
    have h1 := g_new F [] (by simp) 0 h (g_loop F d 1 0 [] d (by omega) (by omega) (by omega) (fun q a b => by rw [show q = 0 by omega]; omega) (by simp) (by omega))
    have eg : gs T m w T.length 0 = grp T m (T.getD 0 0 + w) 0 (adv T m (T.getD 0 0 + w) 0 d 1) :: gs T m w d (adv T m (T.getD 0 0 + w) 0 d 1) := by
      have e1 : gs T m w T.length 0 = gs T m w (d + 1) 0 := by rw [← hd]
      rw [e1, gs, if_pos h, ei]
    rw [eg, List.map_cons]
    refine EvR.step (fun k => ?_) h1
    show abaculusref33_Groups.l0 (k + 1) T m w [] ((0 : Nat) : Int) = _
    rw [abaculusref33_Groups.l0, if_pos (by omega), e0, if_pos (by simp)]
  · have hn : T.length = 0 := by omega
    rw [hn, gs, List.map_nil]
    refine EvR.now (fun k => ?_)
    show abaculusref33_Groups.l0 (k + 1) T m w [] 0 = _
    rw [abaculusref33_Groups.l0, if_neg (by omega)]
end

/-! ### they are told to be the same -/
theorem ints_ok (l : List Int) (hl : l.length ≤ 65536) : ∀ d j, j + d = l.length → ∀ k, d < k → abaculushand_SameInts.l0 k l l (j : Int) = some true := by
  intro d
  induction d with
  | zero =>
    intro j hj k hk
    cases k with
    | zero => omega
    | succ k => rw [abaculushand_SameInts.l0, if_neg (by omega)]
  | succ d ih =>
    intro j hj k hk
    cases k with
    | zero => omega
    | succ k =>
      have eb : wrap64 ((j : Int) + 1) = ((j + 1 : Nat) : Int) := by rw [w64 _ (by omega)]; omega
      rw [abaculushand_SameInts.l0, if_pos (by omega), if_pos (by omega), if_pos (by omega), if_pos rfl, eb]
      exact ih (j + 1) (by omega) k (by omega)
theorem same_ok (X : List S40) (hX : X.length ≤ 65536) (b : Nat) (hb : b ≤ 65536) (hg : ∀ g ∈ X, g.f0.length ≤ b) : ∀ d j, j + d = X.length → ∀ k, d + b + 1 < k → abaculuslaw38_same.l0 k X (X.map c44) (j : Int) = some true := by
  intro d
  induction d with
  | zero =>
    intro j hj k hk
    cases k with
    | zero => omega
    | succ k => rw [abaculuslaw38_same.l0, if_neg (by omega)]
  | succ d ih =>
    intro j hj k hk
    cases k with
    | zero => omega
    | succ k =>
      have eb : wrap64 ((j : Int) + 1) = ((j + 1 : Nat) : Int) := by rw [w64 _ (by omega)]; omega
      have hj2 : j < X.length := by omega
      have e1 : rd_T40 X (j : Int) = X[j] := by simp [rd_T40, List.getD_eq_getElem?_getD, hj2]
      have e2 : rd_T44 (X.map c44) (j : Int) = c44 X[j] := by simp [rd_T44, List.getD_eq_getElem?_getD, hj2]
      have hgj := hg X[j] (List.getElem_mem hj2)
      have e3 : abaculushand_SameInts.f k X[j].f0 (c44 X[j]).f0 = some true := by
        show (if ((X[j].f0.length : Nat) : Int) = ((X[j].f0.length : Nat) : Int) then abaculushand_SameInts.l0 k X[j].f0 X[j].f0 0 else some false) = some true
        rw [if_pos rfl]
        exact ints_ok _ (by omega) X[j].f0.length 0 (by omega) k (by omega)
      rw [abaculuslaw38_same.l0, if_pos (by omega), if_pos (by omega), if_pos (by rw [List.length_map]; omega), e1, e2, if_pos (show X[j].f1 = (c44 X[j]).f1 from rfl), e3, Option.bind_some, if_pos rfl, eb]
      exact ih (j + 1) (by omega) k (by omega)

theorem gs_sizes {T : List Int} {m w : Int} : ∀ f i, (gs T m w f i).length ≤ f ∧ ∀ g ∈ gs T m w f i, g.f0.length ≤ T.length := by
  intro f
  induction f with
  | zero => intro i; rw [gs]; simp
  | succ f ih =>
    intro i
    rw [gs]
    split
    · obtain ⟨h1, h2⟩ := ih (adv T m (T.getD i 0 + w) i (T.length - i) i)
      refine ⟨by rw [List.length_cons]; omega, fun g hg => ?_⟩
      rcases List.mem_cons.1 hg with rfl | hg
      · simp only [grp, List.length_drop, List.length_take, iota_len]; omega
      · exact h2 g hg
    · simp

/-! ### all ways of it -/
/-- what both say, for whatever times (not too many) and rules -/
theorem both (T : List Int) (m w : Int) (hl : T.length ≤ 65536) :
    (∃ e, e ≠ 0 ∧ EvR (fun k => batch_Form.f k T m w) ([], e) ∧ EvR (fun k => abaculusref33_FineTimes.f k T m w) e) ∨
    (∃ X, EvR (fun k => batch_Form.f k T m w) (X, 0) ∧ EvR (fun k => abaculusref33_FineTimes.f k T m w) 0 ∧ EvR (fun k => abaculusref33_Groups.f k T m w) (X.map c44) ∧ EvR (fun k => abaculuslaw38_same.f k X (X.map c44)) true) := by
  have hj : EvR (fun k => abaculusref33_FineTimes.j0 k T true) 1 := EvR.now (fun k => by rw [abaculusref33_FineTimes.j0, if_pos rfl])
  have bad : batch_Fine.f m w = some false → EvR (fun k => batch_Form.f k T m w) ([], 1) := fun h => ⟨0, fun k _ => by
    show batch_Form.f k T m w = _
    unfold batch_Form.f
    rw [h, Option.bind_some, if_neg (by decide)]⟩
  by_cases h1 : m < 1
  · refine .inl ⟨1, by decide, bad (by rw [batch_Fine.f, if_neg (by omega)]), ?_⟩
    unfold abaculusref33_FineTimes.f
    simp only [if_pos h1]; exact hj
  by_cases h2 : m > 300
  · refine .inl ⟨1, by decide, bad (by rw [batch_Fine.f, if_pos (by omega), if_neg (by omega)]), ?_⟩
    unfold abaculusref33_FineTimes.f
    simp only [if_neg h1, if_pos h2]; exact hj
  by_cases h3 : w < 0
  · refine .inl ⟨1, by decide, bad (by rw [batch_Fine.f, if_pos (by omega), if_pos (by omega), if_neg (by omega)]), ?_⟩
    unfold abaculusref33_FineTimes.f
    simp only [if_neg h1, if_neg h2, if_pos h3]; exact hj
  by_cases h4 : w > 1073741824
  · refine .inl ⟨1, by decide, bad (by rw [batch_Fine.f, if_pos (by omega), if_pos (by omega), if_pos (by omega), decide_eq_false (by omega)]), ?_⟩
    unfold abaculusref33_FineTimes.f
    simp only [if_neg h1, if_neg h2, if_neg h3, decide_eq_true h4]; exact hj
  have hfine : batch_Fine.f m w = some true := by rw [batch_Fine.f, if_pos (by omega), if_pos (by omega), if_pos (by omega), decide_eq_true (by omega)]
  have toF : ∀ r, EvR (fun k => batch_Form.l0 k T T (T.length : Int) 0 m w) r → EvR (fun k => batch_Form.f k T m w) r := fun r ⟨K, hK⟩ => ⟨K, fun k hk => by
    show batch_Form.f k T m w = _
    unfold batch_Form.f
    rw [hfine, Option.bind_some, if_pos rfl]
    exact hK k hk⟩
  have toT : ∀ r, EvR (fun k => abaculusref33_FineTimes.l0 k T 0) r → EvR (fun k => abaculusref33_FineTimes.f k T m w) r := fun r h => by
    unfold abaculusref33_FineTimes.f
    simp only [if_neg h1, if_neg h2, if_neg h3, decide_eq_false h4]
    exact EvR.step (fun k => by rw [abaculusref33_FineTimes.j0, if_neg (by decide)]) h
  by_cases hv : ∀ q, q < T.length → Vd T q
  · have F : Fit T m w := ⟨fun i h => (hv i h).1, fun i h => (hv i h).2.1, fun i h => (hv (i + 1) h).2.2 (by omega), hl, by omega, by omega, by omega, by omega⟩
    obtain ⟨s1, s2⟩ := @gs_sizes T m w T.length 0
    refine .inr ⟨gs T m w T.length 0, form_ok F, toT 0 (fine_good T hl T.length 0 (by omega) (fun q _ h => hv q h)), groups_ok F, ?_⟩
    refine ⟨(gs T m w T.length 0).length + T.length + 2, fun k hk => ?_⟩
    show abaculuslaw38_same.f k _ _ = _
    unfold abaculuslaw38_same.f
    rw [if_pos (by rw [List.length_map])]
    exact same_ok _ (by omega) T.length hl s2 (gs T m w T.length 0).length 0 (by omega) k (by omega)
  · have hq : ∃ q, 0 ≤ q ∧ q < T.length ∧ ¬ Vd T q := by
      apply Classical.byContradiction
      intro hc
      exact hv (fun q hq => Classical.byContradiction (fun hn => hc ⟨q, by omega, hq, hn⟩))
    obtain ⟨r1, r2⟩ := both_bad T m w hl T.length 0 (by omega) hq
    exact .inl ⟨1, by decide, toF _ r2, toT _ r1⟩
end Go.Proofs.Ytoojcilbdeiodaa.QForms
