/- What the groups of batch.Form are, over lists and numbers alone. No conditions. -/
import Derived.Test.YtoojcilbdeiodaaQFormsx2
import Derived.IntWalk
namespace Go.Proofs.Ytoojcilbdeiodaa.QForms
open Go.RowKit Go.Proofs.YtoojcilbdeiodaaW.PrintWords Go.Proofs.YtoojcilbdeiodaaW.PrintLast
set_option linter.unusedVariables false
set_option linter.unusedSimpArgs false

/-- from some number of rounds on -/
def EvR {α : Type} (f : Nat → Option α) (r : α) : Prop := ∃ K, ∀ k, K ≤ k → f k = some r
theorem EvR.step {α : Type} {f g : Nat → Option α} {r : α} (h : ∀ k, f (k + 1) = g k) (hg : EvR g r) : EvR f r := by
  obtain ⟨K, hK⟩ := hg
  refine ⟨K + 1, fun k hk => ?_⟩
  cases k with
  | zero => omega
  | succ k => rw [h, hK k (by omega)]
theorem EvR.now {α : Type} {f : Nat → Option α} {r : α} (h : ∀ k, f (k + 1) = some r) : EvR f r := by
  refine ⟨1, fun k hk => ?_⟩
  cases k with
  | zero => omega
  | succ k => exact h k
theorem EvR.up {α : Type} {f : Nat → Option α} {r : α} (hm : ∀ k, LeO (f k) (f (k + 1))) {k : Nat} (h : f k = some r) : EvR f r := by
  refine ⟨k, fun j hj => ?_⟩
  obtain ⟨d, rfl⟩ := Nat.le.dest hj
  clear hj
  induction d with
  | zero => exact h
  | succ d ih => exact hm _ _ ih

theorem w64 (n : Int) (h : -9223372036854775808 ≤ n ∧ n ≤ 9223372036854775807) : wrap64 n = n := Go.IntWalk.wrap64_in n h
theorem rd_nat (T : List Int) (i : Nat) : rd T (i : Int) = T.getD i 0 := rfl
theorem p31 : (2 : Int) ^ 31 = 2147483648 := rfl

def iota (n : Nat) : List Int := (List.range n).map (fun i : Nat => (i : Int))
theorem iota_len (n : Nat) : (iota n).length = n := by simp [iota]

/-- times that may be, and rules that may be -/
structure Fit (T : List Int) (m w : Int) : Prop where
  lo : ∀ i : Nat, i < T.length → 0 ≤ T.getD i 0
  hi : ∀ i : Nat, i < T.length → T.getD i 0 ≤ 1073741824
  up : ∀ i : Nat, i + 1 < T.length → T.getD i 0 ≤ T.getD (i + 1) 0
  len : T.length ≤ 65536
  m1 : 1 ≤ m
  m2 : m ≤ 300
  w0 : 0 ≤ w
  w1 : w ≤ 1073741824

/-- where a group ends: `d` asks are left, `i` is the next, `fr` the first, `e` the end of the wait -/
def adv (T : List Int) (m e : Int) (fr : Nat) : Nat → Nat → Nat
  | 0, i => i
  | d + 1, i => if (i : Int) - fr < m ∧ T.getD i 0 ≤ e then adv T m e fr d (i + 1) else i
theorem adv_ge (T : List Int) (m e : Int) (fr : Nat) : ∀ d i, i ≤ adv T m e fr d i ∧ adv T m e fr d i ≤ i + d := by
  intro d
  induction d with
  | zero => intro i; simp [adv]
  | succ d ih =>
    intro i
    unfold adv
    split
    · have := ih (i + 1); omega
    · omega
def grp (T : List Int) (m e : Int) (fr i : Nat) : S40 := ⟨((iota T.length).take i).drop fr, if (i : Int) - fr = m then T.getD (i - 1) 0 else e⟩
def gs (T : List Int) (m w : Int) : Nat → Nat → List S40
  | 0, _ => []
  | f + 1, i => if i < T.length then
      grp T m (T.getD i 0 + w) i (adv T m (T.getD i 0 + w) i (T.length - i) i) :: gs T m w f (adv T m (T.getD i 0 + w) i (T.length - i) i)
    else []

section
variable {T : List Int} {m w : Int} (F : Fit T m w) {r : List S40 × Int}
include F

/-- the group's end, and the next one's start -/
theorem tail_ok (x4 : List S40) (hx : x4.length < 4398046511104) (fr i : Nat) (e : Int) (hfi : fr < i) (hi : i ≤ T.length) (k : Nat) :
    (if (0 : Int) ≤ fr then (if (fr : Int) ≤ i then (if (i : Int) ≤ ((iota T.length).length : Int) then ((some (((iota T.length).take (i : Int).toNat).drop (fr : Int).toNat : List Int)).bind fun y => (if (y.length : Int) = m then (if 0 ≤ (wrap64 ((i : Int) - 1)) then (if (wrap64 ((i : Int) - 1)) < (T.length : Int) then (if x4.length < 4398046511104 then (batch_Form.l2 k T (x4 ++ [(⟨y, rd T (wrap64 ((i : Int) - 1))⟩ : S40)]) (iota T.length) i m w) else (none)) else (none)) else (none)) else (if x4.length < 4398046511104 then (batch_Form.l2 k T (x4 ++ [(⟨y, e⟩ : S40)]) (iota T.length) i m w) else (none)))) else (none)) else (none)) else (none))
      = batch_Form.l2 k T (x4 ++ [grp T m e fr i]) (iota T.length) i m w := by
  have hl := F.len
  have e1 : wrap64 ((i : Int) - 1) = ((i - 1 : Nat) : Int) := by rw [w64 _ (by omega)]; omega
  rw [if_pos (by omega), if_pos (by omega), if_pos (by rw [iota_len]; omega), Option.bind_some, e1]
  have e2 : ((((iota T.length).take (i : Int).toNat).drop (fr : Int).toNat).length : Int) = (i : Int) - fr := by
    rw [List.length_drop, List.length_take, iota_len]; omega
  rw [e2, if_pos (show (0 : Int) ≤ ((i - 1 : Nat) : Int) by omega), if_pos (show ((i - 1 : Nat) : Int) < (T.length : Int) by omega), if_pos hx, if_pos hx, rd_nat]
  simp only [Int.toNat_natCast]
  by_cases h : (i : Int) - fr = m
  · rw [if_pos h]; simp only [grp, if_pos h]
  · rw [if_neg h]; simp only [grp, if_neg h]

theorem l3_ok (x4 : List S40) (hx : x4.length < 4398046511104) (fr : Nat) (e : Int) :
    ∀ d i, i + d = T.length → fr ≤ i → fr < adv T m e fr d i →
      EvR (fun k => batch_Form.l2 k T (x4 ++ [grp T m e fr (adv T m e fr d i)]) (iota T.length) (adv T m e fr d i : Nat) m w) r →
      EvR (fun k => batch_Form.l3 k T x4 (iota T.length) (i : Int) (fr : Int) e m w) r := by
  have hl := F.len
  intro d
  induction d with
  | zero =>
    intro i hid hfi hlt h
    simp only [adv] at hlt h
    refine EvR.step (fun k => ?_) h
    rw [batch_Form.l3, if_neg (by omega)]
    exact tail_ok F x4 hx fr i e hlt (by omega) k
  | succ d ih =>
    intro i hid hfi hlt h
    have ea : wrap64 ((i : Int) - fr) = (i : Int) - fr := w64 _ (by omega)
    have eb : wrap64 ((i : Int) + 1) = ((i + 1 : Nat) : Int) := by rw [w64 _ (by omega)]; omega
    by_cases h1 : (i : Int) - fr < m
    · by_cases h2 : T.getD i 0 ≤ e
      · have e1 : adv T m e fr (d + 1) i = adv T m e fr d (i + 1) := by rw [adv, if_pos ⟨h1, h2⟩]
        rw [e1] at hlt h
        refine EvR.step (fun k => ?_) (ih (i + 1) (by omega) (by omega) hlt h)
        rw [batch_Form.l3, if_pos (by omega), ea, if_pos h1, if_pos (by omega), rd_nat, if_pos h2, eb]
      · have e1 : adv T m e fr (d + 1) i = i := by rw [adv, if_neg (fun c => h2 c.2)]
        rw [e1] at hlt h
        refine EvR.step (fun k => ?_) h
        rw [batch_Form.l3, if_pos (by omega), ea, if_pos h1, if_pos (by omega), rd_nat, if_neg h2]
        exact tail_ok F x4 hx fr i e hlt (by omega) k
    · have e1 : adv T m e fr (d + 1) i = i := by rw [adv, if_neg (fun c => h1 c.1)]
      rw [e1] at hlt h
      refine EvR.step (fun k => ?_) h
      rw [batch_Form.l3, if_pos (by omega), ea, if_neg h1]
      exact tail_ok F x4 hx fr i e hlt (by omega) k

theorem adv_gt (i : Nat) (hi : i < T.length) : i < adv T m (T.getD i 0 + w) i (T.length - i) i := by
  have h0 := F.w0
  have h1 := F.m1
  obtain ⟨d, hd⟩ : ∃ d, T.length - i = d + 1 := ⟨T.length - i - 1, by omega⟩
  rw [hd, adv, if_pos ⟨by omega, by omega⟩]
  have := adv_ge T m (T.getD i 0 + w) i d (i + 1)
  omega

theorem l2_ok : ∀ f i (x4 : List S40), T.length ≤ i + f → i ≤ T.length → x4.length ≤ i →
    EvR (fun k => batch_Form.l2 k T x4 (iota T.length) (i : Int) m w) (x4 ++ gs T m w f i, 0) := by
  have hl := F.len
  intro f
  induction f with
  | zero =>
    intro i x4 h1 h2 h3
    refine EvR.now (fun k => ?_)
    rw [batch_Form.l2, if_neg (by omega), gs, List.append_nil]
  | succ f ih =>
    intro i x4 h1 h2 h3
    by_cases h : i < T.length
    · have hg := adv_gt F i h
      have ha := adv_ge T m (T.getD i 0 + w) i (T.length - i) i
      have hlo := F.lo i h
      have hhi := F.hi i h
      have hw0 := F.w0
      have hw1 := F.w1
      have ew : wrap64 (T.getD i 0 + w) = T.getD i 0 + w := w64 _ (by omega)
      have eg : gs T m w (f + 1) i = grp T m (T.getD i 0 + w) i (adv T m (T.getD i 0 + w) i (T.length - i) i) :: gs T m w f (adv T m (T.getD i 0 + w) i (T.length - i) i) := by rw [gs, if_pos h]
      rw [eg]
      have h4 := ih (adv T m (T.getD i 0 + w) i (T.length - i) i) (x4 ++ [grp T m (T.getD i 0 + w) i (adv T m (T.getD i 0 + w) i (T.length - i) i)]) (by omega) (by omega) (by rw [List.length_append, List.length_singleton]; omega)
      rw [List.append_assoc, List.singleton_append] at h4
      refine EvR.step (fun k => ?_) (l3_ok F x4 (by omega) i (T.getD i 0 + w) (T.length - i) i (by omega) (Nat.le_refl _) hg h4)
      rw [batch_Form.l2, if_pos (by omega), if_pos (by omega), rd_nat, ew]
    · refine EvR.now (fun k => ?_)
      rw [batch_Form.l2, if_neg (by omega), gs, if_neg h, List.append_nil]

theorem l1_ok (h : EvR (fun k => batch_Form.l2 k T [] (iota T.length) 0 m w) r) :
    ∀ d j (y : List Int), j + d = T.length → y.length = T.length → (∀ q, q < j → y.getD q 0 = q) →
      EvR (fun k => batch_Form.l1 k T y (T.length : Int) (j : Int) m w) r := by
  have hl := F.len
  intro d
  induction d with
  | zero =>
    intro j y hj hy hq
    have ey : y = iota T.length := by
      apply List.ext_getElem (by rw [iota_len, hy])
      intro q h1 h2
      have := hq q (by omega)
      rw [List.getD_eq_getElem?_getD, List.getElem?_eq_getElem h1] at this
      simp [iota] at this ⊢
      exact this
    refine EvR.step (fun k => ?_) h
    rw [batch_Form.l1, if_neg (by omega), ey]
  | succ d ih =>
    intro j y hj hy hq
    have eb : wrap64 ((j : Int) + 1) = ((j + 1 : Nat) : Int) := by rw [w64 _ (by omega)]; omega
    refine EvR.step (fun k => ?_) (ih (j + 1) (y.set j (j : Int)) (by omega) (by rw [List.length_set, hy]) (fun q hq2 => ?_))
    · rw [batch_Form.l1, if_pos (by omega), if_pos (by omega), if_pos (by omega), eb]
      rfl
    · rw [List.getD_eq_getElem?_getD, List.getElem?_set]
      by_cases hqj : j = q
      · subst hqj
        rw [if_pos rfl, if_pos (by omega)]
        rfl
      · rw [if_neg hqj, ← List.getD_eq_getElem?_getD]
        exact hq q (by omega)

theorem l0_ok (h : EvR (fun k => batch_Form.l2 k T [] (iota T.length) 0 m w) r) :
    ∀ d i, i + d = T.length → EvR (fun k => batch_Form.l0 k T T (T.length : Int) (i : Int) m w) r := by
  have hl := F.len
  intro d
  induction d with
  | zero =>
    intro i hi
    refine EvR.step (fun k => ?_) (l1_ok F h T.length 0 (List.replicate T.length 0) (by omega) (by simp) (fun q hq => by omega))
    rw [batch_Form.l0, if_neg (by omega), if_neg (by omega), if_pos (by omega), if_pos (by omega), Option.bind_some]
    simp
  | succ d ih =>
    intro i hi
    have eb : wrap64 ((i : Int) + 1) = ((i + 1 : Nat) : Int) := by rw [w64 _ (by omega)]; omega
    have hlo := F.lo i (by omega)
    have hhi := F.hi i (by omega)
    refine EvR.step (fun k => ?_) (ih (i + 1) (by omega))
    rw [batch_Form.l0, if_pos (by omega), if_pos (by omega), if_pos (by omega), rd_nat, if_neg (by omega), if_neg (by omega), eb]
    by_cases h0 : (i : Int) > 0
    · have ea : wrap64 ((i : Int) - 1) = ((i - 1 : Nat) : Int) := by rw [w64 _ (by omega)]; omega
      have hup := F.up (i - 1) (by omega)
      rw [show i - 1 + 1 = i by omega] at hup
      rw [if_pos h0, ea, if_pos (by omega), if_pos (by omega), rd_nat, if_neg (by omega)]
    · rw [if_neg h0]

theorem fine_ok : batch_Fine.f m w = some true := by
  have a := F.m1; have b := F.m2; have c := F.w0; have d := F.w1
  rw [batch_Fine.f, if_pos (by omega), if_pos (by omega), if_pos (by omega), decide_eq_true (by omega)]

theorem form_ok : EvR (fun k => batch_Form.f k T m w) (gs T m w T.length 0, 0) := by
  have h := l0_ok F (l2_ok F T.length 0 [] (by omega) (by omega) (by simp)) T.length 0 (by omega)
  obtain ⟨K, hK⟩ := h
  refine ⟨K, fun k hk => ?_⟩
  show batch_Form.f k T m w = _
  unfold batch_Form.f
  rw [fine_ok F, Option.bind_some, if_pos rfl]
  exact hK k hk
end
end Go.Proofs.Ytoojcilbdeiodaa.QForms
