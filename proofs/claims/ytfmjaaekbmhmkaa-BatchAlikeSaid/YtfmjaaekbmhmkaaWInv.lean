-- PRINTED BY print.sh 35421559b90ae4d0a3588c463048766b98c2df88dd9212a6774a882060cdf62d: not written by this session
import Derived.Test.YtfmjaaekbmhmkaaWTab
namespace Go.Proofs.YtfmjaaekbmhmkaaW.PrintLast
def up (b : Nat → Bool) (i : Nat) : Nat → Bool := fun j => if j = i then true else b j
theorem up_self (b : Nat → Bool) (i : Nat) : up b i i = true := by simp [up]
theorem up_ne {b : Nat → Bool} {i j : Nat} (h : j ≠ i) : up b i j = b j := by simp [up, h]
def lof (n : Nat) (O : List Nat) (b : Nat → Bool) : List Bool := (List.range n).map fun j => if O.contains j then b j else true
def putSel (a : Act) (b : Nat → Bool) : List (Nat × Tmp × Value) → Act
  | [] => a
  | e :: r => putSel (if b e.1 = true then a.put (some e.2.1) e.2.2 else a) b r
section
variable {P : Program} {ops : Array Oper} {Q : Exit → Act → World → Prop} {md : Region.Mode} {T : Bool × List (List Nat × List Nat)} {B : List Nat} {O : List Nat} {b : Nat → Bool} {i j n : Nat}
theorem lof_length : (lof n O b).length = n := by simp [lof]
theorem lof_get {d : Bool} (hj : j < n) : (lof n O b).getD j d = if O.contains j then b j else true := by
  simp [lof, List.getD_eq_getElem?_getD, hj]
def StepAt (P : Program) (ops : Array Oper) (Q : Exit → Act → World → Prop) (B : List Nat) (O : List Nat) (I : (Nat → Bool) → Act → World → Prop) (i : Nat) : Prop :=
  ∀ b a w, I b a w → b i = false → (∀ j, (O.contains j && (B.getD i 0).testBit j) = true → b j = true) → (∀ d, (O.contains d && (B.getD d 0).testBit i) = true → b d = false) →
    ∃ oi, ops[i]? = some oi ∧ ∀ K : Act → World → Prop, Shut (∀ a' w', I (up b i) a' w' → K a' w') → if Region.wanted oi (yielded ops a.tmps) = true then Oper.wp P oi a w K Q else K (a.put oi.dst undef) w
def baseOk (T : List (List Nat × List Nat)) (O : List Nat) : Bool :=
  (List.range T.length).all (fun d => match T[d]? with
    | some r => (O.contains d || r.1.all fun n => !O.contains n) && r.1.all fun n => decide (n < d)
    | none => false) && O.all (fun i => decide (i < T.length)) && decide O.Nodup
def Closed (T : List (List Nat × List Nat)) (O : List Nat) (b : Nat → Bool) : Prop := ∀ d r, T[d]? = some r → O.contains d = true → b d = true → ∀ n ∈ r.1, O.contains n = true → b n = true
theorem putSel_off {b : Nat → Bool} {t : Tmp} : ∀ {L : List (Nat × Tmp × Value)} {a : Act}, (L.all fun e => !(e.2.1 == t)) = true → (putSel a b L).tmps[t]? = a.tmps[t]?
  | [], _, _ => rfl
  | e :: r, a, h => by
    rw [List.all_cons, Bool.and_eq_true] at h
    have he : e.2.1 ≠ t := by simpa using h.1
    unfold putSel
    by_cases hb : b e.1 = true
    · rw [if_pos hb, putSel_off h.2]
      simp [Act.put, Array.getElem?_setIfInBounds_ne he]
    · rw [if_neg hb]
      exact putSel_off h.2
theorem put_comm {a : Act} {s t : Tmp} {u v : Value} (h : s ≠ t) : (a.put (some s) u).put (some t) v = (a.put (some t) v).put (some s) u := by
  simp only [Act.put]
  rw [Array.setIfInBounds_comm _ _ h]
theorem putSel_put {b : Nat → Bool} {t : Tmp} {v : Value} : ∀ {L : List (Nat × Tmp × Value)} {a : Act}, (L.all fun e => !(e.2.1 == t)) = true → (putSel a b L).put (some t) v = putSel (a.put (some t) v) b L
  | [], _, _ => rfl
  | e :: r, a, h => by
    rw [List.all_cons, Bool.and_eq_true] at h
    have he : e.2.1 ≠ t := by simpa using h.1
    unfold putSel
    by_cases hb : b e.1 = true
    · rw [if_pos hb, if_pos hb, putSel_put h.2, put_comm he]
    · rw [if_neg hb, if_neg hb]
      exact putSel_put h.2
end
end Go.Proofs.YtfmjaaekbmhmkaaW.PrintLast
