/- An interpreter of Go code over values that are known, and the proof that it is sound (of its operations, second part, and of its runs). It has no conditions. -/
import Derived.Test.YtfmjaaekbmhmkaaAbsA
import Derived.Laws.MakeOwn
import Derived.MapKept
import Derived.Scope
set_option linter.unusedVariables false
set_option linter.unusedSectionVars false
set_option linter.unusedSimpArgs false
namespace Go.Abs
open Go.RowKit
variable [TokEnv]
section
variable {P : Program} {o : Oper} {T : Tr Value} {H : Hp} {r : Value → Hp → Ans} {V : Value} {HH : Hp}
theorem spliceL_eq (l : List Value) (off : Nat) (vs : List Value) : spliceL l off vs = l.take off ++ (vs ++ l.drop (off + vs.length)) := by
  unfold spliceL
  rw [appL_eq, appL_eq, takeL_eq, dropL_eq, len_eq]
  rfl
theorem take_set_last (v : Value) : ∀ (L : List Value) (i : Nat), i < L.length → (L.take (i + 1)).set i v = L.take i ++ [v] := by
  intro L
  induction L with
  | nil => intro i h; simp at h
  | cons x L ih =>
    intro i h
    cases i with
    | zero => simp
    | succ i => simp only [List.take_succ_cons, List.set_cons_succ, List.cons_append]; rw [ih i (by simpa using h)]
theorem foldl_splice (off : Nat) : ∀ (vs : List Value) (j : Nat) (cs : Array Value), off + j + vs.length ≤ cs.size →
    ((vs.zipIdx j).foldl (fun cs (x : Value × Nat) => cs.setIfInBounds (off + x.2) x.1) cs).toList = cs.toList.take (off + j) ++ (vs ++ cs.toList.drop (off + j + vs.length)) := by
  intro vs
  induction vs with
  | nil => intro j cs h; simp
  | cons v vs ih =>
    intro j cs h
    rw [List.zipIdx_cons, List.foldl_cons, ih (j + 1) _ (by simp at h ⊢; omega)]
    have hlt : off + j < cs.toList.length := by rw [Array.length_toList]; simp only [List.length_cons] at h; omega
    simp only [Array.toList_setIfInBounds]
    have e1 : off + (j + 1) = off + j + 1 := by omega
    rw [e1, List.take_set, List.drop_set_of_lt (by omega)]
    have e2 := take_set_last v cs.toList (off + j) hlt
    rw [e2]
    simp only [List.append_assoc, List.singleton_append, List.cons_append, List.length_cons]
    rw [show off + j + (vs.length + 1) = off + j + 1 + vs.length by omega]
    simp
theorem fill_cons {place : Nat → Option (Nat × Nat)} {cells : Array Value} {i : Nat} {v : Value} {rest : List (Nat × Value)} {off size : Nat} (hp : place i = some (off, size)) (hs : v.cells.size = size) (hle : off + size ≤ cells.size) :
    Instr.fill place cells ((i, v) :: rest) = Instr.fill place ⟨cells.toList.take off ++ (v.cells.toList ++ cells.toList.drop (off + v.cells.toList.length))⟩ rest := by
  simp only [Instr.fill, hp]
  rw [if_neg (by simp [hs]; omega)]
  congr 1
  apply Array.ext'
  have := foldl_splice off v.cells.toList 0 cells (by simp [hs]; omega)
  simp only [Nat.add_zero] at this
  rw [← this]
  congr 1
  rw [← Array.foldl_toList, Array.toList_zipIdx]
theorem fillA_ok {place : Nat → Option (Nat × Nat)} : ∀ {parts : List (Nat × Operand)} {l : List Value} {k : List Value → Ans}, fillA place T parts l k = .ok V HH →
    ∃ l', k l' = .ok V HH ∧ ∀ (ρ : Ren) (a : Act) (c : Array Value), (∀ p ∈ parts, ORel ρ T a p.2) → LRel ρ l c.toList → ∃ c', Instr.fill place c (parts.map fun p => (p.1, a.eval p.2)) = some c' ∧ LRel ρ l' c'.toList := by
  intro parts
  induction parts with
  | nil => intro l k h; exact ⟨l, h, fun ρ a c _ hl => ⟨c, rfl, hl⟩⟩
  | cons p parts ih =>
    intro l k h
    obtain ⟨i, x⟩ := p
    have h' : (evalA T x fun v => match place i with
      | some (off, s) => @Bool.rec (fun _ => Ans) (.err 31 i) (@Bool.rec (fun _ => Ans) (.err 32 i) (fillA place T parts (spliceL l off (cellsL v)) k) (Nat.ble (Nat.add off s) (len l))) (Nat.beq (len (cellsL v)) s)
      | none => .err 30 i) = .ok V HH := h
    obtain ⟨v, hv, h1⟩ := evalA_ok h'
    split at h1
    · rename_i off s hpl
      obtain ⟨hs, h2⟩ := brec_ok (c := 31) (x := i) h1
      obtain ⟨hle, h3⟩ := brec_ok (c := 32) (x := i) h2
      have hs := beq_eq' hs
      have hle : off + s ≤ len l := ble_le hle
      rw [len_eq] at hs hle
      obtain ⟨l', h4, hsim⟩ := ih h3
      refine ⟨l', h4, fun ρ a c hx hl => ?_⟩
      have hvr := hx (i, x) (by simp) v hv
      have hcl := cellsL_rel hvr
      have hsz : (a.eval x).cells.size = s := by rw [← hs, hcl.1]; simp
      have hc : c.size = l.length := by have := hl.1; simp at this; omega
      have hrel : LRel ρ (spliceL l off (cellsL v)) (c.toList.take off ++ ((a.eval x).cells.toList ++ c.toList.drop (off + (a.eval x).cells.toList.length))) := by
        rw [spliceL_eq, show (cellsL v).length = (a.eval x).cells.toList.length from hcl.1]
        exact (hl.take off).append (hcl.append (hl.drop _))
      obtain ⟨c', e1, e2⟩ := hsim ρ a ⟨c.toList.take off ++ ((a.eval x).cells.toList ++ c.toList.drop (off + (a.eval x).cells.toList.length))⟩ (fun p hp => hx p (by simp [hp])) hrel
      refine ⟨c', ?_, e2⟩
      rw [List.map_cons, fill_cons hpl hsz (by omega)]
      exact e1
    · cases h1
end
end Go.Abs
set_option linter.unusedVariables false
set_option linter.unusedSimpArgs false
namespace Go.Abs
open Go.RowKit
variable [TokEnv]
section
variable {P : Program} {o : Oper} {T : Tr Value} {H : Hp} {r : Value → Hp → Ans} {V : Value} {HH : Hp}
theorem mapM_run {α β : Type} (g : α → Sem β) (f : α → β) (w : World) : ∀ (l : List α), (∀ x ∈ l, (g x).run P w = .ok (f x) w) → (l.mapM g).run P w = .ok (l.map f) w := by
  intro l
  induction l with
  | nil => intro _; simp
  | cons x l ih =>
    intro h
    rw [List.mapM_cons]
    simp [h x (by simp), ih fun y hy => h y (by simp [hy])]
theorem zeroA_info {t : TypeId} {z : Value} (h : zeroA P t = some z) : ∃ i, P.info? t = some i ∧ i.zero = some z := by
  unfold zeroA at h
  cases hi : P.info? t with
  | none => rw [hi] at h; cases h
  | some i => rw [hi] at h; exact ⟨i, rfl, h⟩
theorem out_build {t : TypeId} {parts : Array (Nat × Operand)} (ho : o.op = .build t parts) (hw : H.WF) (h : (match zeroA P t with
    | some z => @Bool.rec (fun _ => Ans) (.err 205 t) (@Bool.rec (fun _ => Ans) (.err 206 t) (fillA (placeA P t) T parts.toList (cellsL z) fun l => r (.agg ⟨l⟩) H) (constOk z)) (places P t)
    | none => .err 207 t) = .ok V HH) : OpOut P o T H r V HH := by
  split at h
  · rename_i z hz
    obtain ⟨hp, h1⟩ := brec_ok (c := 205) (x := t) h
    obtain ⟨hc, h2⟩ := brec_ok (c := 206) (x := t) h1
    obtain ⟨l, h3, hs⟩ := fillA_ok h2
    obtain ⟨i, hi, hiz⟩ := zeroA_info hz
    refine .pure hw h3 fun ρ a w hxx hg => ?_
    obtain ⟨c', e1, e2⟩ := hs ρ a z.cells (fun p hp => hxx p.2 (by simp [ho, Op.operands]; exact ⟨p.1, by simpa using hp⟩)) (cellsL_rel (constOk_rel hc))
    refine ⟨.agg c', ?_, e2.agg⟩
    have e1' : Instr.fill (placeA P t) z.cells ((parts.map fun x => (x.1, a.eval x.2)).toList) = some c' := by simpa using e1
    unfold places at hp
    split at hp
    · rename_i fs hd
      have hall : ∀ f ∈ fs.toList, ∃ s, sizeA P f.type = some s := fun f hf => by
        have := List.all_eq_true.1 hp f hf
        exact Option.isSome_iff_exists.1 this
      have hm : (fs.mapM fun f : Field => do pure (f.offset, ← sizeOf f.type)).run P w = .ok (fs.map fun f : Field => (f.offset, (sizeA P f.type).getD 0)) w := by
        rw [Array.mapM_eq_mapM_toList]
        have := mapM_run (P := P) (fun f : Field => do pure (f.offset, ← sizeOf f.type)) (fun f => (f.offset, (sizeA P f.type).getD 0)) w fs.toList (fun f hf => by
          obtain ⟨s, hs⟩ := hall f hf
          simp [sizeA_run hs, hs])
        rw [Sem.run_map, this, Result.andThen_ok]
        congr 1
        apply Array.ext'
        simp
      have hpl : (fun x : Nat => (fs.map fun f : Field => (f.offset, (sizeA P f.type).getD 0))[x]?) = placeA P t := by
        funext x
        simp only [placeA, hd, Array.getElem?_map]
        cases hx : fs[x]? with
        | none => rfl
        | some f =>
          obtain ⟨s, hs⟩ := hall f (by have := Array.mem_of_getElem? hx; simpa using this)
          simp [hs]
      simp only [execOp, ho, Instr.build, zeroValue, typeInfo, Sem.run_bind, run_program, Result.andThen_ok, hi, Sem.run_pure, hiz, run_underlying hd, hm, hpl, e1']
    · rename_i n e hd
      obtain ⟨s, hs⟩ := Option.isSome_iff_exists.1 hp
      have hpl : (fun x : Nat => some (x * s, s)) = placeA P t := by
        funext x
        simp [placeA, hd, hs]
      simp only [execOp, ho, Instr.build, zeroValue, typeInfo, Sem.run_bind, run_program, Result.andThen_ok, hi, Sem.run_pure, hiz, run_underlying hd, sizeA_run hs, hpl, e1']
    · cases hp
  · cases h
theorem repL_get (zl : List Value) (hz : 0 < zl.length) : ∀ (n i : Nat), (repL zl n)[i]? = if i < n * zl.length then zl[i % zl.length]? else none := by
  intro n
  induction n with
  | zero => intro i; rw [if_neg (by simp)]; rfl
  | succ n ih =>
    intro i
    have e : repL zl (n + 1) = zl ++ repL zl n := by show appL zl (repL zl n) = _; rw [appL_eq]
    rw [e, Nat.succ_mul]
    by_cases hi : i < zl.length
    · rw [List.getElem?_append_left hi, if_pos (by omega), Nat.mod_eq_of_lt hi]
    · rw [List.getElem?_append_right (by omega), ih]
      have hm : (i - zl.length) % zl.length = i % zl.length := by
        rw [Nat.mod_eq_sub_mod (a := i) (by omega)]
      rw [hm]
      by_cases h2 : i - zl.length < n * zl.length
      · rw [if_pos h2, if_pos (by omega)]
      · rw [if_neg h2, if_neg (by omega)]
theorem repL_len (zl : List Value) (n : Nat) : (repL zl n).length = n * zl.length := by
  induction n with
  | zero => rw [Nat.zero_mul]; rfl
  | succ n ih =>
    have e : repL zl (n + 1) = zl ++ repL zl n := by show appL zl (repL zl n) = _; rw [appL_eq]
    rw [e, List.length_append, ih, Nat.succ_mul]; omega
theorem repL_rel {ρ : Ren} {z : Value} (hc : constOk z = true) {n s : Nat} (hs : (cellsL z).length = s) : LRel ρ (repL (cellsL z) n) ((Array.range (n * s)).map (z.cells[· % z.cells.size]!)).toList := by
  have hz := cellsL_rel (constOk_rel (ρ := ρ) hc)
  have hsz : z.cells.size = s := by have := hz.1; simp at this; omega
  refine ⟨by rw [repL_len, hs]; simp, fun i v v' hv hv' => ?_⟩
  by_cases hi : i < n * s
  · have hs0 : 0 < s := by
      rcases Nat.eq_zero_or_pos s with h | h
      · rw [h] at hi; simp at hi
      · exact h
    rw [repL_get _ (by omega), hs, if_pos hi] at hv
    have hm : i % s < s := Nat.mod_lt _ hs0
    simp [hi] at hv'
    subst hv'
    refine hz.2 (i % s) v _ hv ?_
    rw [hsz]
    simp [show i % s < z.cells.size by omega]
  · rw [List.getElem?_eq_none (by rw [repL_len, hs]; omega)] at hv; cases hv
theorem out_buildSlice {t : TypeId} {n : Nat} {parts : Array (Nat × Operand)} (ho : o.op = .buildSlice t n parts) (hw : H.WF) (h : (match P.underlying t with
    | some (.slice e) => match P.info? e with
      | some i => match i.zero with
        | some z => @Bool.rec (fun _ => Ans) (.err 208 t) (@Bool.rec (fun _ => Ans) (.err 209 t) (@Bool.rec (fun _ => Ans) (.err 210 t) (fillA (fun j => some (j * i.size, i.size)) T parts.toList (repL (cellsL z) n) fun l => rowA H l e false fun b H => r (.slice (some ⟨b, 0, none⟩) n n) H)
            (constOk z)) (Nat.beq (len (cellsL z)) i.size)) (@Bool.rec (fun _ => Bool) false (Nat.ble (n * i.size) 16777216) (Nat.blt 0 i.size))
        | none => .err 211 t
      | none => .err 212 t
    | _ => .err 213 t) = .ok V HH) : OpOut P o T H r V HH := by
  split at h
  · rename_i e hd
    split at h
    · rename_i i hi
      split at h
      · rename_i z hz
        obtain ⟨hb, h1⟩ := brec_ok (c := 208) (x := t) h
        obtain ⟨hl, h2⟩ := brec_ok (c := 209) (x := t) h1
        obtain ⟨hc, h3⟩ := brec_ok (c := 210) (x := t) h2
        obtain ⟨l, h4, hs⟩ := fillA_ok h3
        obtain ⟨hone, h5⟩ := rowA_ok h4
        clear h h1 h2 h3 h4
        have hl := beq_eq' hl
        rw [len_eq] at hl
        have hpos : 0 < i.size ∧ n * i.size ≤ 16777216 := by
          rw [blt_eq, ble_eq] at hb
          by_cases h0 : 0 < i.size
          · simp only [h0, decide_true] at hb
            exact ⟨h0, by simpa using hb⟩
          · simp only [h0, decide_false] at hb; cases hb
        refine row_out (v := fun b => .slice (some ⟨b, 0, none⟩) n n) hi (n := 0) hw hone h5 fun ρ a w hxx hg => ?_
        have hz' := cellsL_rel (constOk_rel (ρ := ρ) hc)
        obtain ⟨c', e1, e2⟩ := hs ρ a _ (fun p hp => hxx p.2 (by simp [ho, Op.operands]; exact ⟨p.1, by simpa using hp⟩)) (repL_rel hc (n := n) hl)
        have e1' : Instr.fill (fun j => some (j * i.size, i.size)) ((Array.range (n * i.size)).map (z.cells[· % z.cells.size]!)) ((parts.map fun x => (x.1, a.eval x.2)).toList) = some c' := by simpa using e1
        refine ⟨c'.toList, [], .slice (some ⟨w.heap.size, 0, none⟩) n n, w.alloc (.cells c' e), e2, ?_, by simpa using PushW.alloc w (.cells c' e), ?_⟩
        · have hgt : ¬ (n * i.size > 2 ^ 24) := by omega
          have hgt' : ¬ (16777216 < n * i.size) := by omega
          by_cases h0 : n * i.size = 0
          · have hr0 : ∀ g : Nat → Value, (Array.range 0).map g = #[] := fun g => by apply Array.ext'; simp
            rw [h0, hr0] at e1
            have e0 : Instr.fill (fun j => some (j * i.size, i.size)) #[] (parts.toList.map fun p => (p.1, a.eval p.2)) = some c' := e1
            simp [execOp, ho, Instr.buildSlice, run_underlying hd, sizeOf, typeInfo, hi, h0, newRow, hr0, e0]
          · simp [execOp, ho, Instr.buildSlice, run_underlying hd, sizeOf, typeInfo, hi, h0, newRow, zeroValue, hz, e1, hgt']
        · exact .slice H.n 0 n n ⟨w.heap.size, 0, _, _, _⟩ 0 n (upd_same _ _ _) (Nat.le_refl _) (Nat.le_refl _) (fun _ => rfl) (.inl rfl) (fun hx => by cases hx)
      · cases h
    · cases h
  · cases h
theorem out_makeSlice {t : TypeId} {n c : Operand} (ho : o.op = .makeSlice t n c) (hw : H.WF) (h : (evalA T n fun n => evalA T c fun c => makeSliceA P H t n c r) = .ok V HH) : OpOut P o T H r V HH := by
  obtain ⟨nv, hn, h1⟩ := evalA_ok h
  obtain ⟨cv, hcv, h2⟩ := evalA_ok h1
  clear h h1
  unfold makeSliceA at h2
  split at h2
  · rename_i e hd
    split at h2
    · rename_i i hi
      split at h2
      · rename_i z hz
        split at h2
        · rename_i kn n' kc c'
          obtain ⟨h3, h4⟩ := brec_ok (c := 150) (x := n') h2
          obtain ⟨h5, h6⟩ := brec_ok (c := 151) (x := c') h4
          obtain ⟨h7, h8⟩ := brec_ok (c := 152) (x := t) h6
          obtain ⟨h9, h10⟩ := brec_ok (c := 153) (x := t) h8
          obtain ⟨hone, h11⟩ := rowA_ok h10
          clear h2 h4 h6 h8 h10
          have h3 := ble_le h3
          have h5 : (c' + 1) * (i.bytes + 1) ≤ 1099511627776 := ble_le h5
          have h7 := beq_eq' h7
          rw [len_eq] at h7
          refine row_out (v := fun b => .slice (some ⟨b, 0, none⟩) n' c') hi (n := 0) hw hone h11 fun ρ a w hxx hg => ?_
          have v1 := vint (hxx n (by simp [ho, Op.operands]) _ hn)
          have v2 := vint (hxx c (by simp [ho, Op.operands]) _ hcv)
          have hb1 : i.bytes * c' ≤ 1099511627776 := by
            have : i.bytes * c' ≤ (c' + 1) * (i.bytes + 1) := by
              rw [Nat.mul_comm]; exact Nat.mul_le_mul (by omega) (by omega)
            omega
          have hb2 : c' ≤ 1099511627776 := by
            have : c' * 1 ≤ (c' + 1) * (i.bytes + 1) := Nat.mul_le_mul (by omega) (by omega)
            omega
          have hb1' : (i.bytes : Int) * (c' : Int) ≤ 281474976710656 := by
            have h : ((i.bytes * c' : Nat) : Int) ≤ 281474976710656 := by omega
            rwa [Int.natCast_mul] at h
          have hr := run_make (P := P) w t e i z hd hi hz kn kc (n' : Int) (c' : Int) (by omega) (by omega) hb1' (by omega)
          simp only [Int.toNat_natCast] at hr
          refine ⟨(madeCells z.cells (c' * i.size)).toList, [], .slice (some ⟨w.heap.size, 0, none⟩) n' c', _, repL_rel h9 h7, ?_, by simpa using PushW.alloc w (.cells (madeCells z.cells (c' * i.size)) e), ?_⟩
          · have v1' : a.eval n = .int kn (n' : Int) := v1
            have v2' : a.eval c = .int kc (c' : Int) := v2
            simp [execOp, ho, v1', v2', hr]
          · exact .slice H.n 0 n' c' ⟨w.heap.size, 0, _, _, _⟩ 0 c' (upd_same _ _ _) h3 (Nat.le_refl _) (fun _ => rfl) (.inl rfl) (fun hx => by cases hx)
        · cases h2
      · cases h2
    · cases h2
  · cases h2
end
end Go.Abs
set_option linter.unusedVariables false
set_option linter.unusedSimpArgs false
namespace Go.Abs
open Go.RowKit
variable [TokEnv]
section
variable {P : Program} {T : Tr Value} {H : Hp} {r : Value → Hp → Ans} {V : Value} {HH : Hp}
def RunOut (P : Program) (H : Hp) (v : Value) (H' : Hp) (S : Ren → World → Value → World → Prop) : Prop :=
  HStep H H' ∧ H'.WF ∧ ∀ (ρ : Ren) (w : World), Good P ρ H w → Fresh ρ H H' → ∀ (u : Value) (w' : World) (ρ' : Ren), True
theorem src_ok {s : Nat} {x : Value} {k : Nat → List Value → Ans} (h : srcA H s x k = .ok V HH) :
    ∃ n xs, k n xs = .ok V HH ∧ (∀ v ∈ xs, isOne v = true) ∧ xs.length = n * s ∧ ∀ (ρ : Ren) (w : World) (x' : Value) (tx : TypeId), Good P ρ H w → VRel ρ x x' → srcKind P tx = true → ∃ news, LRel ρ xs news ∧ Src P s tx x' n news w := by
  unfold srcA at h
  have kinds : ∀ tx, srcKind P tx = true → (∃ e', P.underlying tx = some (.slice e')) ∨ P.underlying tx = some .string := fun tx h => by
    unfold srcKind at h
    split at h
    · rename_i e hd; exact .inl ⟨e, hd⟩
    · rename_i hd; exact .inr hd
    · cases h
  split at h
  · rename_i b
    obtain ⟨hs, h1⟩ := brec_ok (c := 119) (x := s) h
    have hs := beq_eq' hs
    subst hs
    rw [strB_len, bytesV_eq] at h1
    refine ⟨_, _, h1, fun v hv => ?_, by rw [byteCells_length, Nat.mul_one], fun ρ w x' tx hg hx hk => ?_⟩
    · obtain ⟨_, _, rfl⟩ := List.mem_map.1 hv; rfl
    · rw [vstr hx]
      refine ⟨byteCells b, ⟨rfl, fun i v v' hv hv' => ?_⟩, ⟨kinds tx hk, fun _ => rfl, firstCells_string b w, firstCells_string b w.drew, by rw [byteCells_length, Nat.mul_one], fun u hu => by obtain ⟨_, _, rfl⟩ := List.mem_map.1 hu; rfl⟩⟩
      rw [hv] at hv'; cases hv'
      obtain ⟨_, _, rfl⟩ := List.mem_map.1 (List.mem_of_getElem? hv)
      exact .int _ _
  · rename_i n c
    refine ⟨0, [], h, fun v hv => by simp at hv, by simp, fun ρ w x' tx hg hx hk => ?_⟩
    rw [(vsnil hx).2.2]
    exact ⟨[], .nil, ⟨kinds tx hk, fun _ => rfl, run_firstCells_none w s 0 0 0, run_firstCells_none w.drew s 0 0 0, by simp, fun _ h => by cases h⟩⟩
  · rename_i b off n c
    obtain ⟨ob, hob, h1⟩ := orec_ok (c := 120) (x := b) h
    split at h1
    · rename_i cs m el opn
      obtain ⟨hle, h2⟩ := brec_ok (c := 121) (x := off) h1
      obtain ⟨l, l1, l2, h3⟩ := rdA_ok h2
      obtain ⟨hone, h4⟩ := brec_ok (c := 118) (x := off) h3
      have hone := allL_mem hone
      have hle : off + n * s ≤ m := ble_le hle
      have l1 : l.length = n * s := l1
      refine ⟨n, l, h4, hone, l1, fun ρ w x' tx hg hx hk => ?_⟩
      obtain ⟨e', o', c', q1, q2, q0, q3, q4, q5, q6⟩ := vslice hx
      obtain ⟨l', hl, hc⟩ := cells_read (hg.rel b _ e' hob q1) (by rw [l1]; exact hle) l2
      refine ⟨l', hl, ?_⟩
      have hcell : ∀ j u, l'[j]? = some u → w.cell? ((⟨e'.B, o', none⟩ : Addr).add j) = some u := fun j u hu => by
        rw [Addr.add_lit]
        rcases q5 with q5 | ⟨_, q7, _⟩
        · rw [q5]; exact hc j u hu
        · have : l'.length = 0 := by rw [← hl.1, l1, q7]; simp
          rw [List.getElem?_eq_none (by omega)] at hu; cases hu
      rw [q2]
      refine ⟨kinds tx hk, fun _ => rfl, run_firstCells_some w s n _ n c' l' (by rw [← hl.1, l1]) hcell, run_firstCells_some w.drew s n _ n c' l' (by rw [← hl.1, l1]) (by simpa using hcell), by rw [← hl.1, l1], fun u hu => ?_⟩
      obtain ⟨j, hj, rfl⟩ := List.mem_iff_getElem.1 hu
      have hj' : j < l.length := by rw [hl.1]; exact hj
      exact isOne_rel (hl.2 j l[j] l'[j] (by simp [hj']) (by simp [hj])) (hone _ (List.getElem_mem _))
    · cases h1
  · cases h
def AppOut (P : Program) (t tx ty : TypeId) (s : Value) (i : TypeInfo) (n : Nat) (xs : List Value) (H : Hp) (v : Value) (H' : Hp) : Prop :=
  ∀ (ρ : Ren) (w : World) (s' x' : Value) (news : List Value), Good P ρ H w → Fresh ρ H H' → VRel ρ s s' → LRel ρ xs news → Src P i.size tx x' n news w →
    ∃ ρ' w' u, (Builtin.append_ #[t, tx] ty #[s', x']).run P w = .ok u w' ∧ Stp P ρ H w ρ' H' w' ∧ VRel ρ' v u
theorem steal_stp {ρ : Ren} {w w' : World} (hg : Good P ρ H w) (hwf : H.WF) {b : Nat} {o₀ : AObj} (hb : H.t.get b = some o₀) (hd : o₀ ≠ .dead) {e : Ent} (hρ : ρ b = some e) (hfr : ρ H.n = none) (o₁ : AObj) (e₁ : Ent) (he : e₁.B = e.B)
    (hos : w'.os = w.os) (htape : w'.tape = w.tape) (hout : w'.output = w.output) (hsize : w'.heap.size = w.heap.size) (hold : ∀ k, k ≠ e.B → w'.heap[k]? = w.heap[k]?)
    (hobj : ObjRel P (upd ρ H.n e₁) o₁ e₁ w') : Stp P ρ H w (upd ρ H.n e₁) ⟨(H.t.set b .dead).ins H.n o₁, Nat.succ H.n, lowr H.lo b⟩ w' := by
  have hext := upd_ext (e := e₁) hfr
  have hbn := hwf b o₀ hb
  have hget : ∀ b' o', b' ≠ H.n → ((H.t.set b .dead).ins H.n o₁).get b' = some o' → o' ≠ .dead → b' ≠ b ∧ H.t.get b' = some o' := fun b' o' hn h hd' => by
    rw [Tr.ins_ne _ _ _ _ (fun x => hn x.symm)] at h
    by_cases hbb : b' = b
    · subst hbb; rw [Tr.set_eq, hb] at h; simp at h; exact absurd h.symm hd'
    · rw [Tr.set_ne _ _ _ _ (fun x => hbb x.symm)] at h; exact ⟨hbb, h⟩
  have hbound := hg.bnd b e o₀ hb hd hρ
  refine ⟨hext, fun b' x hb' => ?_, ⟨fun b' ob' x h hx => ?_, fun b₁ b₂ p₁ p₂ e₁' e₂' g1 d1 r1 g2 d2 r2 hB => ?_, fun b' x ob' hgb hdd hb' => ?_⟩, hos, htape, hout, by omega, fun B hB => ?_, fun b' x ob' hn hx _ _ => ?_⟩
  · unfold upd at hb'
    split at hb'
    · rename_i h; subst h; exact .inr ⟨hfr, Nat.le_refl _, Nat.lt_succ_self _⟩
    · exact .inl hb'
  · by_cases hn : b' = H.n
    · subst hn
      have := Tr.ins_eq _ _ _ _ h
      subst this
      rw [upd_same] at hx; cases hx
      exact hobj
    · by_cases hdd : ob' = .dead
      · subst hdd; trivial
      · obtain ⟨hbb, hgt⟩ := hget b' ob' hn h hdd
        unfold upd at hx
        rw [if_neg hn] at hx
        have hB : x.B ≠ e.B := fun hB => hbb (hg.inj b' b ob' o₀ x e hgt hdd hx hb hd hρ hB)
        exact (hg.rel b' ob' x hgt hx).mono hext (hold _ hB)
  · by_cases h1 : b₁ = H.n
    · by_cases h2 : b₂ = H.n
      · rw [h1, h2]
      · exfalso
        obtain ⟨hbb, hgt⟩ := hget b₂ p₂ h2 g2 d2
        rw [h1, upd_same] at r1; cases r1
        unfold upd at r2; rw [if_neg h2] at r2
        exact hbb (hg.inj b₂ b p₂ o₀ e₂' e hgt d2 r2 hb hd hρ (by omega))
    · obtain ⟨hbb, hgt⟩ := hget b₁ p₁ h1 g1 d1
      unfold upd at r1; rw [if_neg h1] at r1
      by_cases h2 : b₂ = H.n
      · exfalso
        rw [h2, upd_same] at r2; cases r2
        exact hbb (hg.inj b₁ b p₁ o₀ e₁' e hgt d1 r1 hb hd hρ (by omega))
      · obtain ⟨hbb2, hgt2⟩ := hget b₂ p₂ h2 g2 d2
        unfold upd at r2; rw [if_neg h2] at r2
        exact hg.inj b₁ b₂ p₁ p₂ e₁' e₂' hgt d1 r1 hgt2 d2 r2 hB
  · unfold upd at hb'
    split at hb'
    · cases hb'; omega
    · rename_i h
      obtain ⟨_, hgt⟩ := hget b' ob' h hgb hdd
      have := hg.bnd b' x ob' hgt hdd hb'; omega
  · by_cases h : B = e.B
    · exact .inr ⟨b, e, o₀, hρ, h.symm, lowr_right _ _, hbn, hb, hd⟩
    · exact .inl (hold B h)
  · unfold upd at hx
    split at hx
    · cases hx; exact .inr ⟨b, e, o₀, hρ, by omega, lowr_right _ _, hbn, hb, hd⟩
    · rw [hn] at hx; cases hx
theorem steal_hstep {b : Nat} {o₀ : AObj} (hwf : H.WF) (hb : H.t.get b = some o₀) (hd : o₀ ≠ .dead) (o₁ : AObj) : HStep H ⟨(H.t.set b .dead).ins H.n o₁, Nat.succ H.n, lowr H.lo b⟩ :=
  (hstep_mod hb hd .dead).trans (hstep_new ⟨H.t.set b .dead, H.n, lowr H.lo b⟩ o₁)
theorem steal_wf (hwf : H.WF) (b : Nat) (o₁ : AObj) : Hp.WF ⟨(H.t.set b .dead).ins H.n o₁, Nat.succ H.n, lowr H.lo b⟩ := wf_new (wf_mod hwf b .dead) o₁
theorem grown_run {t tx ty e : TypeId} {i : TypeInfo} {z : Value} (ht : P.underlying t = some (.slice e)) (hi : P.info? e = some i) (hz : i.zero = some z) (hzs : z.cells.size = i.size) {w : World} {base : Option Addr} {m c : Nat} {olds : List Value}
    (hold : (Builtin.firstCells i.size m (.slice base m c)).run P w.drew = .ok olds.toArray w.drew) (hol : olds.length = m * i.size) {x' : Value} {n : Nat} {news : List Value} (hs : Src P i.size tx x' n news w) (hg : c < m + n) (hbytes : (m + n) * i.bytes ≤ 1099511627776) (hb0 : 0 < i.bytes) :
    ∃ cap rest w', (Builtin.append_ #[t, tx] ty #[.slice base m c, x']).run P w = .ok (.slice (some ⟨w.heap.size, 0, none⟩) (m + n) cap) w' ∧ PushW w w' (.cells ((olds ++ news) ++ rest).toArray e (0, 0)) ∧ m + n ≤ cap ∧ cap * i.size ≤ ((olds ++ news) ++ rest).length := by
  have hmn : m + n ≤ 1099511627776 := by
    have : (m + n) * 1 ≤ (m + n) * i.bytes := Nat.mul_le_mul_left _ hb0
    omega
  have hr := run_append_grow_src (P := P) w t tx ty e i z ht hi hz base m c olds hold x' n news hs hg (by omega) (growslice_fits hg (by omega))
  have hcap := grownCap_ge w (m + n) c e
  refine ⟨_, (Builtin.zeroCells z.cells (grownCap w (m + n) c e - (m + n))).toList, _, hr, ?_, hcap, ?_⟩
  · have := PushW.drewAlloc w (.cells ((olds ++ news).toArray ++ Builtin.zeroCells z.cells (grownCap w (m + n) c e - (m + n))) e)
    have e1 : ((olds ++ news).toArray ++ Builtin.zeroCells z.cells (grownCap w (m + n) c e - (m + n))) = ((olds ++ news) ++ (Builtin.zeroCells z.cells (grownCap w (m + n) c e - (m + n))).toList).toArray := by
      apply Array.ext'; simp
    rw [e1] at this
    rwa [e1]
  · simp only [List.length_append, Array.length_toList, size_zeroCells, hzs, hol, hs.newsLen]
    rw [← Nat.add_mul, ← Nat.add_mul]
    exact Nat.mul_le_mul_right _ (by omega)
theorem growA_ok {e : TypeId} {n : Nat} {l : List Value} (hw : H.WF) {i : TypeInfo} (hi : P.info? e = some i) (h : growA H e n l r = .ok V HH) :
    ∃ v H', r v H' = .ok V HH ∧ HStep H H' ∧ H'.WF ∧ ∀ (ρ : Ren) (w w' : World) (l' rest : List Value) (cap : Nat), Good P ρ H w → Fresh ρ H H' → LRel ρ l l' → PushW w w' (.cells (l' ++ rest).toArray e (0, 0)) → n ≤ cap → cap * i.size ≤ (l' ++ rest).length →
      ∃ ρ', Stp P ρ H w ρ' H' w' ∧ VRel ρ' v (.slice (some ⟨w.heap.size, 0, none⟩) n cap) := by
  obtain ⟨hone, h1⟩ := rowA_ok h
  refine ⟨_, _, h1, hstep_new H _, wf_new hw _, fun ρ w w' l' rest cap hg hf hl hp hn hc => ?_⟩
  have hfr := fresh_new hf (Nat.lt_succ_self _)
  refine ⟨_, stp_push hg hfr _ ⟨w.heap.size, 0, (l' ++ rest).length, i.size, true⟩ rfl hp fun hB => row_rel (hl.mono (upd_ext hfr)) hi true rest hB, ?_⟩
  exact .slice H.n 0 n n ⟨w.heap.size, 0, _, _, _⟩ 0 cap (upd_same _ _ _) (Nat.le_refl _) hn (fun hx => by cases hx) (.inl rfl) (fun _ => by show 0 + cap * i.size ≤ (l' ++ rest).length; omega)
theorem appendTo_ok {t tx ty e : TypeId} {i : TypeInfo} {z : Value} (ht : P.underlying t = some (.slice e)) (hi : P.info? e = some i) (hz : i.zero = some z) (hzs : z.cells.size = i.size) (hpos : 0 < i.size) (hb0 : 0 < i.bytes) (hw : H.WF)
    {s : Value} {n : Nat} {xs : List Value} (hone : ∀ v ∈ xs, isOne v = true) (hxl : xs.length = n * i.size) (h : appendTo H e i s n xs r = .ok V HH) :
    ∃ v H', r v H' = .ok V HH ∧ HStep H H' ∧ H'.WF ∧ AppOut P t tx ty s i n xs H v H' := by
  unfold appendTo at h
  split at h
  · -- a nil slice
    cases n with
    | zero =>
      refine ⟨_, _, h, HStep.refl H, hw, fun ρ w s' x' news hg hf hs hx hsrc => ⟨ρ, w, .slice none 0 0, ?_, Stp.refl hg, .snil⟩⟩
      rw [(vsnil hs).2.2]
      rcases hsrc.kind with ⟨e', hk⟩ | hk <;> simp [Builtin.append_, run_underlying ht, run_underlying hk, sizeOf, typeInfo, hi, hsrc.len, hsrc.cells]
    | succ n =>
      obtain ⟨hb, h1⟩ := brec_ok (c := 127) (x := n + 1) h
      have hb : (n + 1) * i.bytes ≤ 1099511627776 := ble_le hb
      obtain ⟨v, H', h2, k1, k2, hs2⟩ := growA_ok hw hi h1
      refine ⟨v, H', h2, k1, k2, fun ρ w s' x' news hg hf hs hx hsrc => ?_⟩
      rw [(vsnil hs).2.2]
      obtain ⟨cap, rest, w', r1, r2, r3, r4⟩ := grown_run (ty := ty) ht hi hz hzs (m := 0) (c := 0) (base := none) (olds := []) (run_firstCells_none w.drew i.size 0 0 0) (by simp) hsrc (by omega) (by simpa using hb) hb0
      simp only [List.nil_append, Nat.zero_add] at r1 r2 r3 r4
      obtain ⟨ρ', p1, p2⟩ := hs2 ρ w w' news rest cap hg hf hx r2 r3 r4
      exact ⟨ρ', w', _, r1, p1, p2⟩
  · rename_i b off m c
    rw [ble_eq (Nat.add m n) c] at h
    by_cases hroom : Nat.add m n ≤ c
    · simp only [hroom, decide_true] at h
      have hroom : m + n ≤ c := hroom
      cases n with
      | zero =>
        refine ⟨_, _, h, HStep.refl H, hw, fun ρ w s' x' news hg hf hs hx hsrc => ⟨ρ, w, s', ?_, Stp.refl hg, hs⟩⟩
        obtain ⟨e', o', c', q1, q2, q0, q3, q4, q5, q6⟩ := vslice hs
        have hnews : news = [] := List.eq_nil_of_length_eq_zero (by rw [hsrc.newsLen]; simp)
        subst hnews
        rw [q2]
        have := run_append_room_src (P := P) w t tx ty e i ht hi e'.B o' m c' x' 0 [] hsrc (by omega) (by simp) (by simp)
        simpa [World.setCells] using this
      | succ n =>
        obtain ⟨H', h1, k1, k2, _, ⟨cs, cn, el, opn, hob, hle⟩, hsim⟩ := storeL_ok (P := P) hw h
        refine ⟨_, H', h1, k1, k2, fun ρ w s' x' news hg hf hs hx hsrc => ?_⟩
        obtain ⟨e', o', c', q1, q2, q0, q3, q4, q5, q6⟩ := vslice hs
        have ho' : o' = e'.base + off := by rcases q5 with q5 | q5 <;> omega
        obtain ⟨s1, s2, s3, s4⟩ := hsim ρ w e' news hg q1 hx
        have e1 : e'.base + (off + m * i.size) = o' + m * i.size := by omega
        have s1' : ∀ j, j < news.length → (w.cell? ⟨e'.B, o' + m * i.size + j, none⟩).isSome = true := fun j hj => by rw [← e1]; exact s1 j hj
        have s2' : ∀ j, j < news.length → w.frozen? ⟨e'.B, o' + m * i.size + j, none⟩ = false := fun j hj => by rw [← e1]; exact s2 j hj
        have hr := run_append_room_src (P := P) w t tx ty e i ht hi e'.B o' m c' x' (n + 1) news hsrc (by omega) s1' s2'
        have s4' : Stp P ρ H w ρ H' (w.setCells e'.B (o' + m * i.size) news) := by rw [← e1]; exact s4
        refine ⟨ρ, _, _, by rw [q2]; exact hr, s4', ?_⟩
        exact .slice b off _ c e' o' c' q1 hroom q3 q4 (.inl ho') q6
    · simp only [hroom, decide_false] at h
      have hroom : c < m + n := Nat.lt_of_not_le hroom
      obtain ⟨hby, h1⟩ := brec_ok (c := 128) (x := b) h
      have hby : (m + n) * i.bytes ≤ 1099511627776 := ble_le hby
      obtain ⟨ob, hob, h2⟩ := orec_ok (c := 129) (x := b) h1
      clear h h1
      split at h2
      · rename_i cs wn e' opn
        obtain ⟨hle, h3⟩ := brec_ok (c := 131) (x := off) h2
        clear h2
        have hle : off + m * i.size ≤ wn := ble_le hle
        -- what the old slice holds
        have olds : ∀ (ρ : Ren) (w : World) (en : Ent) (o' c' : Nat), Good P ρ H w → ρ b = some en → (o' = en.base + off ∨ (en.opn = true ∧ m = 0 ∧ c = 0)) →
            ∃ old' : List Value, old'.length = m * i.size ∧ (∀ (j : Nat) (v : Value), old'[j]? = some v → w.cell? ⟨en.B, o' + j, none⟩ = some v) ∧ (Builtin.firstCells i.size m (.slice (some ⟨en.B, o', none⟩) m c')).run P w.drew = .ok old'.toArray w.drew ∧
              ∀ (j : Nat) (v u : Value), cs.get (off + j) = some v → old'[j]? = some u → VRel ρ v u := by
          intro ρ w en o' c' hg hρ q5
          obtain ⟨_, _, hcz, C, tt, fr, hC, hCs, hCf, hCr⟩ := hg.rel b _ en hob hρ
          have hlen : ((List.range (m * i.size)).map fun j => C.getD (o' + j) undef).length = m * i.size := by simp
          have hget : ∀ (j : Nat) (v : Value), ((List.range (m * i.size)).map fun j => C.getD (o' + j) undef)[j]? = some v → j < m * i.size ∧ o' = en.base + off ∧ C[o' + j]? = some v := fun j v hv => by
            have hj : j < m * i.size := by
              rcases Nat.lt_or_ge j (m * i.size) with h | h
              · exact h
              · rw [List.getElem?_eq_none (by simpa using h)] at hv; cases hv
            have ho' : o' = en.base + off := by
              rcases q5 with q5 | ⟨_, q7, _⟩
              · exact q5
              · rw [q7] at hj; simp at hj
            refine ⟨hj, ho', ?_⟩
            have hlt : o' + j < C.size := by omega
            simp [hj, Array.getD_eq_getD_getElem?, Array.getElem?_eq_getElem hlt] at hv
            rw [Array.getElem?_eq_getElem hlt, hv]
          have hc' : ∀ (j : Nat) (v : Value), ((List.range (m * i.size)).map fun j => C.getD (o' + j) undef)[j]? = some v → w.cell? ⟨en.B, o' + j, none⟩ = some v := fun j v hv => by
            rw [cell_of hC]; exact (hget j v hv).2.2
          refine ⟨_, hlen, hc', run_firstCells_some w.drew i.size m _ m c' _ hlen (fun j v hv => by rw [Addr.add_lit]; simpa using hc' j v hv), fun j v u hv hu => ?_⟩
          obtain ⟨hj, ho', hCj⟩ := hget j u hu
          obtain ⟨v', b1, b2⟩ := hCr (off + j) v (by omega) hv
          rw [ho', Nat.add_assoc] at hCj
          rw [hCj] at b1; cases b1
          exact b2
        cases opn with
        | false =>
          obtain ⟨old, l1, l2, h4⟩ := rdA_ok h3
          obtain ⟨v, H', h5, k1, k2, hs2⟩ := growA_ok hw hi h4
          refine ⟨v, H', h5, k1, k2, fun ρ w s' x' news hg hf hs hx hsrc => ?_⟩
          obtain ⟨en, o', c', q1, q2, q0, q3, q4, q5, q6⟩ := vslice hs
          have hop := (hg.rel b _ en hob q1).1
          have hc' := q4 hop
          subst hc'
          obtain ⟨old', a1, a2, a3, a4⟩ := olds ρ w en o' c' hg q1 q5
          have hlr : LRel ρ old old' := ⟨by rw [a1]; exact l1, fun j v u hv hu => a4 j v u (l2 j v hv) hu⟩
          obtain ⟨cap, rest, w', r1, r2, r3, r4⟩ := grown_run (ty := ty) ht hi hz hzs a3 a1 hsrc hroom hby hb0
          obtain ⟨ρ', p1, p2⟩ := hs2 ρ w w' (old' ++ news) rest cap hg hf (by rw [appL_eq]; exact hlr.append hx) r2 r3 r4
          exact ⟨ρ', w', _, by rw [q2]; exact r1, p1, p2⟩
        | true =>
          obtain ⟨hee, h4⟩ := brec_ok (c := 132) (x := off) h3
          have hee := beq_eq' hee
          subst hee
          clear h3
          have hnd : AObj.cells cs wn e true ≠ .dead := by simp
          -- either way of stealing: the new object, told over the new list
          have steal : ∀ (o₁ : AObj),
              (∀ (ρ : Ren) (w' : World) (all : List Value) (B base csz : Nat) (C : Array Value) (tt : TypeId) (fr : Nat × Nat), all.length = m * i.size + xs.length → (∀ (j : Nat) (v u : Value), j < m * i.size → cs.get (off + j) = some v → all[j]? = some u → VRel ρ v u) →
                (∀ (j : Nat) (v u : Value), xs[j]? = some v → all[m * i.size + j]? = some u → VRel ρ v u) → w'.heap[B]? = some (.cells C tt fr) → C.size = csz → (∀ x, x < C.size → ¬ (fr.1 ≤ x ∧ x < fr.2)) → base + all.length ≤ csz → (∀ j, j < all.length → C[base + j]? = all[j]?) →
                ObjRel P ρ o₁ ⟨B, base, csz, i.size, true⟩ w') →
              r (.slice (some ⟨H.n, 0, none⟩) (m + n) (m + n)) ⟨(H.t.set b .dead).ins H.n o₁, Nat.succ H.n, lowr H.lo b⟩ = .ok V HH →
              ∃ v H', r v H' = .ok V HH ∧ HStep H H' ∧ H'.WF ∧ AppOut P t tx ty (.slice (some ⟨b, off, none⟩) m c) i n xs H v H' := by
            intro o₁ hobj h5
            refine ⟨_, _, h5, steal_hstep hw hob hnd o₁, steal_wf hw b o₁, fun ρ w s' x' news hg hf hs hx hsrc => ?_⟩
            obtain ⟨en, o', c', q1, q2, q0, q3, q4, q5, q6⟩ := vslice hs
            have hfr : ρ H.n = none := hf H.n (Nat.le_refl _) (Nat.lt_succ_self _)
            obtain ⟨hop, ⟨i', hi1, hi2⟩, hcz, C, tt, fr, hC, hCs, hCf, hCr⟩ := hg.rel b _ en hob q1
            rw [hi] at hi1; cases hi1
            obtain ⟨old', a1, a2, a3, a4⟩ := olds ρ w en o' c' hg q1 q5
            have hbd := q6 hop
            have hnl : news.length = n * i.size := hsrc.newsLen
            have hall : (old' ++ news).length = m * i.size + xs.length := by rw [List.length_append, a1, hx.1]
            have hrel1 : ∀ (ρ' : Ren), (∀ b e, ρ b = some e → ρ' b = some e) → ∀ (j : Nat) (v u : Value), j < m * i.size → cs.get (off + j) = some v → (old' ++ news)[j]? = some u → VRel ρ' v u := fun ρ' hρ' j v u hj hv hu => by
              rw [List.getElem?_append_left (by omega)] at hu
              exact (a4 j v u hv hu).mono hρ'
            have hrel2 : ∀ (ρ' : Ren), (∀ b e, ρ b = some e → ρ' b = some e) → ∀ (j : Nat) (v u : Value), xs[j]? = some v → (old' ++ news)[m * i.size + j]? = some u → VRel ρ' v u := fun ρ' hρ' j v u hv hu => by
              rw [List.getElem?_append_right (by omega), a1, Nat.add_sub_cancel_left] at hu
              exact (hx.2 j v u hv hu).mono hρ'
            by_cases hin : m + n ≤ c'
            · -- there was room
              have hmul : (m + n) * i.size ≤ c' * en.esz := by rw [← hi2]; exact Nat.mul_le_mul_right _ hin
              rw [Nat.add_mul] at hmul
              have s1 : ∀ j, j < news.length → (w.cell? ⟨en.B, o' + m * i.size + j, none⟩).isSome = true := fun j hj => by
                rw [cell_of hC, Array.getElem?_eq_getElem (by omega)]; rfl
              have s2 : ∀ j, j < news.length → w.frozen? ⟨en.B, o' + m * i.size + j, none⟩ = false := fun j hj => by
                have := hCf (o' + m * i.size + j) (by omega)
                simp only [World.frozen?, hC]
                simp
                omega
              have hr := run_append_room_src (P := P) w t tx ty e i ht hi en.B o' m c' x' n news hsrc hin s1 s2
              obtain ⟨t1, t2, t3, t4⟩ := setCells_same en.B news (o' + m * i.size) w
              obtain ⟨C', c1, c2, c3⟩ := setCells_heap en.B news (o' + m * i.size) w C tt fr hC
              refine ⟨upd ρ H.n ⟨en.B, o', en.csz, i.size, true⟩, _, _, by rw [q2]; exact hr, steal_stp hg hw hob hnd q1 hfr o₁ _ rfl t1 t2 t3 t4 (fun k hk => setCells_other _ _ _ _ _ hk) ?_, ?_⟩
              · refine hobj _ _ (old' ++ news) en.B o' en.csz C' tt fr hall (hrel1 _ (upd_ext hfr)) (hrel2 _ (upd_ext hfr)) c1 (c2.trans hCs) (fun x hx => hCf x (by omega)) (by rw [List.length_append]; omega) fun j hj => ?_
                rw [c3]
                rw [List.length_append] at hj
                by_cases hjo : j < old'.length
                · rw [if_neg (by omega), List.getElem?_append_left hjo, ← cell_of hC, a2 j old'[j] (by simp [hjo])]
                  simp [hjo]
                · rw [if_pos (by omega), List.getElem?_append_right (by omega)]
                  congr 1
                  omega
              · exact .slice H.n 0 _ _ ⟨en.B, o', _, _, _⟩ o' c' (upd_same _ _ _) (Nat.le_refl _) hin (fun hx => by cases hx) (.inl rfl) (fun _ => by show o' + c' * i.size ≤ en.csz; rw [hi2]; exact hbd)
            · -- there was none
              obtain ⟨cap, rest, w', r1, r2, r3, r4⟩ := grown_run (ty := ty) ht hi hz hzs a3 a1 hsrc (Nat.lt_of_not_le hin) hby hb0
              have st1 : Stp P ρ H w ρ ⟨H.t.set b .dead, H.n, lowr H.lo b⟩ w := stp_mod hg hw hob hnd q1 .dead rfl rfl rfl rfl (fun _ _ => rfl) trivial
              have hh1 := hstep_mod hob hnd .dead
              have hh2 := hstep_new ⟨H.t.set b .dead, H.n, lowr H.lo b⟩ o₁
              have st2 : Stp P ρ ⟨H.t.set b .dead, H.n, lowr H.lo b⟩ w (upd ρ H.n ⟨w.heap.size, 0, ((old' ++ news) ++ rest).length, i.size, true⟩) ⟨(H.t.set b .dead).ins H.n o₁, Nat.succ H.n, lowr H.lo b⟩ w' := by
                refine stp_push st1.good hfr o₁ ⟨w.heap.size, 0, ((old' ++ news) ++ rest).length, i.size, true⟩ rfl r2 fun hB => ?_
                refine hobj _ _ (old' ++ news) _ 0 _ _ _ _ hall (hrel1 _ (upd_ext hfr)) (hrel2 _ (upd_ext hfr)) hB (by simp) (fun x _ => by simp) (by simp) fun j hj => ?_
                rw [Nat.zero_add, List.getElem?_toArray, List.getElem?_append_left hj]
              refine ⟨_, w', _, by rw [q2]; exact r1, st1.trans st2 hh1 hh2 hf, ?_⟩
              exact .slice H.n 0 _ _ ⟨w.heap.size, 0, _, _, _⟩ 0 cap (upd_same _ _ _) (Nat.le_refl _) r3 (fun hx => by cases hx) (.inl rfl) (fun _ => by show 0 + cap * i.size ≤ ((old' ++ news) ++ rest).length; omega)
          have pick : ∀ (j : Nat) (all : List Value), j < all.length → ∃ u, all[j]? = some u := fun j all hj => ⟨all[j], by simp [hj]⟩
          have cases2 : ∀ (bb : Bool) (X Y : Ans), @Bool.rec (fun _ => Ans) X Y bb = .ok V HH → (bb = false ∧ X = .ok V HH) ∨ (bb = true ∧ Y = .ok V HH) := fun bb X Y h => by
            cases bb
            · exact .inl ⟨rfl, h⟩
            · exact .inr ⟨rfl, h⟩
          rcases cases2 _ _ _ h4 with ⟨_, h5⟩ | ⟨hbb, h5⟩
          · obtain ⟨old, l1, l2, h6⟩ := rdA_ok h5
            obtain ⟨_, h7⟩ := brec_ok (c := 133) (x := off) h6
            have l1 : old.length = m * i.size := l1
            refine steal _ (fun ρ w' all B base csz C tt fr g1 g2 g3 g4 g5 g6 g7 g8 => ?_) h7
            have hsz : base + (old.length + xs.length) ≤ csz := by omega
            refine ⟨rfl, ⟨i, hi, rfl⟩, by rw [len_eq, appL_eq, List.length_append]; exact hsz, C, tt, fr, g4, g5, g6, fun j v hj hv => ?_⟩
            rw [len_eq, appL_eq, List.length_append] at hj
            have hv := ofL_nil_get hv
            rw [appL_eq] at hv
            obtain ⟨u, hu⟩ := pick j all (by omega)
            refine ⟨u, by rw [g8 j (by omega), hu], ?_⟩
            by_cases hjo : j < old.length
            · rw [List.getElem?_append_left hjo] at hv
              exact g2 j v u (by omega) (l2 j v hv) hu
            · rw [List.getElem?_append_right (by omega)] at hv
              exact g3 (j - old.length) v u hv (by rw [← l1, show old.length + (j - old.length) = j by omega]; exact hu)
          · have hzero : off = 0 := by
              cases h0 : Nat.beq off 0 with
              | true => exact beq_eq' h0
              | false => rw [h0] at hbb; cases hbb
            refine steal _ (fun ρ w' all B base csz C tt fr g1 g2 g3 g4 g5 g6 g7 g8 => ?_) h5
            refine ⟨rfl, ⟨i, hi, rfl⟩, by rw [len_eq]; show base + (m * i.size + xs.length) ≤ csz; omega, C, tt, fr, g4, g5, g6, fun j v hj hv => ?_⟩
            rw [len_eq] at hj
            have hj : j < m * i.size + xs.length := hj
            obtain ⟨u, hu⟩ := pick j all (by omega)
            refine ⟨u, by rw [g8 j (by omega), hu], ?_⟩
            rcases ofL_get xs (m * i.size) cs j v hv with ⟨p1, p2⟩ | ⟨p1, p2⟩
            · exact g3 (j - m * i.size) v u p2 (by rw [show m * i.size + (j - m * i.size) = j by omega]; exact hu)
            · exact g2 j v u (by omega) (by rw [hzero, Nat.zero_add]; exact p2) hu
      · cases h2
  · cases h
end
end Go.Abs
set_option linter.unusedVariables false
set_option linter.unusedSimpArgs false
namespace Go.Abs
open Go.RowKit
variable [TokEnv]
def ERel (ρ : Ren) (es ES : List MapEntry) : Prop := es.length = ES.length ∧ ∀ (i : Nat) (x x' : MapEntry), es[i]? = some x → ES[i]? = some x' → VRel ρ x.key x'.key ∧ VRel ρ x.val x'.val ∧ x.born = x'.born
theorem keyDesc_eq {P : Program} {t : TypeId} {d : TypeDesc} (h : keyDesc P t = some d) : P.underlying t = some d := by
  unfold keyDesc at h
  split at h
  · rename_i hd; rw [hd, ← h]
  · rename_i hd; rw [hd, ← h]
  · rename_i hd; rw [hd, ← h]
  · cases h
theorem keyOk_isKey {ρ : Ren} {d : TypeDesc} {k k' : Value} (h : keyOk d k = true) (hr : VRel ρ k k') : MapKept.IsKey d k' := by
  unfold keyOk at h
  split at h
  · rw [vint hr]; exact kindEq_eq h
  · rw [vstr hr]; trivial
  · rw [vbool hr]; trivial
  · cases h
theorem zeroA_run {P : Program} {t : TypeId} {z : Value} (h : zeroA P t = some z) (w : World) : (zeroValue t).run P w = .ok z w := by
  unfold zeroA at h
  cases hi : P.info? t with
  | none => rw [hi] at h; cases h
  | some i =>
    rw [hi] at h
    have hz : i.zero = some z := h
    simp [zeroValue, typeInfo, hi, hz]
theorem bytes_list (x y : ByteArray) : bytesEq (strB x) (strB y) = (x == y) := by
  rw [bytesEq_eq]
  obtain ⟨⟨x⟩⟩ := x
  obtain ⟨⟨y⟩⟩ := y
  by_cases h : x = y
  · subst h
    have h1 : (strB ⟨⟨x⟩⟩ == strB ⟨⟨x⟩⟩) = true := by simp
    rw [h1]
    exact ((MapKept.bytes_beq _ _).2 rfl).symm
  · have h1 : (strB ⟨⟨x⟩⟩ == strB ⟨⟨y⟩⟩) = false := by simpa [strB] using h
    rw [h1]
    cases h2 : ((⟨⟨x⟩⟩ : ByteArray) == ⟨⟨y⟩⟩) with
    | false => rfl
    | true =>
      have := (MapKept.bytes_beq _ _).1 h2
      injection this with this
      injection this with this
      exact absurd this h
theorem keySame_ok {ρ : Ren} {d : TypeDesc} {k kr e er : Value} {b : Bool} (hk : VRel ρ k kr) (he : VRel ρ e er) (hok : keyOk d k = true) (h : keySame k e = some b) : Instr.sameNow d kr er = some b ∧ (b = true → er = kr) := by
  unfold keySame at h
  split at h
  · rename_i j x j' y
    rw [vint hk, vint he]
    cases hkk : kindEq j j' with
    | false => rw [hkk] at h; cases h
    | true =>
      rw [hkk] at h
      have hb : ieq x y = b := Option.some.inj h
      have e := kindEq_eq hkk
      subst e
      subst hb
      cases d with
      | int q =>
        refine ⟨?_, fun hx => ?_⟩
        · rw [ieq_eq]
          by_cases hxy : x = y <;> simp [Instr.sameNow, hxy]
        · rw [ieq_eq] at hx
          rw [of_decide_eq_true hx]
      | _ => cases hok
  · rename_i x y
    rw [vstr hk, vstr he]
    have hb := Option.some.inj h
    subst hb
    rw [bytes_list]
    cases d with
    | string => exact ⟨rfl, fun hx => by rw [(MapKept.bytes_beq _ _).1 hx]⟩
    | _ => cases hok
  · rename_i x y
    rw [vbool hk, vbool he]
    have hb := Option.some.inj h
    subst hb
    rw [boolEq_eq]
    cases d with
    | bool => exact ⟨rfl, fun hx => by rw [eq_of_beq hx]⟩
    | _ => cases hok
  · cases h
def FRel (ρ : Ren) (d : TypeDesc) (kr : Value) (es ES : List MapEntry) (i : Nat) : Option (Nat × Value) → Prop
  | none => Instr.findNow d kr ES i = some none
  | some p => ∃ v' E, Instr.findNow d kr ES i = some (some (p.1, v')) ∧ VRel ρ p.2 v' ∧ i ≤ p.1 ∧ ES[p.1 - i]? = some E ∧ E.key = kr
theorem findA_ok {k : Value} {V : Value} {HH : Hp} : ∀ {es : List MapEntry} {i : Nat} {q : Option (Nat × Value) → Ans}, findA k es i q = .ok V HH →
    ∃ R, q R = .ok V HH ∧ ∀ (ρ : Ren) (d : TypeDesc) (kr : Value) (ES : List MapEntry), keyOk d k = true → VRel ρ k kr → ERel ρ es ES → FRel ρ d kr es ES i R := by
  intro es
  induction es with
  | nil =>
    intro i q h
    refine ⟨none, h, fun ρ d kr ES _ _ hE => ?_⟩
    have : ES = [] := List.eq_nil_of_length_eq_zero (by rw [← hE.1]; rfl)
    subst this
    rfl
  | cons e es ih =>
    intro i q h
    obtain ⟨b, hb, h⟩ := orec_ok (c := 240) (x := i) h
    cases b with
    | true =>
      refine ⟨some (i, e.val), h, fun ρ d kr ES hko hk hE => ?_⟩
      rcases ES with _ | ⟨E, ES⟩
      · have := hE.1; simp at this
      obtain ⟨h1, h2, h3⟩ := hE.2 0 e E rfl rfl
      obtain ⟨h4, h5⟩ := keySame_ok hk h1 hko hb
      exact ⟨E.val, E, by simp [Instr.findNow, h4], h2, Nat.le_refl _, by simp, h5 rfl⟩
    | false =>
      have h' : findA k es (i + 1) q = .ok V HH := h
      obtain ⟨R, h1, h2⟩ := ih h'
      refine ⟨R, h1, fun ρ d kr ES hko hk hE => ?_⟩
      rcases ES with _ | ⟨E, ES⟩
      · have := hE.1; simp at this
      obtain ⟨k1, k2, k3⟩ := hE.2 0 e E rfl rfl
      obtain ⟨h4, h5⟩ := keySame_ok hk k1 hko hb
      have hE' : ERel ρ es ES := ⟨by have := hE.1; simpa using this, fun j x x' a b => hE.2 (j + 1) x x' (by simpa using a) (by simpa using b)⟩
      have h6 := h2 ρ d kr ES hko hk hE'
      cases R with
      | none =>
        have h6' : Instr.findNow d kr ES (i + 1) = some none := h6
        show Instr.findNow d kr (E :: ES) i = some none
        simp [Instr.findNow, h4, h6']
      | some p =>
        obtain ⟨v', F, a1, a2, a3, a4, a5⟩ := h6
        refine ⟨v', F, by simp [Instr.findNow, h4, a1], a2, by omega, ?_, a5⟩
        rw [show p.1 - i = (p.1 - (i + 1)) + 1 by omega]
        simpa using a4
theorem lkV_rel {ρ : Ren} {ok : Bool} {v u : Value} (b : Bool) (h : VRel ρ v u) : VRel ρ (lkV ok v b) (lkV ok u b) := by
  cases ok
  · exact h
  · exact (LRel.cons h (.cons (.bool b) .nil)).tuple
section
variable {P : Program} {o : Oper} {T : Tr Value} {H : Hp} {r : Value → Hp → Ans} {V : Value} {HH : Hp}
theorem vmap {ρ : Ren} {b : Nat} {u : Value} (h : VRel ρ (.map (some b)) u) : ∃ e, ρ b = some e ∧ u = .map (some e.B) := by
  cases h with
  | map _ e h => exact ⟨e, h, rfl⟩
theorem map_obj {ρ : Ren} {es : List MapEntry} {clock : Nat} {e : Ent} {w : World} (h : ObjRel P ρ (.map es clock) e w) : ∃ ES, w.heap[e.B]? = some (.map ES clock) ∧ ERel ρ es ES.toList := by
  obtain ⟨ES, h1, h2, h3⟩ := h
  exact ⟨ES, h1, by simpa using h2, fun i x x' a b => h3 i x x' a (by simpa using b)⟩
theorem out_makeMap {t : TypeId} (ho : o.op = .makeMap t none) (hw : H.WF) (h : (newA H (.map [] 0) fun b H => r (.map (some b)) H) = .ok V HH) : OpOut P o T H r V HH := by
  refine ⟨.map (some H.n), _, hstep_new H _, wf_new hw _, sim_value fun ρ a w hx hg hf => ?_, h⟩
  have hfr := fresh_new hf (Nat.lt_succ_self _)
  refine ⟨_, w.alloc (.map #[] 0), .map (some w.heap.size), by simp [execOp, ho, run_makeMap], stp_push hg hfr _ ⟨w.heap.size, 0, 0, 0, false⟩ rfl (PushW.alloc w _) fun hB => ?_, .map H.n ⟨w.heap.size, 0, 0, 0, false⟩ (upd_same _ _ _)⟩
  exact ⟨#[], hB, rfl, fun i x x' hx _ => by simp at hx⟩
theorem out_lookup {t : TypeId} {m k : Operand} {ok : Bool} (ho : o.op = .lookup t m k ok) (hw : H.WF)
    (h : (evalA T m fun m => evalA T k fun k => lookupA P H t m k ok fun v => r v H) = .ok V HH) : OpOut P o T H r V HH := by
  obtain ⟨mv, hm, h1⟩ := evalA_ok h
  clear h
  obtain ⟨kv, hk, h⟩ := evalA_ok h1
  clear h1
  unfold lookupA at h
  split at h
  · rename_i kt et ht
    split at h
    · rename_i d hd
      have hd' := keyDesc_eq hd
      split at h
      · rename_i z hz
        have hc := (brec_ok (c := 241) (x := t) h).1
        replace h := (brec_ok (c := 241) (x := t) h).2
        have hko := (brec_ok (c := 242) (x := t) h).1
        replace h := (brec_ok (c := 242) (x := t) h).2
        split at h
        · refine .pure hw h fun ρ a w hx hg => ?_
          have h1 := vmnil (hx m (by simp [ho, Op.operands]) _ hm)
          have h2 := keyOk_isKey hko (hx k (by simp [ho, Op.operands]) _ hk)
          have h3 : Instr.findNow d (a.eval k) [] 0 = some none := rfl
          refine ⟨lkV ok z false, ?_, lkV_rel false (constOk_rel hc)⟩
          cases ok <;> simp [execOp, ho, h1, Instr.lookup, run_underlying ht, MapKept.run_checkKey hd' h2, MapKept.run_findKey hd' h3, zeroA_run hz, Result.andThen, lkV]
        · rename_i b
          obtain ⟨ob, hob, h⟩ := orec_ok (c := 243) (x := b) h
          split at h
          · rename_i es clock
            obtain ⟨R, h, hR⟩ := findA_ok h
            cases R with
            | none =>
              refine .pure hw h fun ρ a w hx hg => ?_
              obtain ⟨e, he, h1⟩ := vmap (hx m (by simp [ho, Op.operands]) _ hm)
              have hkr := hx k (by simp [ho, Op.operands]) _ hk
              have h2 := keyOk_isKey hko hkr
              obtain ⟨ES, hb, hE⟩ := map_obj (hg.rel b _ e hob he)
              have h3 : Instr.findNow d (a.eval k) ES.toList 0 = some none := hR ρ d _ _ hko hkr hE
              refine ⟨lkV ok z false, ?_, lkV_rel false (constOk_rel hc)⟩
              cases ok <;> simp [execOp, ho, h1, Instr.lookup, run_underlying ht, MapKept.run_getObj_map hb, MapKept.run_checkKey hd' h2, MapKept.run_findKey hd' h3, zeroA_run hz, Result.andThen, lkV]
            | some p =>
              refine ⟨lkV ok p.2 true, H, HStep.refl H, hw, sim_pure fun ρ a w hx hg => ?_, h⟩
              obtain ⟨e, he, h1⟩ := vmap (hx m (by simp [ho, Op.operands]) _ hm)
              have hkr := hx k (by simp [ho, Op.operands]) _ hk
              have h2 := keyOk_isKey hko hkr
              obtain ⟨ES, hb, hE⟩ := map_obj (hg.rel b _ e hob he)
              obtain ⟨v', F, h3, h4, _, _, _⟩ := hR ρ d _ _ hko hkr hE
              refine ⟨lkV ok v' true, ?_, lkV_rel true h4⟩
              cases ok <;> simp [execOp, ho, h1, Instr.lookup, run_underlying ht, MapKept.run_getObj_map hb, MapKept.run_checkKey hd' h2, MapKept.run_findKey hd' h3, Result.andThen, lkV]
          · cases h
        · cases h
      · cases h
    · cases h
  · cases h
theorem ERel.push {ρ : Ren} {es ES : List MapEntry} (h : ERel ρ es ES) {k k' v v' : Value} (hk : VRel ρ k k') (hv : VRel ρ v v') (c : Nat) : ERel ρ (es ++ [⟨k, v, c⟩]) (ES ++ [⟨k', v', c⟩]) := by
  refine ⟨by simp [h.1], fun i x x' hx hx' => ?_⟩
  by_cases hi : i < es.length
  · rw [List.getElem?_append_left hi] at hx
    rw [List.getElem?_append_left (by have := h.1; omega)] at hx'
    exact h.2 i x x' hx hx'
  · rw [List.getElem?_append_right (by omega)] at hx
    rw [List.getElem?_append_right (by have := h.1; omega)] at hx'
    rw [← h.1] at hx'
    cases hj : i - es.length with
    | zero => rw [hj] at hx hx'; simp at hx hx'; subst hx; subst hx'; exact ⟨hk, hv, rfl⟩
    | succ j => rw [hj] at hx; simp at hx
theorem ERel.modify {ρ : Ren} {es ES : List MapEntry} (h : ERel ρ es ES) {k k' v v' : Value} (hk : VRel ρ k k') (hv : VRel ρ v v') (p : Nat) :
    ERel ρ (es.modify p fun e => ⟨k, v, e.born⟩) (ES.modify p fun e => ⟨k', v', e.born⟩) := by
  refine ⟨by simp [h.1], fun i x x' hx hx' => ?_⟩
  rw [List.getElem?_modify] at hx hx'
  cases hy : es[i]? with
  | none => rw [hy] at hx; cases hx
  | some y =>
    cases hy' : ES[i]? with
    | none => rw [hy'] at hx'; cases hx'
    | some y' =>
      rw [hy] at hx; rw [hy'] at hx'
      obtain ⟨a1, a2, a3⟩ := h.2 i y y' hy hy'
      by_cases hp : p = i
      · simp [hp] at hx hx'
        subst hx; subst hx'
        exact ⟨hk, hv, a3⟩
      · simp [hp] at hx hx'
        subst hx; subst hx'
        exact ⟨a1, a2, a3⟩
theorem upd_stp {ρ : Ren} {w : World} (hg : Good P ρ H w) (hwf : H.WF) {b : Nat} {o₀ : AObj} (hb : H.t.get b = some o₀) (hd : o₀ ≠ .dead) {e : Ent} (hρ : ρ b = some e) {es : List MapEntry} {c : Nat} {O : Obj} (hO : w.heap[e.B]? = some O)
    {ES : List MapEntry} (hE : ERel ρ es ES) : Stp P ρ H w ρ ⟨H.t.set b (.map es c), H.n, lowr H.lo b⟩ { w with heap := w.heap.setIfInBounds e.B (.map ES.toArray c) } := by
  obtain ⟨h1, h2⟩ := MapKept.heap_set (o' := .map ES.toArray c) hO
  refine stp_mod hg hwf hb hd hρ (.map es c) rfl rfl rfl (by simp) (fun k hk => h2 k hk) ?_
  exact ⟨ES.toArray, h1, by simpa using hE.1, fun i x x' a b => hE.2 i x x' a (by simpa using b)⟩
theorem out_update {t : TypeId} {m k x : Operand} (ho : o.op = .mapUpdate t m k x ∨ o.op = .insert t m k x) (hw : H.WF)
    (h : (evalA T m fun m => evalA T k fun k => evalA T x fun x => updateA P H t m k x fun H => r undef H) = .ok V HH) : OpOut P o T H r V HH := by
  obtain ⟨mv, hm, h1⟩ := evalA_ok h
  clear h
  obtain ⟨kv, hk, h2⟩ := evalA_ok h1
  clear h1
  obtain ⟨xv, hxv, h⟩ := evalA_ok h2
  clear h2
  have hops : m ∈ o.op.operands ∧ k ∈ o.op.operands ∧ x ∈ o.op.operands := by rcases ho with ho | ho <;> simp [ho, Op.operands]
  unfold updateA at h
  split at h
  · rename_i kt et ht
    split at h
    · rename_i d hd
      have hd' := keyDesc_eq hd
      have hko := (brec_ok (c := 249) (x := t) h).1
      replace h := (brec_ok (c := 249) (x := t) h).2
      split at h
      · rename_i b
        obtain ⟨ob, hob, h⟩ := orec_ok (c := 250) (x := b) h
        split at h
        · rename_i es clock
          obtain ⟨R, h, hR⟩ := findA_ok h
          cases R with
          | none =>
            refine ⟨undef, _, hstep_mod hob (by simp) _, wf_mod hw _ _, sim_skip fun ρ a w hx hg hf => ?_, h⟩
            obtain ⟨e, he, h1⟩ := vmap (hx m hops.1 _ hm)
            have hkr := hx k hops.2.1 _ hk
            have hxr := hx x hops.2.2 _ hxv
            have h2 := keyOk_isKey hko hkr
            obtain ⟨ES, hb, hE⟩ := map_obj (hg.rel b _ e hob he)
            have h3 : Instr.findNow d (a.eval k) ES.toList 0 = some none := hR ρ d _ _ hko hkr hE
            refine ⟨ρ, _, ?_, upd_stp hg hw hob (by simp) he hb (hE.push hkr hxr clock)⟩
            have hpush : (ES.toList ++ [(⟨a.eval k, a.eval x, clock⟩ : MapEntry)]).toArray = ES.push { key := a.eval k, val := a.eval x, born := clock } := by
              apply Array.ext'
              simp
            rw [hpush]
            rcases ho with ho | ho <;> simp [execOp, ho, h1, Instr.mapUpdate, run_underlying ht, MapKept.run_getObj_map hb, MapKept.run_checkKey hd' h2, MapKept.run_findKey hd' h3, MapKept.run_setObj_map _ hb, Result.andThen]
          | some p =>
            refine ⟨undef, _, hstep_mod hob (by simp) _, wf_mod hw _ _, sim_skip fun ρ a w hx hg hf => ?_, h⟩
            obtain ⟨e, he, h1⟩ := vmap (hx m hops.1 _ hm)
            have hkr := hx k hops.2.1 _ hk
            have hxr := hx x hops.2.2 _ hxv
            have h2 := keyOk_isKey hko hkr
            obtain ⟨ES, hb, hE⟩ := map_obj (hg.rel b _ e hob he)
            obtain ⟨v', F, h3, h4, _, h5, h6⟩ := hR ρ d _ _ hko hkr hE
            have h5' : ES[p.1]? = some F := by simpa using h5
            refine ⟨ρ, _, ?_, upd_stp hg hw hob (by simp) he hb (hE.modify hkr hxr p.1)⟩
            have hmod : (ES.toList.modify p.1 fun e => (⟨a.eval k, a.eval x, e.born⟩ : MapEntry)).toArray = ES.modify p.1 fun e => { e with key := a.eval k, val := a.eval x } := by
              apply Array.ext'
              simp
            rw [hmod]
            rcases ho with ho | ho <;> simp [execOp, ho, h1, Instr.mapUpdate, run_underlying ht, MapKept.run_getObj_map hb, MapKept.run_checkKey hd' h2, MapKept.run_findKey hd' h3, h5', h6, MapKept.run_keyThatStays h2, MapKept.run_setObj_map _ hb, Result.andThen]
        · cases h
      · cases h
    · cases h
  · cases h
end
end Go.Abs
set_option linter.unusedVariables false
set_option linter.unusedSimpArgs false
namespace Go.Abs
open Go.RowKit
variable [TokEnv]
def CallSim (P : Program) (f : FuncId) (args : List Value) (H : Hp) (v : Value) (H' : Hp) : Prop :=
  ∀ (ρ : Ren) (w : World) (vs : Array Value), LRel ρ args vs.toList → Good P ρ H w → Fresh ρ H H' →
    Calls P f vs w fun e w' => ∃ u ρ', e = .returned u ∧ VRel ρ' v u ∧ Stp P ρ H w ρ' H' w'
def ExtSim (P : Program) (f : FuncId) (args : List Value) (v : Value) : Prop :=
  ∀ (ρ : Ren) (w : World) (vs : Array Value), LRel ρ args vs.toList → ∃ u, (callFunc f vs).run P w = .ok (.value u) w ∧ VRel ρ v u
def HasBody (P : Program) (f : FuncId) : Prop := ∃ fn, P.funcs[f]? = some fn ∧ (fn.name == "runtime.NumGoroutine") = false ∧ fn.body.isSome = true
def Answered (P : Program) (f : FuncId) (args : List Value) (H : Hp) (v : Value) (H' : Hp) : Prop := (CallSim P f args H v H' ∧ HasBody P f) ∨ (H' = H ∧ ExtSim P f args v)
def CallOkS (P : Program) (callA : FuncId → List Value → Hp → (Value → Hp → Ans) → Ans) : Prop :=
  ∀ (f : FuncId) (args : List Value) (H : Hp) (r : Value → Hp → Ans) (V : Value) (HH : Hp), H.WF → callA f args H r = .ok V HH →
    ∃ v H', HStep H H' ∧ H'.WF ∧ CallSim P f args H v H' ∧ HasBody P f ∧ r v H' = .ok V HH
def CallOk (P : Program) (callA : FuncId → List Value → Hp → (Value → Hp → Ans) → Ans) : Prop :=
  ∀ (f : FuncId) (args : List Value) (H : Hp) (r : Value → Hp → Ans) (V : Value) (HH : Hp), H.WF → callA f args H r = .ok V HH →
    ∃ v H', HStep H H' ∧ H'.WF ∧ Answered P f args H v H' ∧ r v H' = .ok V HH
theorem CallOkS.weak {P : Program} {callA : FuncId → List Value → Hp → (Value → Hp → Ans) → Ans} (h : CallOkS P callA) : CallOk P callA := fun f args H r V HH hw h1 =>
  let ⟨v, H', k1, k2, k3, k4, k5⟩ := h f args H r V HH hw h1
  ⟨v, H', k1, k2, .inl ⟨k3, k4⟩, k5⟩
section
variable {P : Program} {o : Oper} {T : Tr Value} {H : Hp} {r : Value → Hp → Ans} {V : Value} {HH : Hp}
theorem run_builtin {c : Call} {b : Builtin} (ho : o.op = .call c) (hc : c.callee = .builtin b) (a : Act) : ∃ consts, execOp a.eval o = builtin b c.argTypes o.type consts (c.args.map a.eval) :=
  ⟨_, by simp [execOp, ho, resolve, hc, invoke]; rfl⟩
def mm2 (isMax : Bool) (a b : Value) : Sem Value := match isMax with
  | true => Builtin.max2 a b
  | false => Builtin.min2 a b
theorem args_rel {ρ : Ren} {a : Act} {c : Call} {l : List Value} (ho : o.op = .call c) (hl : evalsV T c.args.toList l) (hx : ∀ x ∈ o.op.operands, ORel ρ T a x) : LRel ρ l (c.args.map a.eval).toList := by
  rw [Array.toList_map]
  refine evalsV_rel hl fun y hy => hx y ?_
  simp only [ho, Op.operands, Call.operands]
  exact Array.mem_append.2 (.inr (by simpa using hy))
theorem list_one {ρ : Ren} {x : Value} {l' : List Value} (h : LRel ρ [x] l') : ∃ u, l' = [u] ∧ VRel ρ x u := by
  rcases l' with _ | ⟨u, _ | ⟨u', l'⟩⟩
  · have := h.1; simp at this
  · exact ⟨u, rfl, h.2 0 x u rfl rfl⟩
  · have := h.1; simp at this
theorem list_cons {ρ : Ren} {x : Value} {l l' : List Value} (h : LRel ρ (x :: l) l') : ∃ u r, l' = u :: r ∧ VRel ρ x u ∧ LRel ρ l r := by
  rcases l' with _ | ⟨u, l'⟩
  · have := h.1; simp at this
  · exact ⟨u, l', rfl, h.2 0 x u rfl rfl, ⟨by have := h.1; simpa using this, fun i v v' a b => h.2 (i + 1) v v' (by simpa using a) (by simpa using b)⟩⟩
theorem lenA_ok {t : TypeId} {x : Value} {k : Value → Ans} (h : lenA P t x H k = .ok V HH) :
    ∃ v, k v = .ok V HH ∧ ∀ (ρ : Ren) (w : World) (u : Value) (ts : Array TypeId) (ty : TypeId), Good P ρ H w → VRel ρ x u → ts[0]? = some t → (Builtin.len_ ts ty #[u]).run P w = .ok v w ∧ VRel ρ v v := by
  unfold lenA at h
  split at h
  · rename_i hd
    split at h
    · rename_i s
      refine ⟨_, h, fun ρ w u ts ty hg hu ht => ⟨?_, .int _ _⟩⟩
      rw [vstr hu, strB_len]
      simp [Builtin.len_, ht, run_underlying hd]
      rfl
    · cases h
  · rename_i e hd
    split at h
    · rename_i n c
      refine ⟨_, h, fun ρ w u ts ty hg hu ht => ⟨?_, .int _ _⟩⟩
      cases hu <;> (simp [Builtin.len_, ht, run_underlying hd] <;> rfl)
    · cases h
  · rename_i n e hd
    refine ⟨_, h, fun ρ w u ts ty hg hu ht => ⟨?_, .int _ _⟩⟩
    simp [Builtin.len_, ht, run_underlying hd]
    rfl
  · rename_i kt et hd
    split at h
    · refine ⟨_, h, fun ρ w u ts ty hg hu ht => ⟨?_, .int _ _⟩⟩
      rw [vmnil hu]
      simp [Builtin.len_, ht, run_underlying hd]
      rfl
    · rename_i b
      obtain ⟨ob, hob, h1⟩ := orec_ok (c := 112) (x := b) h
      split at h1
      · rename_i es clock
        refine ⟨_, h1, fun ρ w u ts ty hg hu ht => ⟨?_, .int _ _⟩⟩
        cases hu with
        | map _ e he =>
          obtain ⟨ES, m1, m2, m3⟩ := hg.rel b _ e hob he
          have hobj : (getObj e.B).run P w = .ok (.map ES clock) w := by simp [getObj, Sem.run, m1]
          simp [Builtin.len_, ht, run_underlying hd, hobj, m2]
          rfl
      · cases h1
    · cases h
  · cases h
theorem minMaxA_ok {isMax : Bool} {x y : Value} {k : Value → Ans} (h : minMaxA isMax x y k = .ok V HH) :
    ∃ v, k v = .ok V HH ∧ ∀ (ρ : Ren) (w : World) (X Y : Value), VRel ρ x X → VRel ρ y Y → (mm2 isMax X Y).run P w = .ok v w ∧ VRel ρ v v := by
  unfold minMaxA at h
  split at h
  · rename_i kk a k' b
    refine ⟨_, h, fun ρ w X Y hX hY => ⟨?_, .int _ _⟩⟩
    rw [vint hX, vint hY]
    cases isMax
    · simp only [ilt_eq]
      by_cases hx : b < a <;> simp [mm2, Builtin.min2, hx]
    · simp only [ilt_eq]
      by_cases hx : a < b <;> simp [mm2, Builtin.max2, hx]
  · cases h
theorem foldMM_ok {isMax : Bool} : ∀ {l : List Value} {x : Value} {k : Value → Ans}, foldMM isMax l x k = .ok V HH →
    ∃ v, k v = .ok V HH ∧ ∀ (ρ : Ren) (w : World) (X : Value) (L : List Value), VRel ρ x X → LRel ρ l L → ∃ u, (L.foldlM (mm2 isMax) X).run P w = .ok u w ∧ VRel ρ v u := by
  intro l
  induction l with
  | nil =>
    intro x k h
    refine ⟨x, h, fun ρ w X L hX hL => ?_⟩
    have : L = [] := List.eq_nil_of_length_eq_zero (by rw [← hL.1]; rfl)
    subst this
    exact ⟨X, by simp, hX⟩
  | cons y l ih =>
    intro x k h
    have h' : (minMaxA isMax x y fun z => foldMM isMax l z k) = .ok V HH := h
    obtain ⟨z, h1, hs⟩ := minMaxA_ok (P := P) h'
    obtain ⟨v, h2, hs2⟩ := ih h1
    refine ⟨v, h2, fun ρ w X L hX hL => ?_⟩
    obtain ⟨Y, L', rfl, hY, hL'⟩ := list_cons hL
    obtain ⟨e1, e2⟩ := hs ρ w X Y hX hY
    obtain ⟨u, e3, e4⟩ := hs2 ρ w z L' e2 hL'
    exact ⟨u, by rw [List.foldlM_cons, Sem.run_bind, e1]; exact e3, e4⟩
theorem srcA_sel {s : Nat} {x : Value} {k : Nat → List Value → Ans} (h : srcA H s x k = .ok V HH) (hns : ∀ b, x ≠ .string b) :
    ∃ n xs, k n xs = .ok V HH ∧ (∀ v ∈ xs, isOne v = true) ∧ xs.length = n * s ∧ ∀ (ρ : Ren) (w : World) (x' : Value), Good P ρ H w → VRel ρ x x' → ∃ news a c, x' = .slice a n c ∧ LRel ρ xs news ∧ (n ≠ 0 → ∃ ad, a = some ad ∧ ∀ j u, news[j]? = some u → w.cell? (ad.add j) = some u) := by
  unfold srcA at h
  split at h
  · rename_i b; exact absurd rfl (hns b)
  · rename_i n c
    refine ⟨0, [], h, fun v hv => by simp at hv, by simp, fun ρ w x' hg hx => ?_⟩
    obtain ⟨h1, h2, h3⟩ := vsnil hx
    exact ⟨[], none, 0, by rw [h3], .nil, fun h => absurd rfl h⟩
  · rename_i b off n c
    obtain ⟨ob, hob, h1⟩ := orec_ok (c := 120) (x := b) h
    split at h1
    · rename_i cs m el opn
      obtain ⟨hle, h2⟩ := brec_ok (c := 121) (x := off) h1
      obtain ⟨l, l1, l2, h3⟩ := rdA_ok h2
      obtain ⟨hone, h4⟩ := brec_ok (c := 118) (x := off) h3
      have hone := allL_mem hone
      have hle : off + n * s ≤ m := ble_le hle
      have l1 : l.length = n * s := l1
      refine ⟨n, l, h4, hone, l1, fun ρ w x' hg hx => ?_⟩
      obtain ⟨e', o', c', q1, q2, q0, q3, q4, q5, q6⟩ := vslice hx
      obtain ⟨l', hl, hc⟩ := cells_read (hg.rel b _ e' hob q1) (by rw [l1]; exact hle) l2
      refine ⟨l', _, c', q2, hl, fun hn => ⟨_, rfl, fun j u hu => ?_⟩⟩
      rw [Addr.add_lit]
      rcases q5 with q5 | ⟨_, q7, _⟩
      · rw [q5]; exact hc j u hu
      · exact absurd q7 hn
    · cases h1
  · cases h
theorem firstCells_sel {s n n' c : Nat} {a : Option Addr} {news : List Value} {w : World} (hl : news.length = n * s) (hn : n' ≤ n) (hc : n ≠ 0 → ∃ ad, a = some ad ∧ ∀ j u, news[j]? = some u → w.cell? (ad.add j) = some u) :
    (Builtin.firstCells s n' (.slice a n c)).run P w = .ok (news.take (n' * s)).toArray w := by
  have hle : n' * s ≤ n * s := Nat.mul_le_mul_right _ hn
  by_cases h0 : n = 0
  · have : n' = 0 := by omega
    subst this
    cases a with
    | none => simp [Builtin.firstCells]
    | some ad => simpa using run_firstCells_some (P := P) w s 0 ad n c [] (by simp) (by simp)
  · obtain ⟨ad, rfl, hcell⟩ := hc h0
    refine run_firstCells_some w s n' ad n c _ (by simp; omega) fun j v hv => ?_
    have hj : j < n' * s := by
      rcases Nat.lt_or_ge j (n' * s) with h | h
      · exact h
      · rw [List.getElem?_eq_none (by simp; omega)] at hv; cases hv
    rw [List.getElem?_take_of_lt hj] at hv
    exact hcell j v hv
theorem copyA_ok {ts : Array TypeId} {d x : Value} (hw : H.WF) (h : copyA P H ts d x r = .ok V HH) :
    ∃ v H', r v H' = .ok V HH ∧ HStep H H' ∧ H'.WF ∧ ∀ (ρ : Ren) (w : World) (d' x' : Value) (ty : TypeId), Good P ρ H w → VRel ρ d d' → VRel ρ x x' → ∃ w', (Builtin.copy_ ts ty #[d', x']).run P w = .ok v w' ∧ Stp P ρ H w ρ H' w' ∧ VRel ρ v v := by
  unfold copyA at h
  split at h
  · rename_i t ht
    split at h
    · rename_i e hd
      split at h
      · rename_i s hs
        split at h
        · cases h
        · rename_i hns
          obtain ⟨n, xs, h1, hone, hxl, hsim⟩ := srcA_sel (P := P) h (fun b hb => hns b hb)
          clear h
          split at h1
          · refine ⟨_, _, h1, HStep.refl H, hw, fun ρ w d' x' ty hg hd' hx => ?_⟩
            obtain ⟨news, a, c, rfl, hr, hc⟩ := hsim ρ w x' hg hx
            have hf := firstCells_sel (P := P) (s := s) (n := n) (n' := 0) (c := c) (by rw [← hr.1]; exact hxl) (Nat.zero_le _) hc
            rw [(vsnil hd').2.2]
            refine ⟨w, ?_, Stp.refl hg, .int _ _⟩
            simp [Builtin.copy_, ht, run_underlying hd, Builtin.lenOf, sizeA_run hs, hf, goInt]
          · rename_i b off m c0
            have hmin : lowr n m = min n m := lowr_eq n m
            cases hq : lowr n m with
            | zero =>
              rw [hq] at h1
              refine ⟨_, _, h1, HStep.refl H, hw, fun ρ w d' x' ty hg hd' hx => ?_⟩
              obtain ⟨news, a, c, rfl, hr, hc⟩ := hsim ρ w x' hg hx
              obtain ⟨e', o', c', q1, q2, q0, q3, q4, q5, q6⟩ := vslice hd'
              have hf := firstCells_sel (P := P) (s := s) (n := n) (n' := 0) (c := c) (by rw [← hr.1]; exact hxl) (Nat.zero_le _) hc
              have hmn : Nat.min n m = 0 := by show min n m = 0; omega
              refine ⟨w, ?_, Stp.refl hg, .int _ _⟩
              rw [q2]
              simp [Builtin.copy_, ht, run_underlying hd, Builtin.lenOf, sizeA_run hs, hmn, hf, goInt, storeCells]
            | succ q =>
              rw [hq] at h1
              have h1' : storeL H b off (takeL (Nat.mul (q + 1) s) xs) (fun H => r (.int .i64 (.ofNat (q + 1))) H) = .ok V HH := h1
              obtain ⟨H', h2, k1, k2, _, ⟨cs, cn, el, opn, hob, hle⟩, hst⟩ := storeL_ok (P := P) hw h1'
              refine ⟨_, H', h2, k1, k2, fun ρ w d' x' ty hg hd' hx => ?_⟩
              obtain ⟨news, a, c, rfl, hr, hc⟩ := hsim ρ w x' hg hx
              obtain ⟨e', o', c', q1, q2, q0, q3, q4, q5, q6⟩ := vslice hd'
              have ho' : o' = e'.base + off := by rcases q5 with q5 | q5 <;> omega
              have hf := firstCells_sel (P := P) (s := s) (n := n) (n' := q + 1) (c := c) (by rw [← hr.1]; exact hxl) (by omega) hc
              have hmn : Nat.min n m = q + 1 := by show min n m = q + 1; omega
              have hrel : LRel ρ (takeL (Nat.mul (q + 1) s) xs) (news.take ((q + 1) * s)) := by rw [takeL_eq]; exact hr.take _
              obtain ⟨s1, s2, s3, s4⟩ := hst ρ w e' _ hg q1 hrel
              have hr2 := run_storeCells_cells (P := P) e'.B (e'.base + off) (news.take ((q + 1) * s)) 0 w (by simpa using s1) (by simpa using s2) s3
              simp only [Nat.add_zero] at hr2
              refine ⟨_, ?_, s4, .int _ _⟩
              rw [q2, ho']
              simp only [Builtin.copy_, ht, List.getElem?_toArray, List.getElem?_cons_zero, List.getElem?_cons_succ, Sem.run_bind, run_underlying hd, Result.andThen_ok, Builtin.lenOf, Sem.run_pure, sizeA_run hs, hmn, hf, hr2, goInt]
              rfl
          · cases h1
      · cases h
    · cases h
  · cases h
theorem out_call {callA : FuncId → List Value → Hp → (Value → Hp → Ans) → Ans} (hcall : CallOk P callA) {c : Call} {fo : Operand} (ho : o.op = .call c) (hc : c.callee = .value fo) (hw : H.WF) (h : (evalA T fo fun f => match f with
      | .func (.func f) first captured => evalsA T c.args.toList fun l => callA f (appL first.toList (appL l captured.toList)) H r
      | _ => .err 231 0) = .ok V HH) : OpOut P o T H r V HH := by
  obtain ⟨fv, hf, h1⟩ := evalA_ok h
  clear h
  split at h1
  · rename_i f first captured
    obtain ⟨l, hl, h2⟩ := evalsA_ok h1
    obtain ⟨v, H', k1, k2, hans, h3⟩ := hcall _ _ _ _ _ _ hw h2
    refine ⟨v, H', k1, k2, fun ρ a w K Q hx hg hfr hk => ?_, h3⟩
    obtain ⟨fi', ca', q1, q2, q3⟩ := vfunc (hx fo (by simp [ho, Op.operands, Call.operands, hc]) _ hf)
    have hargs := args_rel ho hl hx
    have hall : LRel ρ (appL first.toList (appL l captured.toList)) (fi' ++ c.args.map a.eval ++ ca').toList := by
      rw [appL_eq, appL_eq]
      simp only [Array.toList_append, List.append_assoc]
      exact q2.append (hargs.append q3)
    rcases hans with ⟨hsim, fn, f1, f2, f3⟩ | ⟨rfl, hext⟩
    rotate_left
    · obtain ⟨u, hu, hv⟩ := hext ρ w _ hall
      have hrun : (execOp a.eval o).run P w = .ok (.value u) w := by
        simp [execOp, ho, resolve, hc, q1, Deferred.ofValue, invoke]
        simpa using hu
      unfold Oper.wp
      rw [hrun]
      exact hk ρ w u (Stp.refl hg) hv
    have hrun : (execOp a.eval o).run P w = .ok (.enter f (fi' ++ c.args.map a.eval ++ ca')) w := by
      have hb : ¬ fn.body = none := fun hb => by rw [hb] at f3; cases f3
      have f2' : ¬ fn.name = "runtime.NumGoroutine" := by simpa using f2
      simp [execOp, ho, resolve, hc, q1, Deferred.ofValue, invoke, callFunc, f1, f2', hb]
    unfold Oper.wp
    rw [hrun]
    refine (hsim ρ w _ hall hg hfr).mono ?_
    rintro e w' ⟨u, ρ', rfl, hv, hs⟩
    exact hk ρ' w' u hs hv
  · cases h1
theorem out_builtin {c : Call} {b : Builtin} (ho : o.op = .call c) (hc : c.callee = .builtin b) (hw : H.WF) (h : (evalsA T c.args.toList fun l => bltA P b c.argTypes l H r) = .ok V HH) : OpOut P o T H r V HH := by
  obtain ⟨l, hl, h1⟩ := evalsA_ok h
  clear h
  unfold bltA at h1
  split at h1
  · rename_i x hc
    split at h1
    · rename_i t ht
      obtain ⟨v, h2, hs⟩ := lenA_ok h1
      refine .pure hw h2 fun ρ a w hxx hg => ?_
      obtain ⟨u, e1, e2⟩ := list_one (args_rel ho hl hxx)
      obtain ⟨consts, hrun⟩ := run_builtin ho hc a
      obtain ⟨k1, k2⟩ := hs ρ w u c.argTypes o.type hg e2 ht
      have harr : c.args.map a.eval = #[u] := by apply Array.ext'; rw [e1]
      exact ⟨v, by rw [hrun, harr]; simp [builtin, k1], k2⟩
    · cases h1
  · rename_i s x hc
    unfold appendA at h1
    split at h1
    · rename_i t tx hts
      have hts' : c.argTypes = #[t, tx] := by apply Array.ext'; rw [hts]
      split at h1
      · rename_i e hd
        split at h1
        · rename_i i hi
          split at h1
          · cases h1
          · rename_i z hz
            obtain ⟨c1, h2⟩ := brec_ok (c := 126) (x := t) h1
            obtain ⟨c2, h3⟩ := brec_ok (c := 139) (x := t) h2
            obtain ⟨c3, h4⟩ := brec_ok (c := 124) (x := t) h3
            obtain ⟨c4, h5⟩ := brec_ok (c := 117) (x := t) h4
            obtain ⟨n, xs, h6, hone, hxl, hsrc⟩ := src_ok (P := P) h5
            clear h1 h2 h3 h4 h5
            have c2 := beq_eq' c2
            have hzs : z.cells.size = i.size := by
              rw [len_eq] at c2
              rw [← c2]
              cases z <;> simp [cellsL, Value.cells]
            obtain ⟨v, H', h7, k1, k2, hap⟩ := appendTo_ok (t := t) (tx := tx) (ty := o.type) hd hi hz hzs (blt_lt c1) (blt_lt c4) hw hone hxl h6
            refine ⟨v, H', k1, k2, sim_value fun ρ a w hxx hg hf => ?_, h7⟩
            obtain ⟨s', r1, e1, e2, e3⟩ := list_cons (args_rel ho hl hxx)
            obtain ⟨x', e4, e5⟩ := list_one e3
            subst e4
            obtain ⟨news, n1, n2⟩ := hsrc ρ w x' tx hg e5 c3
            obtain ⟨ρ', w', u, q1, q2, q3⟩ := hap ρ w s' x' news hg hf e2 n1 n2
            obtain ⟨consts, hrun⟩ := run_builtin ho hc a
            have harr : c.args.map a.eval = #[s', x'] := by apply Array.ext'; rw [e1]
            exact ⟨ρ', w', u, by rw [hrun, harr, hts']; simp [builtin, q1], q2, q3⟩
        · cases h1
      · cases h1
    · cases h1
  · rename_i d x hc
    obtain ⟨v, H', h2, k1, k2, hs⟩ := copyA_ok hw h1
    refine ⟨v, H', k1, k2, sim_value fun ρ a w hxx hg hf => ?_, h2⟩
    obtain ⟨d', r1, e1, e2, e3⟩ := list_cons (args_rel ho hl hxx)
    obtain ⟨x', e4, e5⟩ := list_one e3
    subst e4
    obtain ⟨w', q1, q2, q3⟩ := hs ρ w d' x' o.type hg e2 e5
    obtain ⟨consts, hrun⟩ := run_builtin ho hc a
    have harr : c.args.map a.eval = #[d', x'] := by apply Array.ext'; rw [e1]
    exact ⟨ρ, w', v, by rw [hrun, harr]; simp [builtin, q1], q2, q3⟩
  · rename_i x l hc
    obtain ⟨v, h2, hs⟩ := foldMM_ok (P := P) h1
    refine .pure hw h2 fun ρ a w hxx hg => ?_
    obtain ⟨X, L, e1, e2, e3⟩ := list_cons (args_rel ho hl hxx)
    obtain ⟨u, k1, k2⟩ := hs ρ w X L e2 e3
    obtain ⟨consts, hrun⟩ := run_builtin ho hc a
    have k1' : (L.foldlM Builtin.max2 X).run P w = .ok u w := k1
    refine ⟨u, ?_, k2⟩
    have harr : c.args.map a.eval = (X :: L).toArray := by apply Array.ext'; rw [e1]
    rw [hrun, harr]
    simp [builtin, Builtin.max_, k1']
  · rename_i x l hc
    obtain ⟨v, h2, hs⟩ := foldMM_ok (P := P) h1
    refine .pure hw h2 fun ρ a w hxx hg => ?_
    obtain ⟨X, L, e1, e2, e3⟩ := list_cons (args_rel ho hl hxx)
    obtain ⟨u, k1, k2⟩ := hs ρ w X L e2 e3
    obtain ⟨consts, hrun⟩ := run_builtin ho hc a
    have k1' : (L.foldlM Builtin.min2 X).run P w = .ok u w := k1
    refine ⟨u, ?_, k2⟩
    have harr : c.args.map a.eval = (X :: L).toArray := by apply Array.ext'; rw [e1]
    rw [hrun, harr]
    simp [builtin, Builtin.min_, k1']
  · cases h1
theorem opA_ok {callA : FuncId → List Value → Hp → (Value → Hp → Ans) → Ans} (hcall : CallOk P callA) (hw : H.WF) (h : opA P callA o T H r = .ok V HH) : OpOut P o T H r V HH := by
  unfold opA at h
  split at h
  · rename_i x ho; exact out_move ho hw h
  · rename_i x ho; exact out_assign ho hw h
  · rename_i c x y ho; exact out_pick ho hw h
  · rename_i e ho; exact out_alloc ho hw h
  · rename_i e x ho; exact out_box ho hw h
  · rename_i t parts ho; exact out_build ho hw h
  · rename_i t n parts ho; exact out_buildSlice ho hw h
  · rename_i t x ho; exact out_load ho hw h
  · rename_i t p x ho; exact out_store ho hw h
  · rename_i x ho; exact out_nilCheck ho hw h
  · rename_i op t x y ty ho; exact out_binOp ho hw h
  · rename_i op t x ho; exact out_unOp ho hw h
  · rename_i src dst x ho; exact out_convert ho hw h
  · rename_i t x ho; exact out_makeInterface ho hw h
  · rename_i fn first captured ho; exact out_makeFunc ho hw h
  · rename_i t n c ho; exact out_makeSlice ho hw h
  · rename_i t x lo hi mx ho; exact out_slice ho hw h
  · rename_i s x f ho; exact out_fieldAddr ho hw h
  · rename_i t x f ho; exact out_field ho hw h
  · rename_i t x i ho; exact out_indexAddr ho hw h
  · rename_i t x i ho; exact out_index ho hw h
  · rename_i x t u ok ho; exact out_typeAssert ho hw h
  · rename_i x i ho; exact out_extract ho hw h
  · rename_i c ho
    split at h
    · rename_i b hc; exact out_builtin ho hc hw h
    · rename_i f hc; exact out_call hcall ho hc hw h
    · cases h
  · rename_i t rs ho
    split at h
    · exact out_makeMap ho hw h
    · cases h
  · rename_i t m k ok ho; exact out_lookup ho hw h
  · rename_i t m k x ho; exact out_update (.inl ho) hw h
  · rename_i t m k x ho; exact out_update (.inr ho) hw h
  · cases h
end
end Go.Abs
set_option linter.unusedVariables false
set_option linter.unusedSimpArgs false
namespace Go.Abs
open Go.RowKit
variable [TokEnv]
section
variable {P : Program} {T : Tr Value} {H : Hp} {V : Value} {HH : Hp}
def SRel (ρ : Ren) (T : Tr Value) (tmps : Array Value) (t : Tmp) : Prop := ∀ v, T.get t = some v → ∃ u, tmps[t]? = some u ∧ VRel ρ v u
theorem trel_iff {ρ : Ren} {tmps : Array Value} : TRel ρ T tmps ↔ ∀ t, SRel ρ T tmps t := ⟨fun h t v hv => h t v hv, fun h t v hv => h t v hv⟩
theorem orel_of {ρ : Ren} {a : Act} {x : Operand} (h : ∀ t, x = .tmp t → SRel ρ T a.tmps t) : ORel ρ T a x := fun v hv => by
  cases x with
  | tmp t =>
    obtain ⟨u, h1, h2⟩ := h t rfl v hv
    have : a.eval (.tmp t) = u := by simp [Act.eval, Array.getD_eq_getD_getElem?, h1]
    rw [this]; exact h2
  | const c =>
    simp only [evalV] at hv
    split at hv
    · rename_i hc; cases hv; exact constOk_rel hc
    · cases hv
  | global g => cases hv
  | func f => cases hv; exact .func _ _ _ _ _ rfl rfl (fun i v v' h => by simp at h) (fun i v v' h => by simp at h)
theorem trel_orel {ρ : Ren} {a : Act} (h : TRel ρ T a.tmps) (x : Operand) : ORel ρ T a x := orel_of fun t _ => trel_iff.1 h t
theorem putA_get {d : Option Tmp} {v : Value} {t : Tmp} {v' : Value} (h : (putA T d v).get t = some v') : (d = some t ∧ v' = v ∧ (T.get t).isSome) ∨ (d ≠ some t ∧ T.get t = some v') := by
  cases d with
  | none => exact .inr ⟨by simp, h⟩
  | some d =>
    have h' : (T.set d v).get t = some v' := h
    by_cases hd : d = t
    · subst hd
      rw [Tr.set_eq] at h'
      cases hx : T.get d with
      | none => rw [hx] at h'; cases h'
      | some x => rw [hx] at h'; simp at h'; exact .inl ⟨rfl, h'.symm, rfl⟩
    · rw [Tr.set_ne _ _ _ _ hd] at h'
      exact .inr ⟨by simpa using hd, h'⟩
theorem put_tmps (a : Act) (d : Option Tmp) (u : Value) (t : Tmp) : (a.put d u).tmps[t]? = if d = some t ∧ t < a.tmps.size then some u else a.tmps[t]? := by
  cases d with
  | none => simp [Act.put]
  | some d =>
    simp only [Act.put]
    by_cases h : d = t
    · subst h
      by_cases hs : d < a.tmps.size
      · simp [hs]
      · simp [hs]
    · rw [Array.getElem?_setIfInBounds_ne h, if_neg (by simp [h])]
theorem put_defers (a : Act) (d : Option Tmp) (u : Value) : (a.put d u).defers = a.defers := by cases d <;> rfl
theorem srel_put {ρ : Ren} {a : Act} {d : Option Tmp} {v u : Value} {t : Tmp} (h : SRel ρ T a.tmps t) (hv : VRel ρ v u) : SRel ρ (putA T d v) (a.put d u).tmps t := fun v' hv' => by
  rw [put_tmps]
  rcases putA_get hv' with ⟨hd, rfl, hs⟩ | ⟨hd, hg⟩
  · obtain ⟨x, hx⟩ := Option.isSome_iff_exists.1 hs
    obtain ⟨y, hy, _⟩ := h x hx
    have hlt : t < a.tmps.size := by
      rcases Nat.lt_or_ge t a.tmps.size with h | h
      · exact h
      · rw [Array.getElem?_eq_none h] at hy; cases hy
    rw [if_pos ⟨hd, hlt⟩]
    exact ⟨u, rfl, hv⟩
  · rw [if_neg (fun h => hd h.1)]
    exact h v' hg
theorem SRel.mono {ρ ρ' : Ren} (hρ : ∀ b e, ρ b = some e → ρ' b = some e) {tmps : Array Value} {t : Tmp} (h : SRel ρ T tmps t) : SRel ρ' T tmps t := fun v hv =>
  let ⟨u, a, b⟩ := h v hv; ⟨u, a, b.mono hρ⟩
def GuardTells (ops : Array Oper) (o : Oper) (T : Tr Value) (b : Bool) : Prop :=
  ∀ (ρ : Ren) (a : Act), (∀ g w d, o.guard = some (g, w) → (ops[g]?).bind (·.dst) = some d → SRel ρ T a.tmps d) → Region.wanted o (yielded ops a.tmps) = b
theorem guardA_ok {ops : Array Oper} {o : Oper} {k : Bool → Ans} (h : guardA (gslot ops o) T k = .ok V HH) : ∃ b, GuardTells ops o T b ∧ k b = .ok V HH := by
  cases hg : o.guard with
  | none =>
    have e : gslot ops o = none := by simp [gslot, hg]
    rw [e] at h
    exact ⟨true, fun ρ a _ => by simp [Region.wanted, hg], h⟩
  | some gw =>
    obtain ⟨g, want⟩ := gw
    cases hd : (ops[g]?).bind (·.dst) with
    | none =>
      have e : gslot ops o = some (none, want) := by simp [gslot, hg, hd]
      rw [e] at h
      exact ⟨false, fun ρ a _ => by simp [Region.wanted, hg, yielded, hd], h⟩
    | some d =>
      have e : gslot ops o = some (some d, want) := by simp [gslot, hg, hd]
      rw [e] at h
      obtain ⟨v, hv, h1⟩ := orec_ok (c := 300) (x := d) h
      have key : ∀ (ρ : Ren) (a : Act), (∀ g w d, o.guard = some (g, w) → (ops[g]?).bind (·.dst) = some d → SRel ρ T a.tmps d) → ∃ u, a.tmps[d]? = some u ∧ VRel ρ v u := fun ρ a hs => hs g want d hg hd v hv
      cases v with
      | bool b =>
        refine ⟨boolEq b want, fun ρ a hs => ?_, h1⟩
        obtain ⟨u, h2, h3⟩ := key ρ a hs
        rw [vbool h3] at h2
        simp [Region.wanted, hg, yielded, hd, h2, boolEq_eq]
      | _ =>
        refine ⟨false, fun ρ a hs => ?_, h1⟩
        obtain ⟨u, h2, h3⟩ := key ρ a hs
        cases h3 <;> simp [Region.wanted, hg, yielded, hd, h2]
theorem opsA_ok {callA : FuncId → List Value → Hp → (Value → Hp → Ans) → Ans} (hcall : CallOk P callA) {ops : Array Oper} : ∀ {l : List Oper} {T : Tr Value} {H : Hp} {k : Tr Value → Hp → Ans}, H.WF → opsA P callA ops l T H k = .ok V HH →
    ∃ T' H', HStep H H' ∧ H'.WF ∧ k T' H' = .ok V HH ∧ ∀ (ρ : Ren) (a : Act) (w : World) (Q : Exit → Act → World → Prop), TRel ρ T a.tmps → Good P ρ H w → Fresh ρ H H' →
      (∀ ρ' a' w', Stp P ρ H w ρ' H' w' → TRel ρ' T' a'.tmps → a'.defers = a.defers → Q .normal a' w') → wpList P ops Q l a w := by
  intro l
  induction l with
  | nil => intro T H k hw h; exact ⟨T, H, HStep.refl H, hw, h, fun ρ a w Q ht hg _ hq => hq ρ a w (Stp.refl hg) ht rfl⟩
  | cons o l ih =>
    intro T H k hw h
    have h' : (guardA (gslot ops o) T fun b => @Bool.rec (fun _ => Ans) (opsA P callA ops l (putA T o.dst undef) H k) (opA P callA o T H fun v H => opsA P callA ops l (putA T o.dst v) H k) b) = .ok V HH := h
    obtain ⟨b, hgd, h1⟩ := guardA_ok h'
    cases b with
    | false =>
      obtain ⟨T', H', k1, k2, h2, hs⟩ := ih hw h1
      refine ⟨T', H', k1, k2, h2, fun ρ a w Q ht hg hf hq => ?_⟩
      have hwt := hgd ρ a fun g w d _ _ => trel_iff.1 ht d
      simp only [wpList, hwt]
      refine hs ρ _ w Q ?_ hg hf fun ρ' a' w' s t d => hq ρ' a' w' s t (by rw [d, put_defers])
      exact trel_iff.2 fun t => srel_put (trel_iff.1 ht t) .undef
    | true =>
      obtain ⟨v, H₁, k1, k2, hsim, h2⟩ := opA_ok hcall hw h1
      obtain ⟨T', H', k3, k4, h3, hs⟩ := ih k2 h2
      refine ⟨T', H', k1.trans k3, k4, h3, fun ρ a w Q ht hg hf hq => ?_⟩
      have hwt := hgd ρ a fun g w d _ _ => trel_iff.1 ht d
      simp only [wpList, hwt, if_true]
      refine .inl (hsim ρ a w _ Q (fun x _ => trel_orel ht x) hg (hf.left k3) fun ρ₁ w₁ u s₁ hv => ?_)
      refine hs ρ₁ _ w₁ Q (trel_iff.2 fun t => srel_put ((trel_iff.1 ht t).mono s₁.ext) hv) s₁.good (hf.right s₁ k1) fun ρ' a' w' s t d => ?_
      exact hq ρ' a' w' (s₁.trans s k1 k3 hf) t (by rw [d, put_defers])
end
end Go.Abs
set_option linter.unusedVariables false
set_option linter.unusedSimpArgs false
set_option linter.unusedSectionVars false
namespace Go.Abs
open Go.RowKit
variable [TokEnv]
section
variable {P : Program}
def DStep (P : Program) (ops : Array Oper) (p : Nat) (o : Oper) (S S' : Tr Value × Hp) : Prop :=
  (GuardTells ops o S.1 false ∧ S'.1 = putA S.1 o.dst undef ∧ S'.2 = S.2) ∨
  (GuardTells ops o S.1 true ∧ ∃ v H', HStep ⟨S.2.t, S.2.n, S.2.n⟩ H' ∧ H'.WF ∧ OpSim P o S.1 ⟨S.2.t, S.2.n, S.2.n⟩ v H' ∧ S'.1 = putA S.1 o.dst v ∧ S'.2.t = H'.t ∧ S'.2.n = H'.n ∧
    ((S.2.n ≤ H'.lo ∧ S'.2.lo = S.2.lo) ∨ (pivot ops p = true ∧ S'.2.lo = lowr S.2.lo H'.lo)))
def E0 : Hp := ⟨.nil, 0, 0⟩
theorem e0_wf : E0.WF := fun b o h => by cases h
structure Part (G H : Hp) (K : Nat → Prop) : Prop where
  lo : G.lo = G.n
  wf : G.WF
  sub : ∀ b o, G.t.get b = some o → o ≠ .dead → K b ∧ H.t.get b = some o
theorem part_e0 (H : Hp) (K : Nat → Prop) : Part E0 H K := ⟨rfl, e0_wf, fun b o h _ => by cases h⟩
theorem part_good {ρ : Ren} {G H : Hp} {K : Nat → Prop} {w : World} (hp : Part G H K) (hg : Good P ρ H w) : Good P ρ G w := by
  refine ⟨fun b o e h he => ?_, fun b₁ b₂ o₁ o₂ e₁ e₂ g1 d1 r1 g2 d2 r2 hB => hg.inj b₁ b₂ o₁ o₂ e₁ e₂ (hp.sub _ _ g1 d1).2 d1 r1 (hp.sub _ _ g2 d2).2 d2 r2 hB, fun b e o h hd he => hg.bnd b e o (hp.sub b o h hd).2 hd he⟩
  by_cases hd : o = .dead
  · subst hd; trivial
  · exact hg.rel b o e (hp.sub b o h hd).2 he
theorem stp_part {ρ ρ' : Ren} {G H : Hp} {w w' : World} (hlo : G.lo = G.n) (s : Stp P ρ G w ρ' G w') (hg : Good P ρ H w) : (∀ B, B < w.heap.size → w'.heap[B]? = w.heap[B]?) ∧ (∀ b e, ρ' b = some e → ρ b = some e) ∧ Stp P ρ H w ρ' H w' := by
  have hfr : ∀ B, B < w.heap.size → w'.heap[B]? = w.heap[B]? := fun B hB => by
    rcases s.frame B hB with h | ⟨b, e, o, _, _, h1, h2, _, _⟩
    · exact h
    · omega
  have hback : ∀ b e, ρ' b = some e → ρ b = some e := fun b e h => by
    rcases s.dom b e h with h | ⟨_, h1, h2⟩
    · exact h
    · omega
  refine ⟨hfr, hback, s.ext, fun b e h => .inl (hback b e h), ⟨fun b o e hb he => ?_, fun b₁ b₂ o₁ o₂ e₁ e₂ g1 d1 r1 g2 d2 r2 hB => hg.inj b₁ b₂ o₁ o₂ e₁ e₂ g1 d1 (hback _ _ r1) g2 d2 (hback _ _ r2) hB, fun b e o hb hd he => Nat.lt_of_lt_of_le (hg.bnd b e o hb hd (hback _ _ he)) s.size⟩, s.os, s.tape, s.output, s.size, fun B hB => .inl (hfr B hB), fun b e o h h' => by rw [hback b e h'] at h; cases h⟩
  by_cases hd : o = .dead
  · subst hd; trivial
  · exact (hg.rel b o e hb (hback _ _ he)).mono s.ext (hfr _ (hg.bnd b e o hb hd (hback _ _ he)))
theorem opsim_part {o : Oper} {T : Tr Value} {v : Value} {G H : Hp} {K : Nat → Prop} (hp : Part G H K) (h : OpSim P o T G v G) : OpSim P o T H v H := fun ρ a w Q1 Q hx hg _ hk =>
  h ρ a w Q1 Q hx (part_good hp hg) (fun b h1 h2 => absurd h2 (Nat.not_lt.2 h1)) fun ρ' w' u s hv => hk ρ' w' u (stp_part hp.lo s hg).2.2 hv
theorem ins_full {α : Type} (t : Tr α) : ∀ (n : Nat) (x : α), (∀ m, m < n → (t.get m).isSome = true) → (t.ins n x).get n = some x := by
  induction t with
  | nil =>
    intro n x h
    rw [Tr.ins_nil]
    by_cases h0 : n = 0
    · rw [if_pos h0, Tr.get_node, if_pos h0]
    · have := h 0 (by omega); simp [Tr.get_nil] at this
  | node l v r il ir =>
    intro n x h
    rw [Tr.ins_node]
    by_cases h0 : n = 0
    · rw [if_pos h0, Tr.get_node, if_pos h0]
    · rw [if_neg h0]
      by_cases h1 : n % 2 = 1
      · rw [if_pos h1, Tr.get_node, if_neg h0, if_pos h1]
        refine il _ _ fun m hm => ?_
        have := h (2 * m + 1) (by omega)
        rw [Tr.get_node, if_neg (by omega), if_pos (by omega), show (2 * m + 1) / 2 = m by omega] at this
        exact this
      · rw [if_neg h1, Tr.get_node, if_neg h0, if_neg h1]
        refine ir _ _ fun m hm => ?_
        have := h (2 * m + 2) (by omega)
        rw [Tr.get_node, if_neg (by omega), if_neg (by omega), show (2 * m + 2) / 2 - 1 = m by omega] at this
        exact this
noncomputable def deadT (k : Nat) : Tr AObj := Nat.rec (motive := fun _ => Tr AObj) .nil (fun n t => t.ins n .dead) k
theorem deadT_get (k : Nat) : (∀ b, b < k → (deadT k).get b = some .dead) ∧ ∀ b o, (deadT k).get b = some o → b < k ∧ o = .dead := by
  induction k with
  | zero => exact ⟨fun b h => absurd h (Nat.not_lt_zero _), fun b o h => by cases h⟩
  | succ k ih =>
    have e : deadT (k + 1) = (deadT k).ins k .dead := rfl
    rw [e]
    refine ⟨fun b hb => ?_, fun b o h => ?_⟩
    · by_cases hbk : b = k
      · subst hbk; exact ins_full _ _ _ fun m hm => by rw [ih.1 m hm]; rfl
      · rw [Tr.ins_ne _ _ _ _ (fun x => hbk x.symm)]; exact ih.1 b (by omega)
    · by_cases hbk : b = k
      · subst hbk
        rw [ins_full _ _ _ fun m hm => by rw [ih.1 m hm]; rfl] at h
        exact ⟨Nat.lt_succ_self _, (Option.some.inj h).symm⟩
      · rw [Tr.ins_ne _ _ _ _ (fun x => hbk x.symm)] at h
        obtain ⟨h1, h2⟩ := ih.2 b o h
        exact ⟨by omega, h2⟩
noncomputable def oneH (b : Nat) (o : AObj) : Hp := ⟨(deadT b).ins b o, b + 1, b + 1⟩
theorem oneH_get (b : Nat) (o : AObj) : (oneH b o).t.get b = some o := ins_full _ _ _ fun m hm => by rw [(deadT_get b).1 m hm]; rfl
theorem oneH_sub {b : Nat} {o : AObj} {b' : Nat} {o' : AObj} (h : (oneH b o).t.get b' = some o') : (b' = b ∧ o' = o) ∨ (b' < b ∧ o' = .dead) := by
  by_cases e : b' = b
  · subst e; rw [oneH_get] at h; exact .inl ⟨rfl, (Option.some.inj h).symm⟩
  · have h' : ((deadT b).ins b o).get b' = some o' := h
    rw [Tr.ins_ne _ _ _ _ (fun x => e x.symm)] at h'
    exact .inr ((deadT_get b).2 b' o' h')
theorem part_one {b : Nat} {o : AObj} {H : Hp} {K : Nat → Prop} (hb : K b) (h : H.t.get b = some o) : Part (oneH b o) H K := by
  refine ⟨rfl, fun b' o' h' => ?_, fun b' o' h' hd => ?_⟩
  · show b' < b + 1
    rcases oneH_sub h' with ⟨e, _⟩ | ⟨e, _⟩ <;> omega
  · rcases oneH_sub h' with ⟨rfl, rfl⟩ | ⟨_, e⟩
    · exact ⟨hb, h⟩
    · exact absurd e hd
theorem op_of {callA : FuncId → List Value → Hp → (Value → Hp → Ans) → Ans} (hcall : CallOk P callA) {o : Oper} {T : Tr Value} {G : Hp} {v : Value} (hw : G.WF) (h : opA P callA o T G (fun v G => .ok v G) = .ok v G) : OpSim P o T G v G := by
  obtain ⟨v', H', _, _, h3, h4⟩ := opA_ok hcall hw h
  cases h4
  exact h3
theorem free_op {callA : FuncId → List Value → Hp → (Value → Hp → Ans) → Ans} (hcall : CallOk P callA) {o : Oper} {T : Tr Value} {H : Hp} {r : Value → Hp → Ans} {V : Value} {HH : Hp} (hf : freeOp o.op = true) (h : opA P callA o T H r = .ok V HH) :
    ∃ v, r v H = .ok V HH ∧ OpSim P o T E0 v E0 := by
  cases ho : o.op with
  | move x =>
    have h' := h
    unfold opA at h'; simp only [ho] at h'
    obtain ⟨v, hv, h1⟩ := evalA_ok h'
    refine ⟨v, h1, op_of hcall e0_wf ?_⟩
    unfold opA; simp only [ho]
    exact evalA_some hv _
  | assign x =>
    have h' := h
    unfold opA at h'; simp only [ho] at h'
    obtain ⟨v, hv, h1⟩ := evalA_ok h'
    refine ⟨v, h1, op_of hcall e0_wf ?_⟩
    unfold opA; simp only [ho]
    exact evalA_some hv _
  | extract x i =>
    have h' := h
    unfold opA at h'; simp only [ho] at h'
    obtain ⟨t, ht, h1⟩ := evalA_ok h'
    split at h1
    · rename_i vs
      obtain ⟨v, hv, h2⟩ := orec_ok (c := 227) (x := i) h1
      refine ⟨v, h2, op_of hcall e0_wf ?_⟩
      unfold opA; simp only [ho]
      rw [evalA_some ht]
      simp only [hv]
    · cases h1
  | fieldAddr s x f =>
    have h' := h
    unfold opA at h'; simp only [ho] at h'
    obtain ⟨p, hp, h1⟩ := evalA_ok h'
    split at h1
    · rename_i fd hfd
      split at h1
      · rename_i q hs
        split at h1
        · rename_i b off
          refine ⟨_, h1, op_of hcall e0_wf ?_⟩
          unfold opA; simp only [ho]
          rw [evalA_some hp]
          simp only [hfd, hs]
        · cases h1
      · cases h1
    · cases h1
  | _ => rw [ho] at hf; cases hf
theorem loadA_uni {H : Hp} {t : TypeId} {a : Value} {k : Value → Ans} {V : Value} {HH : Hp} (h : loadA P H t a k = .ok V HH) :
    ∃ b off ob v, a = .pointer (some ⟨b, off, none⟩) ∧ H.t.get b = some ob ∧ k v = .ok V HH ∧ ∀ (G : Hp) (K : Value → Ans), G.t.get b = some ob → loadA P G t a K = K v := by
  unfold loadA at h
  split at h
  · rename_i b off
    obtain ⟨ob, hb, h1⟩ := orec_ok (c := 10) (x := b) h
    split at h1
    · rename_i c n elem opn
      split at h1
      · rename_i s ha hs
        obtain ⟨hle, h2⟩ := brec_ok (c := 11) (x := off) h1
        obtain ⟨l, h3, h4, h5⟩ := rdA_ok h2
        refine ⟨b, off, _, _, rfl, hb, h5, fun G K hG => ?_⟩
        unfold loadA; simp only [hG, ha, hs, hle]
        have key : ∀ (n o : Nat) (l : List Value), l.length = n → (∀ (i : Nat) (v : Value), l[i]? = some v → c.get (o + i) = some v) → ∀ K : List Value → Ans, rdA c n o K = K l := by
          intro n
          induction n with
          | zero => intro o l hl _ K; rw [List.eq_nil_of_length_eq_zero hl]; rfl
          | succ n ih =>
            intro o l hl h K
            cases l with
            | nil => simp at hl
            | cons v l =>
              have h0 := h 0 v rfl
              show @Option.rec Value (fun _ => Ans) (.err 4 o) (fun v => rdA c n (Nat.succ o) fun l => K (v :: l)) (c.get o) = _
              rw [show c.get o = some v by simpa using h0]
              show (rdA c n (Nat.succ o) fun l => K (v :: l)) = _
              rw [ih (Nat.succ o) l (by simpa using hl) fun i u hu => ?_]
              have := h (i + 1) u (by simpa using hu)
              rwa [show Nat.succ o + i = o + (i + 1) by omega]
        exact key s off l h3 h4 _
      · rename_i s ha hs
        obtain ⟨hle, h2⟩ := brec_ok (c := 12) (x := off) h1
        obtain ⟨v, hv, h3⟩ := orec_ok (c := 13) (x := off) h2
        refine ⟨b, off, _, v, rfl, hb, h3, fun G K hG => ?_⟩
        unfold loadA; simp only [hG, ha, hs, hle, hv]
      · cases h1
    · cases h1
  · cases h
theorem load_op {callA : FuncId → List Value → Hp → (Value → Hp → Ans) → Ans} (hcall : CallOk P callA) {o : Oper} {T : Tr Value} {H : Hp} {r : Value → Hp → Ans} {V : Value} {HH : Hp} (hf : isLoad o.op = true) (h : opA P callA o T H r = .ok V HH) :
    ∃ v ob, r v H = .ok V HH ∧ H.t.get (blkOf T o.op) = some ob ∧ OpSim P o T (oneH (blkOf T o.op) ob) v (oneH (blkOf T o.op) ob) ∧ ∀ (ρ : Ren) (a : Act), (∀ x ∈ o.op.operands, ORel ρ T a x) → ∃ e, ρ (blkOf T o.op) = some e := by
  cases ho : o.op with
  | load t x =>
    have h' := h
    unfold opA at h'; simp only [ho] at h'
    obtain ⟨a, ha, h1⟩ := evalA_ok h'
    obtain ⟨b, off, ob, v, rfl, hb, h2, huni⟩ := loadA_uni h1
    have hblk : blkOf T (.load t x) = b := by
      cases x with
      | tmp i =>
        have hi : T.get i = some (.pointer (some ⟨b, off, none⟩)) := ha
        unfold blkOf; simp only [hi]
      | const u =>
        have h' : (if constOk u = true then some u else none) = some (.pointer (some ⟨b, off, none⟩)) := ha
        by_cases hc : constOk u = true
        · rw [if_pos hc] at h'; cases h'; cases hc
        · rw [if_neg hc] at h'; cases h'
      | global g => cases ha
      | func f => cases ha
    rw [hblk]
    refine ⟨v, ob, h2, hb, op_of hcall (part_one (K := fun _ => True) trivial hb).wf ?_, fun ρ ac hx => ?_⟩
    · unfold opA; simp only [ho]
      rw [evalA_some ha]
      exact huni _ _ (oneH_get b ob)
    · obtain ⟨e, he, _⟩ := vptr (hx x (by simp [Op.operands]) _ ha)
      exact ⟨e, he⟩
  | _ => rw [ho] at hf; cases hf
theorem store_op {callA : FuncId → List Value → Hp → (Value → Hp → Ans) → Ans} (hcall : CallOk P callA) {o : Oper} {T : Tr Value} {H : Hp} {r : Value → Hp → Ans} {V : Value} {HH : Hp} (hw : H.WF) (hf : isStore o.op = true) (h : opA P callA o T H r = .ok V HH) :
    ∃ H', r undef H' = .ok V HH ∧ HStep H H' ∧ H'.WF ∧ OpSim P o T H undef H' ∧ ∀ b, b ≠ blkOf T o.op → H'.t.get b = H.t.get b := by
  cases ho : o.op with
  | store t a x =>
    have h' := h
    unfold opA at h'; simp only [ho] at h'
    obtain ⟨p, hp, h1⟩ := evalA_ok h'
    obtain ⟨v, hv, h2⟩ := evalA_ok h1
    have huni : ∃ H' b off, p = .pointer (some ⟨b, off, none⟩) ∧ r undef H' = .ok V HH ∧ (∀ c, c ≠ b → H'.t.get c = H.t.get c) ∧ ∀ K : Hp → Ans, storeA P H t p v K = K H' := by
      unfold storeA at h2
      split at h2
      · rename_i b off
        split at h2
        · rename_i s hs
          obtain ⟨hl, h3⟩ := brec_ok (c := 24) (x := t) h2
          unfold storeL at h3
          obtain ⟨ob, hb, h4⟩ := orec_ok (c := 20) (x := b) h3
          split at h4
          · rename_i c n e opn
            obtain ⟨hle, h5⟩ := brec_ok (c := 21) (x := off) h4
            obtain ⟨hone, h6⟩ := brec_ok (c := 22) (x := off) h5
            refine ⟨_, b, off, rfl, h6, fun c hc => Tr.set_ne _ _ _ _ fun e => hc e.symm, fun K => ?_⟩
            unfold storeA storeL
            simp only [hs, hl, hb, hle, hone]
          · cases h4
        · cases h2
      · cases h2
    obtain ⟨H', b, off, rfl, h3, hkeep, hst⟩ := huni
    have hblk : blkOf T (.store t a x) = b := by
      cases a with
      | tmp i =>
        have hi : T.get i = some (.pointer (some ⟨b, off, none⟩)) := hp
        unfold blkOf; simp only [hi]
      | const u =>
        have h' : (if constOk u = true then some u else none) = some (.pointer (some ⟨b, off, none⟩)) := hp
        by_cases hc : constOk u = true
        · rw [if_pos hc] at h'; cases h'; cases hc
        · rw [if_neg hc] at h'; cases h'
      | global g => cases hp
      | func f => cases hp
    have h0 : opA P callA o T H (fun v G => .ok v G) = .ok undef H' := by
      unfold opA; simp only [ho]
      rw [evalA_some hp, evalA_some hv]
      exact hst _
    obtain ⟨v', H'', k1, k2, k3, k4⟩ := opA_ok hcall hw h0
    cases k4
    exact ⟨_, h3, k1, k2, k3, fun c hc => hkeep c (by rw [hblk] at hc; exact hc)⟩
  | _ => rw [ho] at hf; cases hf
def FStep (P : Program) (ops : Array Oper) (K : Nat → Prop) (o : Oper) (S S' : Tr Value × Hp) : Prop :=
  S'.2 = S.2 ∧ ∃ b v, GuardTells ops o S.1 b ∧ S'.1 = putA S.1 o.dst v ∧ ((b = false ∧ v = undef) ∨ (b = true ∧ ∃ G, Part G S.2 K ∧ OpSim P o S.1 G v G ∧ ∀ (ρ : Ren) (a : Act), (∀ x ∈ o.op.operands, ORel ρ S.1 a x) → ∀ blk ob, G.t.get blk = some ob → ob ≠ .dead → ∃ e, ρ blk = some e))
theorem kept_ok (b : Nat) (ms : List Nat) (rl : Nat) : kept b ms rl = true ↔ b < rl ∧ b ∉ ms := by
  induction ms with
  | nil =>
    show Nat.blt b rl = true ↔ _
    constructor
    · intro h; exact ⟨blt_lt h, by simp⟩
    · intro h; exact Nat.ble_eq_true_of_le h.1
  | cons c ms ih =>
    have e : kept b (c :: ms) rl = @Bool.rec (fun _ => Bool) (kept b ms rl) false (Nat.beq b c) := rfl
    rw [e]
    cases hb : Nat.beq b c with
    | true => have := beq_eq' hb; subst this; simp
    | false =>
      have hne : b ≠ c := fun h => by subst h; rw [Nat.beq_refl] at hb; cases hb
      simp only
      rw [ih]
      simp [hne]
theorem keptAll_ok {rs ms : List Nat} {rl : Nat} (h : keptAll rs ms rl = true) : ∀ b ∈ rs, kept b ms rl = true := by
  induction rs with
  | nil => intro b hb; cases hb
  | cons c rs ih =>
    have e : keptAll (c :: rs) ms rl = @Bool.rec (fun _ => Bool) false (keptAll rs ms rl) (kept c ms rl) := rfl
    rw [e] at h
    cases hc : kept c ms rl with
    | false => rw [hc] at h; cases h
    | true =>
      rw [hc] at h
      intro b hb
      rcases List.mem_cons.1 hb with rfl | hb
      · exact hc
      · exact ih h b hb
theorem freeAt_eq {ops : Array Oper} {i : Nat} {o : Oper} (h : ops.toList[i]? = some o) : freeAt ops i = freeOp o.op := by
  have : ops[i]? = some o := by simpa using h
  unfold freeAt; rw [this]
theorem laxLoad_eq {ops : Array Oper} {i : Nat} {o : Oper} (h : ops.toList[i]? = some o) : laxLoad ops i = (isLoad o.op && !tight ops i) := by
  have : ops[i]? = some o := by simpa using h
  unfold laxLoad; rw [this]
theorem opsDA_trace {callA : FuncId → List Value → Hp → (Value → Hp → Ans) → Ans} (hcall : CallOk P callA) {ops : Array Oper} {V : Value} {HH : Hp} : ∀ {l : List Oper} {i : Nat} {rs ms : List Nat} {rl : Nat} {T : Tr Value} {H : Hp} {k : Tr Value → Hp → Ans}, H.WF → (∀ j, l[j]? = ops.toList[i + j]?) → opsDA P callA ops l i rs ms rl T H k = .ok V HH →
    ∃ (S : Nat → Tr Value × Hp) (K : Nat → Prop), S 0 = (T, H) ∧ k (S l.length).1 (S l.length).2 = .ok V HH ∧ (∀ j, j ≤ l.length → (S j).2.WF) ∧ (∀ j o, l[j]? = some o → DStep P ops (i + j) o (S j) (S (j + 1))) ∧ (∀ b, K b → b < rl ∧ b ∉ ms) ∧ (∀ b ∈ rs, K b) ∧
      (∀ j, j < l.length → ∀ b, K b → b < (S j).2.n → (S (j + 1)).2.t.get b = (S j).2.t.get b) ∧ ∀ j o, l[j]? = some o → laxAt ops (i + j) = true → FStep P ops K o (S j) (S (j + 1)) := by
  intro l
  induction l with
  | nil =>
    intro i rs ms rl T H k hw _ h
    obtain ⟨hm, h1⟩ := brec_ok (c := 315) (x := rl) h
    exact ⟨fun _ => (T, H), fun b => kept b ms rl = true, rfl, h1, fun _ _ => hw, (fun j o hj => by simp at hj), (fun b hb => (kept_ok b ms rl).1 hb), keptAll_ok hm, (fun j hj => by simp at hj), fun j o hj => by simp at hj⟩
  | cons o l ih =>
    intro i rs ms rl T H k hw hl h
    have ho : ops.toList[i]? = some o := by have := hl 0; simpa using this.symm
    have hl' : ∀ j, l[j]? = ops.toList[i + 1 + j]? := fun j => by have := hl (j + 1); rw [show i + 1 + j = i + (j + 1) by omega]; simpa using this
    have glue : ∀ (rs1 ms1 : List Nat) (rl1 : Nat) (T1 : Tr Value) (H1 : Hp), H1.WF → (∀ b ∈ rs, b ∈ rs1) → (∀ b ∈ ms, b ∈ ms1) → rl1 ≤ rl → DStep P ops i o (T, H) (T1, H1) → (∀ b, b < rl1 → b ∉ ms1 → b < H.n → H1.t.get b = H.t.get b) → (∀ K : Nat → Prop, (∀ b ∈ rs1, K b) → laxAt ops i = true → FStep P ops K o (T, H) (T1, H1)) → opsDA P callA ops l (i + 1) rs1 ms1 rl1 T1 H1 k = .ok V HH →
        ∃ (S : Nat → Tr Value × Hp) (K : Nat → Prop), S 0 = (T, H) ∧ k (S (o :: l).length).1 (S (o :: l).length).2 = .ok V HH ∧ (∀ j, j ≤ (o :: l).length → (S j).2.WF) ∧ (∀ j x, (o :: l)[j]? = some x → DStep P ops (i + j) x (S j) (S (j + 1))) ∧ (∀ b, K b → b < rl ∧ b ∉ ms) ∧ (∀ b ∈ rs, K b) ∧
          (∀ j, j < (o :: l).length → ∀ b, K b → b < (S j).2.n → (S (j + 1)).2.t.get b = (S j).2.t.get b) ∧ ∀ j x, (o :: l)[j]? = some x → laxAt ops (i + j) = true → FStep P ops K x (S j) (S (j + 1)) := by
      intro rs1 ms1 rl1 T1 H1 hw1 hrs hms hr1 hd hkeep hfs h1
      obtain ⟨S, K, s0, s1, s2, s3, s4, s5, s6, s7⟩ := ih hw1 hl' h1
      refine ⟨fun j => Nat.casesOn j (T, H) fun j => S j, K, rfl, s1, fun j hj => ?_, fun j x hx => ?_, fun b hb => ⟨Nat.lt_of_lt_of_le (s4 b hb).1 hr1, fun hm => (s4 b hb).2 (hms b hm)⟩, fun b hb => s5 b (hrs b hb), fun j hj b hb hbn => ?_, fun j x hx hfx => ?_⟩
      · cases j with
        | zero => exact hw
        | succ j => exact s2 j (by simpa using hj)
      · cases j with
        | zero =>
          simp at hx; subst hx
          show DStep P ops (i + 0) o (T, H) (S 0)
          rw [s0]; exact hd
        | succ j =>
          have := s3 j x (by simpa using hx)
          show DStep P ops (i + (j + 1)) x (S j) (S (j + 1))
          rw [show i + (j + 1) = i + 1 + j by omega]; exact this
      · cases j with
        | zero =>
          show (S 0).2.t.get b = H.t.get b
          rw [s0]; exact hkeep b (s4 b hb).1 (s4 b hb).2 hbn
        | succ j => exact s6 j (by simpa using hj) b hb hbn
      · cases j with
        | zero =>
          simp at hx; subst hx
          show FStep P ops K o (T, H) (S 0)
          rw [s0]; exact hfs K s5 hfx
        | succ j =>
          have := s7 j x (by simpa using hx) (by rw [show i + 1 + j = i + (j + 1) by omega]; exact hfx)
          exact this
    have h' : (guardA (gslot ops o) T fun b => @Bool.rec (fun _ => Ans) (opsDA P callA ops l (i + 1) rs ms rl (putA T o.dst undef) H k)
      (opA P callA o T ⟨H.t, H.n, H.n⟩ fun v H' => @Bool.rec (fun _ => Ans)
        (@Bool.rec (fun _ => Ans) (.err 301 i) (@Bool.rec (fun _ => Ans) (opsDA P callA ops l (i + 1) rs ms (lowr rl H'.lo) (putA T o.dst v) ⟨H'.t, H'.n, lowr H.lo H'.lo⟩ k) (opsDA P callA ops l (i + 1) rs (blkOf T o.op :: ms) rl (putA T o.dst v) ⟨H'.t, H'.n, lowr H.lo H'.lo⟩ k) (isStore o.op)) (pivot ops i))
        (opsDA P callA ops l (i + 1) (@Bool.rec (fun _ => List Nat) rs (blkOf T o.op :: rs) (laxLoad ops i)) ms rl (putA T o.dst v) ⟨H'.t, H'.n, H.lo⟩ k) (Nat.ble H.n H'.lo)) b) = .ok V HH := h
    obtain ⟨b, hgd, h1⟩ := guardA_ok h'
    cases b with
    | false => exact glue rs ms rl _ _ hw (fun _ h => h) (fun _ h => h) (Nat.le_refl _) (.inl ⟨hgd, rfl, rfl⟩) (fun _ _ _ _ => rfl) (fun _ _ _ => ⟨rfl, false, undef, hgd, rfl, .inl ⟨rfl, rfl⟩⟩) h1
    | true =>
      have hw0 : Hp.WF ⟨H.t, H.n, H.n⟩ := hw
      have hble : Nat.ble H.n H.n = true := Nat.ble_eq_true_of_le (Nat.le_refl _)
      by_cases hfree : freeOp o.op = true
      · obtain ⟨v, h2, hs0⟩ := free_op hcall hfree h1
        dsimp only at h2
        have hlx : laxLoad ops i = false := by
          rw [laxLoad_eq ho]
          cases hop : o.op <;> rw [hop] at hfree <;> first | rfl | cases hfree
        rw [hble, hlx] at h2
        exact glue rs ms rl (putA T o.dst v) H hw (fun _ h => h) (fun _ h => h) (Nat.le_refl _) (.inr ⟨hgd, v, ⟨H.t, H.n, H.n⟩, HStep.refl _, hw0, opsim_part (part_e0 _ (fun _ => True)) hs0, rfl, rfl, rfl, .inl ⟨Nat.le_refl _, rfl⟩⟩) (fun _ _ _ _ => rfl) (fun K _ _ => ⟨rfl, true, v, hgd, rfl, .inr ⟨rfl, E0, part_e0 _ _, hs0, fun _ _ _ blk ob h _ => by cases h⟩⟩) h2
      · by_cases hlax : laxLoad ops i = true
        · have hload : isLoad o.op = true := by rw [laxLoad_eq ho] at hlax; simp at hlax; exact hlax.1
          obtain ⟨v, ob, h2, hb, hs0, hnam⟩ := load_op hcall hload h1
          dsimp only at h2 hb
          rw [hble, hlax] at h2
          exact glue (blkOf T o.op :: rs) ms rl (putA T o.dst v) H hw (fun b h => List.mem_cons_of_mem _ h) (fun _ h => h) (Nat.le_refl _) (.inr ⟨hgd, v, ⟨H.t, H.n, H.n⟩, HStep.refl _, hw0, opsim_part (part_one (K := fun _ => True) trivial hb) hs0, rfl, rfl, rfl, .inl ⟨Nat.le_refl _, rfl⟩⟩) (fun _ _ _ _ => rfl)
            (fun K hK _ => ⟨rfl, true, v, hgd, rfl, .inr ⟨rfl, _, part_one (hK _ (by simp)) hb, hs0, fun ρ a hx blk ob' h hd => by
              rcases oneH_sub h with ⟨rfl, _⟩ | ⟨_, e⟩
              · exact hnam ρ a hx
              · exact absurd e hd⟩⟩) h2
        · have hnot : ¬ laxAt ops i = true := fun h => by
            unfold laxAt at h
            rw [freeAt_eq ho] at h
            simp only [Bool.or_eq_true] at h
            exact h.elim hfree hlax
          have hlx : laxLoad ops i = false := by simpa using hlax
          by_cases hstore : isStore o.op = true
          · obtain ⟨H', h2, k1, k2, hsim, hkp⟩ := store_op hcall hw0 hstore h1
            cases hb : Nat.ble H.n H'.lo with
            | true =>
              rw [hb, hlx] at h2
              have hlo := ble_le hb
              exact glue rs ms rl (putA T o.dst undef) ⟨H'.t, H'.n, H.lo⟩ k2 (fun _ h => h) (fun _ h => h) (Nat.le_refl _) (.inr ⟨hgd, undef, H', k1, k2, hsim, rfl, rfl, rfl, .inl ⟨hlo, rfl⟩⟩) (fun b _ _ hbn => k1.keep b hbn (Nat.lt_of_lt_of_le hbn hlo)) (fun _ _ h => absurd h hnot) h2
            | false =>
              rw [hb] at h2
              obtain ⟨hp, h3⟩ := brec_ok (c := 301) (x := i) h2
              rw [hstore] at h3
              exact glue rs (blkOf T o.op :: ms) rl (putA T o.dst undef) ⟨H'.t, H'.n, lowr H.lo H'.lo⟩ k2 (fun _ h => h) (fun b h => List.mem_cons_of_mem _ h) (Nat.le_refl _) (.inr ⟨hgd, undef, H', k1, k2, hsim, rfl, rfl, rfl, .inr ⟨hp, rfl⟩⟩)
                (fun b _ hm _ => hkp b fun e => hm (by simp [e])) (fun _ _ h => absurd h hnot) h3
          · have hns : isStore o.op = false := by simpa using hstore
            obtain ⟨v, H', k1, k2, hsim, h2⟩ := opA_ok hcall hw0 h1
            dsimp only at h2
            cases hb : Nat.ble H.n H'.lo with
            | true =>
              rw [hb, hlx] at h2
              have hlo := ble_le hb
              exact glue rs ms rl (putA T o.dst v) ⟨H'.t, H'.n, H.lo⟩ k2 (fun _ h => h) (fun _ h => h) (Nat.le_refl _) (.inr ⟨hgd, v, H', k1, k2, hsim, rfl, rfl, rfl, .inl ⟨hlo, rfl⟩⟩) (fun b _ _ hbn => k1.keep b hbn (Nat.lt_of_lt_of_le hbn hlo)) (fun _ _ h => absurd h hnot) h2
            | false =>
              rw [hb] at h2
              obtain ⟨hp, h3⟩ := brec_ok (c := 301) (x := i) h2
              rw [hns] at h3
              exact glue rs ms (lowr rl H'.lo) (putA T o.dst v) ⟨H'.t, H'.n, lowr H.lo H'.lo⟩ k2 (fun _ h => h) (fun _ h => h) (lowr_left _ _) (.inr ⟨hgd, v, H', k1, k2, hsim, rfl, rfl, rfl, .inr ⟨hp, rfl⟩⟩)
                (fun b hb' _ hbn => k1.keep b hbn (Nat.lt_of_lt_of_le hb' (lowr_right _ _))) (fun _ _ h => absurd h hnot) h3
def Still (S S' : Tr Value × Hp) : Prop := ∀ b, b < S.2.n → S'.2.t.get b = S.2.t.get b
section region
variable {ops : Array Oper} {S : Nat → Tr Value × Hp} (hS : ∀ j o, ops.toList[j]? = some o → DStep P ops j o (S j) (S (j + 1))) (hwf : ∀ j, j ≤ ops.size → (S j).2.WF)
include hS hwf
theorem ds_n {i j : Nat} (hij : i ≤ j) (hj : j ≤ ops.size) : (S i).2.n ≤ (S j).2.n ∧ (S j).2.lo ≤ (S i).2.lo := by
  induction j with
  | zero => have : i = 0 := by omega
            subst this; exact ⟨Nat.le_refl _, Nat.le_refl _⟩
  | succ j ih =>
    by_cases h : i = j + 1
    · subst h; exact ⟨Nat.le_refl _, Nat.le_refl _⟩
    · obtain ⟨h1, h2⟩ := ih (by omega) (by omega)
      have hjs : j < ops.toList.length := by simp; omega
      rcases hS j _ (List.getElem?_eq_getElem hjs) with ⟨_, _, e⟩ | ⟨_, v, H', k1, k2, _, _, e1, e2, e3⟩
      · rw [e]; exact ⟨h1, h2⟩
      · rw [e2]
        refine ⟨Nat.le_trans h1 k1.n, ?_⟩
        rcases e3 with ⟨_, e3⟩ | ⟨_, e3⟩
        · rw [e3]; exact h2
        · rw [e3]; exact Nat.le_trans (lowr_left _ _) h2
theorem ds_hstep {i : Nat} (hi : i < ops.size) : (∀ b o, b < (S i).2.n → (S (i + 1)).2.t.get b = some o → o ≠ .dead → ∃ o₀, (S i).2.t.get b = some o₀ ∧ o₀ ≠ .dead) ∧
    (∀ b, b < (S i).2.n → b < (S (i + 1)).2.lo → (S (i + 1)).2.t.get b = (S i).2.t.get b) := by
  have his : i < ops.toList.length := by simpa using hi
  rcases hS i _ (List.getElem?_eq_getElem his) with ⟨_, _, e⟩ | ⟨_, v, H', k1, k2, _, _, e1, e2, e3⟩
  · rw [e]; exact ⟨fun b o _ h h' => ⟨o, h, h'⟩, fun _ _ _ => rfl⟩
  · rw [e1]
    refine ⟨fun b o hb h h' => k1.live b o hb h h', fun b hb hl => k1.keep b hb ?_⟩
    rcases e3 with ⟨e3, e4⟩ | ⟨_, e3⟩
    · omega
    · rw [e3] at hl; exact Nat.lt_of_lt_of_le hl (lowr_right _ _)
theorem ds_live {i j : Nat} (hij : i ≤ j) (hj : j ≤ ops.size) : ∀ b o, b < (S i).2.n → (S j).2.t.get b = some o → o ≠ .dead → ∃ o₀, (S i).2.t.get b = some o₀ ∧ o₀ ≠ .dead := by
  induction j with
  | zero => have : i = 0 := by omega
            subst this; exact fun b o _ h h' => ⟨o, h, h'⟩
  | succ j ih =>
    by_cases h : i = j + 1
    · subst h; exact fun b o _ h h' => ⟨o, h, h'⟩
    · intro b o hb hg hd
      have hn := (ds_n hS hwf (i := i) (j := j) (by omega) (by omega)).1
      obtain ⟨o₁, g1, d1⟩ := (ds_hstep hS hwf (i := j) (by omega)).1 b o (by omega) hg hd
      exact ih (by omega) (by omega) b o₁ hb g1 d1
theorem ds_whole : HStep (S 0).2 (S ops.size).2 := by
  have key : ∀ j, j ≤ ops.size → HStep (S 0).2 (S j).2 := by
    intro j
    induction j with
    | zero => intro _; exact HStep.refl _
    | succ j ih =>
      intro hj
      have h := ih (by omega)
      obtain ⟨n1, n2⟩ := ds_n hS hwf (i := j) (j := j + 1) (by omega) hj
      obtain ⟨l1, l2⟩ := ds_hstep hS hwf (i := j) (by omega)
      exact h.trans ⟨n1, n2, l2, l1⟩
  exact key _ (Nat.le_refl _)
theorem ds_still {i j : Nat} (hij : i ≤ j) (hj : j ≤ ops.size) (hst : ∀ m, i ≤ m → m < j → Still (S m) (S (m + 1))) : ∀ b, b < (S i).2.n → (S j).2.t.get b = (S i).2.t.get b := by
  induction j with
  | zero => have : i = 0 := by omega
            subst this; exact fun _ _ => rfl
  | succ j ih =>
    by_cases h : i = j + 1
    · subst h; exact fun _ _ => rfl
    · intro b hb
      have hn := (ds_n hS hwf (i := i) (j := j) (by omega) (by omega)).1
      rw [hst j (by omega) (by omega) b (by omega), ih (by omega) (by omega) (fun m h1 h2 => hst m h1 (by omega)) b hb]
theorem ds_tmp {t : Tmp} {i j : Nat} (hij : i ≤ j) (hj : j ≤ ops.size) (hw : ∀ m, i ≤ m → m < j → ∀ o, ops.toList[m]? = some o → writes o t = false) : (S j).1.get t = (S i).1.get t := by
  induction j with
  | zero => have : i = 0 := by omega
            subst this; rfl
  | succ j ih =>
    by_cases h : i = j + 1
    · subst h; rfl
    · have hjs : j < ops.toList.length := by simp; omega
      have hwj := hw j (by omega) (by omega) _ (List.getElem?_eq_getElem hjs)
      have key : ∀ v, (putA (S j).1 (ops.toList[j]).dst v).get t = (S j).1.get t := fun v => by
        cases hd : (ops.toList[j]).dst with
        | none => rfl
        | some d =>
          show ((S j).1.set d v).get t = _
          refine Tr.set_ne _ _ _ _ fun h => ?_
          simp only [writes, hd, beq_eq, h] at hwj
          simp at hwj
      have hj1 : (S (j + 1)).1.get t = (S j).1.get t := by
        rcases hS j _ (List.getElem?_eq_getElem hjs) with ⟨_, e, _⟩ | ⟨_, v, H', _, _, _, e, _⟩
        · rw [e, key]
        · rw [e, key]
      rw [hj1, ih (by omega) (by omega) fun m h1 h2 => hw m h1 (by omega)]
end region
structure Edges (ops : Array Oper) : Prop where
  lt : ∀ j o e, ops.toList[j]? = some o → e ∈ edges o → e.on < j
  anc : ∀ j o i, ops.toList[j]? = some o → i < ops.size → ((ancs ops.toList []).getD j 0).testBit i = true → ∃ e ∈ edges o, e.on = i ∨ ((ancs ops.toList []).getD e.on 0).testBit i = true
  ord : ∀ j o t i x, ops.toList[j]? = some o → t ∈ named ops o → ops.toList[i]? = some x → i ≠ j → writes x t = true → orderedIn (ancs ops.toList []) i j = true
theorem edges_of {ops : Array Oper} (h : drawOk ops = true) : Edges ops := by
  unfold drawOk at h
  rw [List.all_eq_true] at h
  have key : ∀ j o, ops.toList[j]? = some o → (edges o).all (edgeOk j) = true ∧ ancOk (ancs ops.toList []) ops.toList.length j o = true ∧
      ((named ops o).all fun t => ops.toList.zipIdx.all fun (x, i) => i == j || !writes x t || orderedIn (ancs ops.toList []) i j) = true := by
    intro j o hj
    have hm : (o, j) ∈ ops.toList.zipIdx := List.mk_mem_zipIdx_iff_getElem?.2 hj
    have := h (o, j) hm
    simp only [Bool.and_eq_true] at this
    exact ⟨this.1.1, this.1.2, this.2⟩
  refine ⟨fun j o e hj he => ?_, fun j o i hj hi hb => ?_, fun j o t i x hj ht hx hne hw => ?_⟩
  · have := List.all_eq_true.1 (key j o hj).1 e he
    exact blt_lt this
  · have := (key j o hj).2.1
    unfold ancOk at this
    have := List.all_eq_true.1 this i (by simpa using hi)
    rw [hb] at this
    simp only [Bool.not_true, Bool.false_or] at this
    obtain ⟨e, he, h1⟩ := List.any_eq_true.1 this
    refine ⟨e, he, ?_⟩
    simpa using h1
  · have := List.all_eq_true.1 (key j o hj).2.2 t ht
    have hm : (x, i) ∈ ops.toList.zipIdx := List.mk_mem_zipIdx_iff_getElem?.2 hx
    have h9 : (i == j || !writes x t || orderedIn (ancs ops.toList []) i j) = true := List.all_eq_true.1 this (x, i) hm
    rw [hw] at h9
    simpa [hne] using h9
theorem pivot_ord {ops : Array Oper} {p : Nat} (h : pivot ops p = true) : ∀ i, i < ops.size → i ≠ p → orderedIn (ancs ops.toList []) i p = true ∨ laxAt ops i = true := fun i hi hne => by
  unfold pivot at h
  have := List.all_eq_true.1 h i (by simpa using hi)
  simpa [hne] using this
def Closed (ops : Array Oper) (D : Nat → Prop) : Prop := ∀ i o e, ops.toList[i]? = some o → D i → e ∈ edges o → D e.on
theorem closed_anc {ops : Array Oper} (hE : Edges ops) {D : Nat → Prop} (hD : Closed ops D) : ∀ (j : Nat), j < ops.size → D j → ∀ i, i < ops.size → ((ancs ops.toList []).getD j 0).testBit i = true → D i := by
  intro j
  induction j using Nat.strongRecOn with
  | _ j ih =>
    intro hj hDj i hi hb
    have hjs : j < ops.toList.length := by simpa using hj
    obtain ⟨e, he, h⟩ := hE.anc j _ i (List.getElem?_eq_getElem hjs) hi hb
    have hlt := hE.lt j _ e (List.getElem?_eq_getElem hjs) he
    have hDe := hD j _ e (List.getElem?_eq_getElem hjs) hDj he
    rcases h with h | h
    · rw [← h]; exact hDe
    · exact ih e.on hlt (by omega) hDe i hi h
theorem ready_anc {ops : Array Oper} (hE : Edges ops) {D : Nat → Prop} (hD : Closed ops D) {j : Nat} {o : Oper} (hj : ops.toList[j]? = some o) (hr : ∀ e ∈ edges o, D e.on) : ∀ i, i < ops.size → ((ancs ops.toList []).getD j 0).testBit i = true → D i := fun i hi hb => by
  have hjs : j < ops.size := by
    rcases Nat.lt_or_ge j ops.toList.length with h | h
    · simpa using h
    · rw [List.getElem?_eq_none h] at hj; cases hj
  obtain ⟨e, he, h⟩ := hE.anc j o i hj hi hb
  have hlt := hE.lt j o e hj he
  have hDe := hr e he
  rcases h with h | h
  · rw [← h]; exact hDe
  · exact closed_anc hE hD e.on (by omega) hDe i hi h
theorem ord_before {ops : Array Oper} (hE : Edges ops) {D : Nat → Prop} (hD : Closed ops D) {j : Nat} {o : Oper} (hj : ops.toList[j]? = some o) (hr : ∀ e ∈ edges o, D e.on) {i : Nat} (hi : i < ops.size) (hij : i < j) (ho : orderedIn (ancs ops.toList []) i j = true) : D i := by
  unfold orderedIn at ho
  rw [if_pos hij] at ho
  exact ready_anc hE hD hj hr i hi ho
theorem ord_behind {ops : Array Oper} (hE : Edges ops) {D : Nat → Prop} (hD : Closed ops D) {j : Nat} (hj : j < ops.size) (hn : ¬ D j) {i : Nat} (hi : i < ops.size) (hij : j < i) (ho : orderedIn (ancs ops.toList []) i j = true) : ¬ D i := fun hDi => by
  unfold orderedIn at ho
  rw [if_neg (by omega)] at ho
  exact hn (closed_anc hE hD i hi hDi j hj ho)
end
end Go.Abs
set_option linter.unusedVariables false
set_option linter.unusedSimpArgs false
set_option linter.unusedSectionVars false
namespace Go.Abs
open Go.RowKit
variable [TokEnv]
section
variable {P : Program} {ops : Array Oper} {S : Nat → Tr Value × Hp}
theorem Good.sub {ρ : Ren} {H H' : Hp} {w : World} (hg : Good P ρ H' w) (h : ∀ b o, H.t.get b = some o → H'.t.get b = some o) : Good P ρ H w :=
  ⟨fun b o e hb he => hg.rel b o e (h b o hb) he, fun b₁ b₂ o₁ o₂ e₁ e₂ g1 d1 r1 g2 d2 r2 hB => hg.inj b₁ b₂ o₁ o₂ e₁ e₂ (h _ _ g1) d1 r1 (h _ _ g2) d2 r2 hB, fun b e o h1 h2 h3 => hg.bnd b e o (h b o h1) h2 h3⟩
def Quiet (P : Program) (ops : Array Oper) (S : Nat → Tr Value × Hp) (m : Nat) : Prop := ∃ o, ops.toList[m]? = some o ∧
  ((GuardTells ops o (S m).1 false ∧ (S (m + 1)).1 = putA (S m).1 o.dst undef ∧ (S (m + 1)).2 = (S m).2) ∨
  (GuardTells ops o (S m).1 true ∧ ∃ v H', HStep ⟨(S m).2.t, (S m).2.n, (S m).2.n⟩ H' ∧ H'.WF ∧ OpSim P o (S m).1 ⟨(S m).2.t, (S m).2.n, (S m).2.n⟩ v H' ∧ (S (m + 1)).1 = putA (S m).1 o.dst v ∧ (S (m + 1)).2.t = H'.t ∧ (S (m + 1)).2.n = H'.n ∧
    (S m).2.n ≤ H'.lo))
theorem Quiet.still {m : Nat} (h : Quiet P ops S m) : Still (S m) (S (m + 1)) := by
  obtain ⟨o, _, ⟨_, _, e⟩ | ⟨_, v, H', k1, _, _, _, e1, _, e3⟩⟩ := h
  · exact fun b _ => by rw [e]
  · exact fun b hb => by rw [e1]; exact k1.keep b hb (Nat.lt_of_lt_of_le hb e3)
def Loud (P : Program) (ops : Array Oper) (S : Nat → Tr Value × Hp) (m : Nat) : Prop := pivot ops m = true ∧ laxAt ops m = false ∧ ∃ o, ops.toList[m]? = some o ∧ GuardTells ops o (S m).1 true ∧ ∃ v H', HStep ⟨(S m).2.t, (S m).2.n, (S m).2.n⟩ H' ∧ H'.WF ∧ OpSim P o (S m).1 ⟨(S m).2.t, (S m).2.n, (S m).2.n⟩ v H' ∧ (S (m + 1)).1 = putA (S m).1 o.dst v ∧ (S (m + 1)).2.t = H'.t ∧ (S (m + 1)).2.n = H'.n ∧
    (S (m + 1)).2.lo = lowr (S m).2.lo H'.lo
structure Inv (P : Program) (ops : Array Oper) (S : Nat → Tr Value × Hp) (ρ₀ : Ren) (w₀ : World) (D : Nat → Prop) (ρ : Ren) (a : Act) (w : World) : Prop where
  closed : Closed ops D
  tmp : ∀ t m, m ≤ ops.size → (∀ i x, ops.toList[i]? = some x → i < m → writes x t = true → D i) → (∀ i x, ops.toList[i]? = some x → m ≤ i → writes x t = true → ¬ D i) → SRel ρ (S m).1 a.tmps t
  seg : ∃ p q, p ≤ q ∧ q ≤ ops.size ∧ (∀ i, i < p → D i ∨ laxAt ops i = true) ∧ (∀ i, q ≤ i → i < ops.size → ¬ D i ∨ laxAt ops i = true) ∧ (∀ m, p ≤ m → m < q → Quiet P ops S m) ∧ (q < ops.size → Loud P ops S q) ∧ Good P ρ (S q).2 w ∧
    ∀ b e o, ρ₀ b = none → ρ b = some e → (S q).2.t.get b = some o → o ≠ .dead → w₀.heap.size ≤ e.B ∨ ∃ b₀ e₀ o₀, ρ₀ b₀ = some e₀ ∧ e₀.B = e.B ∧ (S ops.size).2.lo ≤ b₀ ∧ b₀ < (S 0).2.n ∧ (S 0).2.t.get b₀ = some o₀ ∧ o₀ ≠ .dead
  dom : ∀ b e, ρ b = some e → ρ₀ b = some e ∨ (ρ₀ b = none ∧ ∃ i, i < ops.size ∧ D i ∧ (S i).2.n ≤ b ∧ b < (S (i + 1)).2.n)
  ext : ∀ b e, ρ₀ b = some e → ρ b = some e
  os : w.os = w₀.os
  tape : w.tape = w₀.tape
  output : w.output = w₀.output
  size : w₀.heap.size ≤ w.heap.size
  frame : ∀ B, B < w₀.heap.size → w.heap[B]? = w₀.heap[B]? ∨ ∃ b e o, ρ₀ b = some e ∧ e.B = B ∧ (S ops.size).2.lo ≤ b ∧ b < (S 0).2.n ∧ (S 0).2.t.get b = some o ∧ o ≠ .dead
theorem SRel.congr {ρ : Ren} {T T' : Tr Value} {tmps : Array Value} {t : Tmp} (h : SRel ρ T tmps t) (e : T'.get t = T.get t) : SRel ρ T' tmps t := fun v hv => h v (by rw [← e]; exact hv)
theorem quiet_or_loud {j : Nat} {o : Oper} (hj : ops.toList[j]? = some o) (h : DStep P ops j o (S j) (S (j + 1))) {R : Nat → Prop} (hF : laxAt ops j = true → FStep P ops R o (S j) (S (j + 1))) (hwfj : (S j).2.WF) : Quiet P ops S j ∨ Loud P ops S j := by
  by_cases hfree : laxAt ops j = true
  · obtain ⟨e2, b, v, hg, e1, ⟨rfl, rfl⟩ | ⟨rfl, G, hp, hs, _⟩⟩ := hF hfree
    · exact .inl ⟨o, hj, .inl ⟨hg, e1, e2⟩⟩
    · exact .inl ⟨o, hj, .inr ⟨hg, v, ⟨(S j).2.t, (S j).2.n, (S j).2.n⟩, HStep.refl _, hwfj, opsim_part (H := ⟨(S j).2.t, (S j).2.n, (S j).2.n⟩) (K := R) ⟨hp.lo, hp.wf, hp.sub⟩ hs, e1, by rw [e2], by rw [e2], Nat.le_refl _⟩⟩
  rcases h with h | ⟨hg, v, H', k1, k2, k3, k4, e1, e2, ⟨e3, _⟩ | ⟨hp, e3⟩⟩
  · exact .inl ⟨o, hj, .inl h⟩
  · exact .inl ⟨o, hj, .inr ⟨hg, v, H', k1, k2, k3, k4, e1, e2, e3⟩⟩
  · exact .inr ⟨hp, by simpa using hfree, o, hj, hg, v, H', k1, k2, k3, k4, e1, e2, e3⟩
theorem next_loud (hS : ∀ j o, ops.toList[j]? = some o → DStep P ops j o (S j) (S (j + 1))) {R : Nat → Prop} (hF : ∀ j o, ops.toList[j]? = some o → laxAt ops j = true → FStep P ops R o (S j) (S (j + 1))) (hwf : ∀ j, j ≤ ops.size → (S j).2.WF) : ∀ (d m : Nat), ops.size - m = d → m ≤ ops.size → ∃ q, m ≤ q ∧ q ≤ ops.size ∧ (∀ i, m ≤ i → i < q → Quiet P ops S i) ∧ (q < ops.size → Loud P ops S q) := by
  intro d
  induction d with
  | zero => intro m hd hm; exact ⟨m, Nat.le_refl _, hm, fun i h1 h2 => by omega, fun h => by omega⟩
  | succ d ih =>
    intro m hd hm
    have hms : m < ops.toList.length := by simp; omega
    rcases quiet_or_loud (List.getElem?_eq_getElem hms) (hS m _ (List.getElem?_eq_getElem hms)) (hF m _ (List.getElem?_eq_getElem hms)) (hwf m hm) with h | h
    · obtain ⟨q, h1, h2, h3, h4⟩ := ih (m + 1) (by omega) (by omega)
      refine ⟨q, by omega, h2, fun i hi hi' => ?_, h4⟩
      by_cases he : i = m
      · subst he; exact h
      · exact h3 i (by omega) hi'
    · exact ⟨m, Nat.le_refl _, hm, fun i h1 h2 => by omega, fun _ => h⟩
section step
variable (hE : Edges ops) (hS : ∀ j o, ops.toList[j]? = some o → DStep P ops j o (S j) (S (j + 1))) (hwf : ∀ j, j ≤ ops.size → (S j).2.WF)
variable {ρ₀ ρ : Ren} {w₀ w : World} {a : Act} {D : Nat → Prop}
include hE hS hwf
theorem inv_slot (hD : Closed ops D) (htmp : ∀ t m, m ≤ ops.size → (∀ i x, ops.toList[i]? = some x → i < m → writes x t = true → D i) → (∀ i x, ops.toList[i]? = some x → m ≤ i → writes x t = true → ¬ D i) → SRel ρ (S m).1 a.tmps t)
    {j : Nat} {o : Oper} (hj : ops.toList[j]? = some o) (hDj : ¬ D j) (hr : ∀ e ∈ edges o, D e.on) : ∀ t ∈ named ops o, SRel ρ (S j).1 a.tmps t := by
  have size_of : ∀ {i : Nat} {x : Oper}, ops.toList[i]? = some x → i < ops.size := fun {i x} h => by
    rcases Nat.lt_or_ge i ops.toList.length with h' | h'
    · simpa using h'
    · rw [List.getElem?_eq_none h'] at h; cases h
  have hjn := size_of hj
  intro t ht
  refine htmp t j (by omega) (fun i x hx hij hw => ?_) fun i x hx hij hw => ?_
  · exact ord_before hE hD hj hr (size_of hx) hij (hE.ord j o t i x hj ht hx (by omega) hw)
  · by_cases h : i = j
    · rw [h]; exact hDj
    · exact ord_behind hE hD hjn hDj (size_of hx) (by omega) (hE.ord j o t i x hj ht hx h hw)
theorem inv_tmp (hD : Closed ops D) (htmp : ∀ t m, m ≤ ops.size → (∀ i x, ops.toList[i]? = some x → i < m → writes x t = true → D i) → (∀ i x, ops.toList[i]? = some x → m ≤ i → writes x t = true → ¬ D i) → SRel ρ (S m).1 a.tmps t)
    {j : Nat} {o : Oper} (hj : ops.toList[j]? = some o) (hDj : ¬ D j) (hr : ∀ e ∈ edges o, D e.on) {ρ' : Ren} (hext : ∀ b e, ρ b = some e → ρ' b = some e) {v u : Value} (hv : VRel ρ' v u) (hT : (S (j + 1)).1 = putA (S j).1 o.dst v) :
    ∀ t m, m ≤ ops.size → (∀ i x, ops.toList[i]? = some x → i < m → writes x t = true → i = j ∨ D i) → (∀ i x, ops.toList[i]? = some x → m ≤ i → writes x t = true → ¬ (i = j ∨ D i)) → SRel ρ' (S m).1 (a.put o.dst u).tmps t := by
  have size_of : ∀ {i : Nat} {x : Oper}, ops.toList[i]? = some x → i < ops.size := fun {i x} h => by
    rcases Nat.lt_or_ge i ops.toList.length with h' | h'
    · simpa using h'
    · rw [List.getElem?_eq_none h'] at h; cases h
  have hjn := size_of hj
  intro t m hm h1 h2
  by_cases hw : writes o t = true
  · have hd : o.dst = some t := by
      unfold writes at hw
      split at hw
      · rename_i d hd; rw [hd, beq_eq' hw]
      · cases hw
    have hjm : j < m := by
      rcases Nat.lt_or_ge j m with h | h
      · exact h
      · exact absurd (.inl rfl) (h2 j o hj h hw)
    have htn : t ∈ named ops o := by simp [named, hd]
    have hsl := inv_slot hE hS hwf hD htmp hj hDj hr t htn
    have heq : (S m).1.get t = (S (j + 1)).1.get t := ds_tmp hS hwf (by omega) hm fun i h3 h4 x hx => by
      cases hwx : writes x t with
      | false => rfl
      | true =>
        exfalso
        rcases h1 i x hx h4 hwx with h5 | h5
        · omega
        · exact ord_behind hE hD hjn hDj (size_of hx) (by omega) (hE.ord j o t i x hj htn hx (by omega) hwx) h5
    refine SRel.congr ?_ heq
    rw [hT]
    exact srel_put (hsl.mono hext) hv
  · have hd : o.dst ≠ some t := fun hd => hw (by simp [writes, hd, beq_eq])
    have := htmp t m hm (fun i x hx hi hwx => by
      rcases h1 i x hx hi hwx with h | h
      · subst h; rw [hj] at hx; cases hx; exact absurd hwx hw
      · exact h) (fun i x hx hi hwx hDi => h2 i x hx hi hwx (.inr hDi))
    intro v' hv'
    obtain ⟨u', e1, e2⟩ := this v' hv'
    exact ⟨u', by rw [put_tmps, if_neg (fun h => hd h.1)]; exact e1, e2.mono hext⟩
theorem closed_step (hD : Closed ops D) {j : Nat} {o : Oper} (hj : ops.toList[j]? = some o) (hr : ∀ e ∈ edges o, D e.on) : Closed ops fun i => i = j ∨ D i := by
  intro i x e hx hi he
  rcases hi with rfl | hi
  · rw [hj] at hx; cases hx; exact .inr (hr e he)
  · exact .inr (hD i x e hx hi he)
theorem inv_step {R : Nat → Prop} (hF : ∀ j o, ops.toList[j]? = some o → laxAt ops j = true → FStep P ops R o (S j) (S (j + 1))) (hR : ∀ j, j < ops.size → ∀ b, R b → b < (S j).2.n → (S (j + 1)).2.t.get b = (S j).2.t.get b) (hfr : Fresh ρ₀ (S 0).2 (S ops.size).2) (inv : Inv P ops S ρ₀ w₀ D ρ a w) {j : Nat} {o : Oper} (hj : ops.toList[j]? = some o) (hDj : ¬ D j) (hr : ∀ e ∈ edges o, D e.on) {K : Act → World → Prop} {Q : Exit → Act → World → Prop}
    (hK : ∀ ρ' a' w', Inv P ops S ρ₀ w₀ (fun i => i = j ∨ D i) ρ' a' w' → a'.defers = a.defers → K a' w') : wpOp P ops Q j K a w := by
  have hjn : j < ops.size := by
    rcases Nat.lt_or_ge j ops.toList.length with h' | h'
    · simpa using h'
    · rw [List.getElem?_eq_none h'] at hj; cases hj
  have hjo : ops[j]? = some o := by simpa using hj
  have hslot := inv_slot hE hS hwf inv.closed inv.tmp hj hDj hr
  have hgs : ∀ g w d, o.guard = some (g, w) → (ops[g]?).bind (·.dst) = some d → SRel ρ (S j).1 a.tmps d := fun g w d hg hd => hslot d (by
    simp only [named, Oper.looksAt, hg, hd]
    simp)
  have hops : ∀ x ∈ o.op.operands, ORel ρ (S j).1 a x := fun x hx => orel_of fun t ht => hslot t (by
    subst ht
    simp only [named, Oper.looksAt]
    refine List.mem_append.2 (.inr (List.mem_append.2 (.inl ?_)))
    exact List.mem_filterMap.2 ⟨.tmp t, by simpa using hx, rfl⟩)
  obtain ⟨p, q, hpq, hqn, hp, hq, hst, hns, hgood, hnew⟩ := inv.seg
  have hp' : ∀ i, i < p → (i = j ∨ D i) ∨ laxAt ops i = true := fun i hi => (hp i hi).imp .inr id
  by_cases hfree : laxAt ops j = true
  · -- a step that leaves the memory alone
    have hq' : ∀ i, q ≤ i → i < ops.size → ¬ (i = j ∨ D i) ∨ laxAt ops i = true := fun i hi hin => by
      rcases hq i hi hin with h | h
      · by_cases hij : i = j
        · subst hij; exact .inr hfree
        · exact .inl fun hDi => hDi.elim hij h
      · exact .inr h
    obtain ⟨e2, b, v, hgd, eT, hcase⟩ := hF j o hj hfree
    unfold wpOp
    rw [hjo]
    dsimp only
    rw [hgd ρ a hgs]
    have hconst : ∀ i d, i + d ≤ ops.size → ∀ b, R b → b < (S i).2.n → (S (i + d)).2.t.get b = (S i).2.t.get b := by
      intro i d
      induction d with
      | zero => intro _ b _ _; rfl
      | succ d ih =>
        intro hi b hb hbn
        have hn := (ds_n hS hwf (i := i) (j := i + d) (by omega) (by omega)).1
        rw [show i + (d + 1) = i + d + 1 by omega, hR (i + d) (by omega) b hb (by omega)]
        exact ih (by omega) b hb hbn
    rcases hcase with ⟨rfl, rfl⟩ | ⟨rfl, G, hpart, hsim, hnam⟩
    · exact hK ρ _ w ⟨closed_step hE hS hwf inv.closed hj hr, inv_tmp hE hS hwf inv.closed inv.tmp hj hDj hr (fun _ _ h => h) .undef eT, ⟨p, q, hpq, hqn, hp', hq', hst, hns, hgood, hnew⟩, (fun b e hb => by
        rcases inv.dom b e hb with h | ⟨h, i, hi, hDi, h1, h2⟩
        · exact .inl h
        · exact .inr ⟨h, i, hi, .inr hDi, h1, h2⟩), inv.ext, inv.os, inv.tape, inv.output, inv.size, inv.frame⟩ (put_defers _ _ _)
    · simp only [if_true]
      have hpq2 : Part G (S q).2 R := ⟨hpart.lo, hpart.wf, fun b o' h hd => by
        obtain ⟨h1, h2⟩ := hpart.sub b o' h hd
        refine ⟨h1, ?_⟩
        have hbj := hwf j (by omega) b o' h2
        rcases Nat.lt_or_ge q j with hqj | hqj
        · -- the block was made by an operation that is done
          obtain ⟨e, he⟩ := hnam ρ a hops b o' h hd
          have hbq : b < (S q).2.n := by
            rcases inv.dom b e he with h3 | ⟨_, i, hi, hDi, h3, h4⟩
            · have hn0 := (ds_n hS hwf (Nat.zero_le q) hqn).1
              have hnj := (ds_n hS hwf (i := j) (j := ops.size) (by omega) (Nat.le_refl _)).1
              rcases Nat.lt_or_ge b (S 0).2.n with h5 | h5
              · omega
              · have := hfr b h5 (by omega)
                rw [this] at h3; cases h3
            · rcases Nat.lt_or_ge i q with h5 | h5
              · have := (ds_n hS hwf (i := i + 1) (j := q) (by omega) hqn).1
                omega
              · rcases hq i h5 hi with hx | hx
                · exact absurd hDi hx
                · exfalso
                  have his : i < ops.toList.length := by simpa using hi
                  have := (hF i _ (List.getElem?_eq_getElem his) hx).1
                  rw [this] at h4
                  omega
          have := hconst q (j - q) (by omega) b h1 hbq
          rw [show q + (j - q) = j by omega] at this
          rw [← this]; exact h2
        · have := hconst j (q - j) (by omega) b h1 hbj
          rw [show j + (q - j) = q by omega] at this
          rw [this]; exact h2⟩
      refine .inl (hsim ρ a w K Q hops (part_good hpq2 hgood) (fun b h1 h2 => absurd h2 (Nat.not_lt.2 h1)) fun ρ' w' u s hv => ?_)
      obtain ⟨hsame, hback, s2⟩ := stp_part hpart.lo s hgood
      exact hK ρ' _ w' ⟨closed_step hE hS hwf inv.closed hj hr, inv_tmp hE hS hwf inv.closed inv.tmp hj hDj hr s.ext hv eT, ⟨p, q, hpq, hqn, hp', hq', hst, hns, s2.good, fun b e o' h1 h2 h3 h4 => hnew b e o' h1 (hback b e h2) h3 h4⟩, (fun b e hb => by
        rcases inv.dom b e (hback b e hb) with h | ⟨h, i, hi, hDi, h1, h2⟩
        · exact .inl h
        · exact .inr ⟨h, i, hi, .inr hDi, h1, h2⟩), (fun b e h => s.ext b e (inv.ext b e h)), s.os.trans inv.os, s.tape.trans inv.tape, s.output.trans inv.output, Nat.le_trans inv.size s.size, (fun B hB => by
        rcases inv.frame B hB with h' | h'
        · exact .inl ((hsame B (Nat.lt_of_lt_of_le hB inv.size)).trans h')
        · exact .inr h')⟩ (put_defers _ _ _)
  have hnf : laxAt ops j = false := by simpa using hfree
  -- where j stands
  have hjq : j ≤ q := by
    rcases Nat.lt_or_ge q j with h | h
    · exfalso
      rcases pivot_ord (hns (by omega)).1 j hjn (by omega) with this | this
      · unfold orderedIn at this
        rw [if_neg (by omega)] at this
        rcases hq q (Nat.le_refl _) (by omega) with hx | hx
        · exact hx (ready_anc hE inv.closed hj hr q (by omega) this)
        · rw [(hns (by omega)).2.1] at hx; cases hx
      · exact hfree this
    · exact h
  have hpj : p ≤ j := by
    rcases Nat.lt_or_ge j p with h | h
    · rcases hp j h with hx | hx
      · exact absurd hx hDj
      · exact absurd hx hfree
    · exact h
  have hqstill : ∀ b, b < (S j).2.n → (S q).2.t.get b = (S j).2.t.get b := ds_still hS hwf hjq hqn (fun m h1 h2 => (hst m (by omega) h2).still)
  have hqget : ∀ b o', (S j).2.t.get b = some o' → (S q).2.t.get b = some o' := fun b o' h => by
    rw [hqstill b (hwf j (by omega) b o' h)]; exact h
  have hgj : Good P ρ ⟨(S j).2.t, (S j).2.n, (S j).2.n⟩ w := hgood.sub hqget
  have hnle : (S 0).2.n ≤ (S j).2.n := (ds_n hS hwf (Nat.zero_le j) (by omega)).1
  have hn1 : (S (j + 1)).2.n ≤ (S ops.size).2.n := (ds_n hS hwf (by omega : j + 1 ≤ ops.size) (Nat.le_refl _)).1
  have hlo1 : (S ops.size).2.lo ≤ (S (j + 1)).2.lo := (ds_n hS hwf (by omega : j + 1 ≤ ops.size) (Nat.le_refl _)).2
  -- whose numbers are taken
  have hidx : ∀ b e, ρ b = some e → ρ₀ b = some e ∨ b < (S j).2.n ∨ (S (j + 1)).2.n ≤ b := fun b e hb => by
    rcases inv.dom b e hb with h | ⟨h, i, hi, hDi, h1, h2⟩
    · exact .inl h
    · have hij : i ≠ j := fun h => hDj (h ▸ hDi)
      rcases Nat.lt_or_ge i j with h3 | h3
      · have := (ds_n hS hwf (i := i + 1) (j := j) (by omega) (by omega)).1
        exact .inr (.inl (by omega))
      · have := (ds_n hS hwf (i := j + 1) (j := i) (by omega) (by omega)).1
        exact .inr (.inr (by omega))
  have h0idx : ∀ b e, ρ₀ b = some e → b < (S 0).2.n ∨ (S ops.size).2.n ≤ b := fun b e hb => by
    rcases Nat.lt_or_ge b (S 0).2.n with h | h
    · exact .inl h
    · rcases Nat.lt_or_ge b (S ops.size).2.n with h' | h'
      · have := hfr b h h'
        rw [this] at hb; cases hb
      · exact .inr h'
  have hfj : ∀ b, (S j).2.n ≤ b → b < (S (j + 1)).2.n → ρ b = none := fun b hb1 hb2 => by
    cases hb : ρ b with
    | none => rfl
    | some e =>
      exfalso
      rcases hidx b e hb with h | h | h
      · rcases h0idx b e h with h' | h' <;> omega
      · omega
      · omega
  have hdom' : ∀ (ρ' : Ren), (∀ b e, ρ' b = some e → ρ b = some e ∨ (ρ b = none ∧ (S j).2.n ≤ b ∧ b < (S (j + 1)).2.n)) → ∀ b e, ρ' b = some e → ρ₀ b = some e ∨ (ρ₀ b = none ∧ ∃ i, i < ops.size ∧ (i = j ∨ D i) ∧ (S i).2.n ≤ b ∧ b < (S (i + 1)).2.n) := fun ρ' hd b e hb => by
    rcases hd b e hb with h | ⟨h, h1, h2⟩
    · rcases inv.dom b e h with h | ⟨h, i, hi, hDi, h1, h2⟩
      · exact .inl h
      · exact .inr ⟨h, i, hi, .inr hDi, h1, h2⟩
    · refine .inr ⟨?_, j, hjn, .inl rfl, h1, h2⟩
      cases h0 : ρ₀ b with
      | none => rfl
      | some e' => rw [inv.ext b e' h0] at h; cases h
  unfold wpOp
  rw [hjo]
  dsimp only
  rcases Nat.lt_or_ge j q with hlt | hge
  · -- a quiet step
    have hq' : ∀ i, q ≤ i → i < ops.size → ¬ (i = j ∨ D i) ∨ laxAt ops i = true := fun i hi hin => by
      rcases hq i hi hin with h | h
      · exact .inl fun hDi => hDi.elim (fun hij => by omega) h
      · exact .inr h
    obtain ⟨o', hj', hcase⟩ := hst j hpj hlt
    rw [hj] at hj'; cases hj'
    rcases hcase with ⟨hgd, eT, eH⟩ | ⟨hgd, v, H', k1, k2, hsim, eT, e1, e2, e3⟩
    · rw [hgd ρ a hgs]
      exact hK ρ _ w ⟨closed_step hE hS hwf inv.closed hj hr, inv_tmp hE hS hwf inv.closed inv.tmp hj hDj hr (fun _ _ h => h) .undef eT, ⟨p, q, hpq, hqn, hp', hq', hst, hns, hgood, hnew⟩, hdom' ρ (fun b e h => .inl h), inv.ext, inv.os, inv.tape, inv.output, inv.size, inv.frame⟩ (put_defers _ _ _)
    · rw [hgd ρ a hgs]
      simp only [if_true]
      refine .inl (hsim ρ a w K Q hops hgj (fun b h1 h2 => hfj b h1 (by rw [e2]; exact h2)) fun ρ' w' u s hv => ?_)
      have hnomod : ∀ B, B < w.heap.size → w'.heap[B]? = w.heap[B]? := fun B hB => by
        rcases s.frame B hB with h | ⟨b, e, o', h1, h2, h3, h4, h5, h6⟩
        · exact h
        · exfalso
          have h4' : b < (S j).2.n := h4
          omega
      have hnewB : ∀ b e o', ρ b = none → ρ' b = some e → (S (j + 1)).2.t.get b = some o' → o' ≠ .dead → w.heap.size ≤ e.B := fun b e o' h1 h2 h3 h4 => by
        rw [e1] at h3
        rcases s.new b e o' h1 h2 h3 h4 with h | ⟨b₀, e₀, o₀, p1, p2, p3, p4, p5, p6⟩
        · exact h
        · exfalso
          have p4' : b₀ < (S j).2.n := p4
          omega
      have hq1 : ∀ b, b < (S (j + 1)).2.n → (S q).2.t.get b = (S (j + 1)).2.t.get b := ds_still hS hwf hlt hqn (fun m h1 h2 => (hst m (by omega) h2).still)
      have hnewidx : ∀ b e, ρ' b = some e → ρ b = none → (S j).2.n ≤ b ∧ b < (S (j + 1)).2.n := fun b e h1 h2 => by
        rcases s.dom b e h1 with h | ⟨_, h3, h4⟩
        · rw [h2] at h; cases h
        · exact ⟨h3, by rw [e2]; exact h4⟩
      have hgj1 : ∀ b o', ρ b = none → ∀ e, ρ' b = some e → (S q).2.t.get b = some o' → H'.t.get b = some o' := fun b o' h1 e h2 h3 => by
        rw [← e1, ← hq1 b (hnewidx b e h2 h1).2]; exact h3
      have hgood' : Good P ρ' (S q).2 w' := by
        refine ⟨fun b o' e hb he => ?_, fun b₁ b₂ o₁ o₂ e₁ e₂ g1 d1 r1 g2 d2 r2 hB => ?_, fun b e o' hb hdd he => ?_⟩
        · cases hb0 : ρ b with
          | some e' =>
            have := s.ext b e' hb0
            rw [he] at this; cases this
            by_cases hdd : o' = .dead
            · subst hdd; trivial
            · exact (hgood.rel b o' e hb hb0).mono s.ext (hnomod _ (hgood.bnd b e o' hb hdd hb0))
          | none => exact s.good.rel b o' e (hgj1 b o' hb0 e he hb) he
        · cases h1 : ρ b₁ with
          | some x₁ =>
            have q1 := s.ext b₁ x₁ h1
            rw [r1] at q1; cases q1
            cases h2 : ρ b₂ with
            | some x₂ =>
              have q2 := s.ext b₂ x₂ h2
              rw [r2] at q2; cases q2
              exact hgood.inj b₁ b₂ o₁ o₂ e₁ e₂ g1 d1 h1 g2 d2 h2 hB
            | none =>
              exfalso
              have := hnewB b₂ e₂ o₂ h2 r2 (by rw [e1]; exact hgj1 b₂ o₂ h2 e₂ r2 g2) d2
              have := hgood.bnd b₁ e₁ o₁ g1 d1 h1
              omega
          | none =>
            have a1 := hgj1 b₁ o₁ h1 e₁ r1 g1
            cases h2 : ρ b₂ with
            | some x₂ =>
              exfalso
              have q2 := s.ext b₂ x₂ h2
              rw [r2] at q2; cases q2
              have := hnewB b₁ e₁ o₁ h1 r1 (by rw [e1]; exact a1) d1
              have := hgood.bnd b₂ e₂ o₂ g2 d2 h2
              omega
            | none => exact s.good.inj b₁ b₂ o₁ o₂ e₁ e₂ a1 d1 r1 (hgj1 b₂ o₂ h2 e₂ r2 g2) d2 r2 hB
        · cases hb0 : ρ b with
          | some e' =>
            have := s.ext b e' hb0
            rw [he] at this; cases this
            exact Nat.lt_of_lt_of_le (hgood.bnd b e o' hb hdd hb0) s.size
          | none => exact s.good.bnd b e o' (hgj1 b o' hb0 e he hb) hdd he
      refine hK ρ' _ w' ⟨closed_step hE hS hwf inv.closed hj hr, inv_tmp hE hS hwf inv.closed inv.tmp hj hDj hr s.ext hv eT, ⟨p, q, hpq, hqn, hp', hq', hst, hns, hgood', fun b e o' h0 h1 h2 h3 => ?_⟩, hdom' ρ' (fun b e hb => ?_), fun b e h => s.ext b e (inv.ext b e h), s.os.trans inv.os, s.tape.trans inv.tape, s.output.trans inv.output, Nat.le_trans inv.size s.size, fun B hB => ?_⟩ (put_defers _ _ _)
      · cases hb0 : ρ b with
        | some e' =>
          have := s.ext b e' hb0
          rw [h1] at this; cases this
          exact hnew b e o' h0 hb0 h2 h3
        | none =>
          have := hnewB b e o' hb0 h1 (by rw [e1]; exact hgj1 b o' hb0 e h1 h2) h3
          exact .inl (Nat.le_trans inv.size this)
      · rcases s.dom b e hb with h | ⟨h, h1, h2⟩
        · exact .inl h
        · exact .inr ⟨h, h1, by rw [e2]; exact h2⟩
      · rcases inv.frame B hB with h | h
        · exact .inl ((hnomod B (Nat.lt_of_lt_of_le hB inv.size)).trans h)
        · exact .inr h
  · -- a loud step: all before it is done
    have hjq2 : j = q := by omega
    subst hjq2
    obtain ⟨hpv, _, o', hj', hgd, v, H', k1, k2, hsim, eT, e1, e2, e3⟩ := hns hjn
    rw [hj] at hj'; cases hj'
    have hall : ∀ i, i < j → D i ∨ laxAt ops i = true := fun i hi => by
      rcases pivot_ord hpv i (by omega) (by omega) with this | this
      · exact .inl (ord_before hE inv.closed hj hr (by omega) hi this)
      · exact .inr this
    rw [hgd ρ a hgs]
    simp only [if_true]
    refine .inl (hsim ρ a w K Q hops hgj (fun b h1 h2 => hfj b h1 (by rw [e2]; exact h2)) fun ρ' w' u s hv => ?_)
    obtain ⟨q', h1q, h2q, h3q, h4q⟩ := next_loud hS hF hwf (ops.size - (j + 1)) (j + 1) rfl (by omega)
    have hloj : (S ops.size).2.lo ≤ H'.lo := Nat.le_trans hlo1 (by rw [e3]; exact lowr_right _ _)
    have hq1 : ∀ b, b < (S (j + 1)).2.n → (S q').2.t.get b = (S (j + 1)).2.t.get b := ds_still hS hwf h1q h2q (fun m h1 h2 => (h3q m h1 h2).still)
    have hidx' : ∀ b e o', ρ' b = some e → (S q').2.t.get b = some o' → b < (S (j + 1)).2.n := fun b e o' hb hg => by
      have hbq := hwf q' h2q b o' hg
      have hqn' := (ds_n hS hwf h2q (Nat.le_refl _)).1
      rcases s.dom b e hb with h | ⟨_, _, h⟩
      · rcases inv.dom b e h with h | ⟨h, i, hi, hDi, h1, h2⟩
        · have := h0idx b e h
          have hn0 := (ds_n hS hwf (Nat.zero_le (j + 1)) (by omega : j + 1 ≤ ops.size)).1
          omega
        · have hij : i < j := by
            rcases Nat.lt_or_ge i j with h3 | h3
            · exact h3
            · rcases hq i h3 hi with hx | hx
              · exact absurd hDi hx
              · exfalso
                have his : i < ops.toList.length := by simpa using hi
                have := (hF i _ (List.getElem?_eq_getElem his) hx).1
                rw [this] at h2
                omega
          have := (ds_n hS hwf (i := i + 1) (j := j + 1) (by omega) (by omega)).1
          omega
      · rw [e2]; exact h
    have hget' : ∀ b e o', ρ' b = some e → (S q').2.t.get b = some o' → H'.t.get b = some o' := fun b e o' hb hg => by
      rw [← e1, ← hq1 b (hidx' b e o' hb hg)]; exact hg
    have hgood' : Good P ρ' (S q').2 w' :=
      ⟨fun b o' e hb he => s.good.rel b o' e (hget' b e o' he hb) he, fun b₁ b₂ o₁ o₂ e₁ e₂ g1 d1 r1 g2 d2 r2 hB => s.good.inj b₁ b₂ o₁ o₂ e₁ e₂ (hget' b₁ e₁ o₁ r1 g1) d1 r1 (hget' b₂ e₂ o₂ r2 g2) d2 r2 hB, fun b e o' hb hdd he => s.good.bnd b e o' (hget' b e o' he hb) hdd he⟩
    -- a block that was there when the region began, or one that came of it
    have step1 : ∀ b e o', ρ b = some e → H'.lo ≤ b → b < (S j).2.n → (S j).2.t.get b = some o' → o' ≠ .dead →
        w₀.heap.size ≤ e.B ∨ ∃ b₀ e₀ o₀, ρ₀ b₀ = some e₀ ∧ e₀.B = e.B ∧ (S ops.size).2.lo ≤ b₀ ∧ b₀ < (S 0).2.n ∧ (S 0).2.t.get b₀ = some o₀ ∧ o₀ ≠ .dead := by
      intro b e o' h1 h2 h3 h4 h5
      cases h0 : ρ₀ b with
      | none => exact hnew b e o' h0 h1 h4 h5
      | some e₀ =>
        have := inv.ext b e₀ h0
        rw [h1] at this; cases this
        have hb0 : b < (S 0).2.n := by
          have hnj := (ds_n hS hwf (i := j) (j := ops.size) (by omega) (Nat.le_refl _)).1
          rcases h0idx b e h0 with h | h
          · exact h
          · omega
        obtain ⟨o₀, g0, d0⟩ := ds_live hS hwf (Nat.zero_le j) (by omega) b o' hb0 h4 h5
        exact .inr ⟨b, e, o₀, h0, rfl, by omega, hb0, g0, d0⟩
    refine hK ρ' _ w' ⟨closed_step hE hS hwf inv.closed hj hr, inv_tmp hE hS hwf inv.closed inv.tmp hj hDj hr s.ext hv eT, ⟨j + 1, q', h1q, h2q, fun i hi => ?_, fun i hi hin => ?_, h3q, h4q, hgood', fun b e o' h0 h1 h2 h3 => ?_⟩, hdom' ρ' (fun b e hb => ?_), fun b e h => s.ext b e (inv.ext b e h), s.os.trans inv.os, s.tape.trans inv.tape, s.output.trans inv.output, Nat.le_trans inv.size s.size, fun B hB => ?_⟩ (put_defers _ _ _)
    · by_cases h : i = j
      · exact .inl (.inl h)
      · exact (hall i (by omega)).imp .inr id
    · rcases hq i (by omega) hin with h | h
      · exact .inl fun hDi => hDi.elim (fun hij => by omega) h
      · exact .inr h
    · have hg' := hget' b e o' h1 h2
      cases hb0 : ρ b with
      | none =>
        rcases s.new b e o' hb0 h1 hg' h3 with h | ⟨b₀, e₀, o₀, p1, p2, p3, p4, p5, p6⟩
        · exact .inl (Nat.le_trans inv.size h)
        · rcases step1 b₀ e₀ o₀ p1 p3 p4 p5 p6 with h | ⟨b', e', o'', q1, q2, q3⟩
          · exact .inl (p2 ▸ h)
          · exact .inr ⟨b', e', o'', q1, q2.trans p2, q3⟩
      | some e' =>
        have := s.ext b e' hb0
        rw [h1] at this; cases this
        have hbj : b < (S j).2.n := by
          have := hidx' b e o' h1 h2
          rcases hidx b e hb0 with h | h | h
          · rw [h0] at h; cases h
          · exact h
          · omega
        obtain ⟨o₁, g1, d1⟩ := k1.live b o' hbj hg' h3
        exact hnew b e o₁ h0 hb0 g1 d1
    · rcases s.dom b e hb with h | ⟨h, h1, h2⟩
      · exact .inl h
      · exact .inr ⟨h, h1, by rw [e2]; exact h2⟩
    · rcases s.frame B (Nat.lt_of_lt_of_le hB inv.size) with h | ⟨b, e, o', h1, h2, h3, h4, h5, h6⟩
      · rcases inv.frame B hB with h' | h'
        · exact .inl (h.trans h')
        · exact .inr h'
      · rcases step1 b e o' h1 h3 h4 h5 h6 with h | ⟨b', e', o'', q1, q2, q3⟩
        · omega
        · exact .inr ⟨b', e', o'', q1, q2.trans h2, q3⟩
end step
end
end Go.Abs
set_option linter.unusedVariables false
set_option linter.unusedSimpArgs false
namespace Go.Abs
open Go.RowKit
variable [TokEnv]
section
variable {P : Program} {ops : Array Oper} {S : Nat → Tr Value × Hp}
theorem bindsAny_eq (e : Edge) : bindsAny e = Region.binds .any e := by
  unfold bindsAny Region.binds
  cases e.ground <;> rfl
theorem ready_mem {listed : Array Bool} {i : Nat} (h : i ∈ Region.ready .any ops listed) : ∃ o, ops.toList[i]? = some o ∧ listed.getD i true = false ∧ ∀ e ∈ edges o, listed.getD e.on false = true := by
  unfold Region.ready at h
  obtain ⟨h1, h2⟩ := List.mem_filter.1 h
  have hi : i < ops.size := by simpa using h1
  simp only [Bool.and_eq_true, Bool.not_eq_true'] at h2
  obtain ⟨h3, h4⟩ := h2
  refine ⟨ops[i], by simp [hi], h3, fun e he => ?_⟩
  simp only [Array.getElem?_eq_getElem hi, Option.map_some, Option.getD_some] at h4
  obtain ⟨m1, m2⟩ := List.mem_filter.1 he
  have := Array.all_eq_true_iff_forall_mem.1 h4 e (by simpa using m1)
  rw [← bindsAny_eq, m2] at this
  simpa using this
theorem mem_ready {listed : Array Bool} {i : Nat} {o : Oper} (ho : ops.toList[i]? = some o) (h1 : listed.getD i true = false) (h2 : ∀ e ∈ edges o, listed.getD e.on false = true) : i ∈ Region.ready .any ops listed := by
  have hi : i < ops.size := by
    rcases Nat.lt_or_ge i ops.toList.length with h' | h'
    · simpa using h'
    · rw [List.getElem?_eq_none h'] at ho; cases ho
  have hoo : ops[i]? = some o := by simpa using ho
  unfold Region.ready
  refine List.mem_filter.2 ⟨by simpa using hi, ?_⟩
  simp only [Bool.and_eq_true, Bool.not_eq_true']
  refine ⟨h1, ?_⟩
  simp only [hoo, Option.map_some, Option.getD_some]
  refine Array.all_eq_true_iff_forall_mem.2 fun e he => ?_
  rw [← bindsAny_eq]
  cases hb : bindsAny e with
  | false => rfl
  | true =>
    have := h2 e (List.mem_filter.2 ⟨by simpa using he, hb⟩)
    simpa using this
theorem any_of_inv (hE : Edges ops) (hS : ∀ j o, ops.toList[j]? = some o → DStep P ops j o (S j) (S (j + 1))) {R : Nat → Prop} (hF : ∀ j o, ops.toList[j]? = some o → laxAt ops j = true → FStep P ops R o (S j) (S (j + 1))) (hR : ∀ j, j < ops.size → ∀ b, R b → b < (S j).2.n → (S (j + 1)).2.t.get b = (S j).2.t.get b) (hwf : ∀ j, j ≤ ops.size → (S j).2.WF) {ρ₀ : Ren} {w₀ : World} (hfr : Fresh ρ₀ (S 0).2 (S ops.size).2) {Q : Exit → Act → World → Prop} {ds : List Deferred}
    (hQ : ∀ (ρ' : Ren) (a' : Act) (w' : World), Stp P ρ₀ (S 0).2 w₀ ρ' (S ops.size).2 w' → TRel ρ' (S ops.size).1 a'.tmps → a'.defers = ds → Q .normal a' w') :
    ∀ (fuel : Nat) (listed : Array Bool) (l : List Nat) (ρ : Ren) (a : Act) (w : World), listed.size = ops.size → l.length ≤ fuel → (∀ i, i < ops.size → listed.getD i true = false → i ∈ l) → a.defers = ds →
      Inv P ops S ρ₀ w₀ (fun i => listed.getD i false = true) ρ a w → wpAny P .any ops Q fuel listed a w := by
  -- nothing is ready: all is done
  have fin : ∀ (listed : Array Bool) (ρ : Ren) (a : Act) (w : World), listed.size = ops.size → a.defers = ds → Inv P ops S ρ₀ w₀ (fun i => listed.getD i false = true) ρ a w → Region.ready .any ops listed = [] → Q .normal a w := by
    intro listed ρ a w hsz hds inv hrd
    have hall : ∀ i, i < ops.size → listed.getD i false = true := by
      intro i
      induction i using Nat.strongRecOn with
      | _ i ih =>
        intro hi
        have his : i < ops.toList.length := by simpa using hi
        cases hb : listed.getD i false with
        | true => rfl
        | false =>
          exfalso
          have hlt : i < listed.size := by omega
          have : i ∈ Region.ready .any ops listed := mem_ready (List.getElem?_eq_getElem his) (by simpa [Array.getD_eq_getD_getElem?, hlt] using hb) fun e he => by
            have := hE.lt i _ e (List.getElem?_eq_getElem his) he
            exact ih e.on this (by omega)
          rw [hrd] at this
          cases this
    obtain ⟨p, q, hpq, hqn, hp, hq, hst, hns, hgood, hnew⟩ := inv.seg
    have hqe : q = ops.size := by
      rcases Nat.lt_or_ge q ops.size with h | h
      · rcases hq q (Nat.le_refl _) h with hx | hx
        · exact absurd (hall q h) hx
        · rw [(hns h).2.1] at hx; cases hx
      · omega
    subst hqe
    refine hQ ρ a w ⟨inv.ext, fun b e hb => ?_, hgood, inv.os, inv.tape, inv.output, inv.size, inv.frame, hnew⟩ (trel_iff.2 fun t => inv.tmp t ops.size (Nat.le_refl _) (fun i x hx _ _ => hall i ?_) fun i x hx hi _ => ?_) hds
    · rcases inv.dom b e hb with h | ⟨h, i, hi, _, h1, h2⟩
      · exact .inl h
      · refine .inr ⟨h, ?_, ?_⟩
        · have := (ds_n hS hwf (Nat.zero_le i) (by omega)).1
          omega
        · have := (ds_n hS hwf (i := i + 1) (j := ops.size) (by omega) (Nat.le_refl _)).1
          omega
    · rcases Nat.lt_or_ge i ops.toList.length with h' | h'
      · simpa using h'
      · rw [List.getElem?_eq_none h'] at hx; cases hx
    · exfalso
      rw [List.getElem?_eq_none (by simpa using hi)] at hx; cases hx
  intro fuel
  induction fuel with
  | zero =>
    intro listed l ρ a w hsz hl hmem hds inv
    have hl0 : l = [] := List.eq_nil_of_length_eq_zero (by omega)
    have hrd : Region.ready .any ops listed = [] := by
      apply List.eq_nil_iff_forall_not_mem.2
      intro i hi
      obtain ⟨o, ho, h1, _⟩ := ready_mem hi
      have hin : i < ops.size := by
        rcases Nat.lt_or_ge i ops.toList.length with h' | h'
        · simpa using h'
        · rw [List.getElem?_eq_none h'] at ho; cases ho
      have := hmem i hin h1
      rw [hl0] at this
      cases this
    exact ⟨hrd, fin listed ρ a w hsz hds inv hrd⟩
  | succ fuel ih =>
    intro listed l ρ a w hsz hl hmem hds inv
    refine ⟨fin listed ρ a w hsz hds inv, fun i hi => ?_⟩
    obtain ⟨o, ho, h1, h2⟩ := ready_mem hi
    have hin : i < ops.size := by
      rcases Nat.lt_or_ge i ops.toList.length with h' | h'
      · simpa using h'
      · rw [List.getElem?_eq_none h'] at ho; cases ho
    have hlt : i < listed.size := by omega
    have hDi : ¬ (listed.getD i false = true) := by
      intro h
      simp [Array.getD_eq_getD_getElem?, hlt] at h h1
      rw [h] at h1; cases h1
    refine inv_step hE hS hwf hF hR hfr inv ho hDi (fun e he => h2 e he) fun ρ' a' w' inv' hds' => ?_
    have hD : (fun k => k = i ∨ listed.getD k false = true) = fun k => (listed.setIfInBounds i true).getD k false = true := by
      funext k
      apply propext
      simp only [Array.getD_eq_getD_getElem?]
      by_cases hk : k = i
      · subst hk
        simp [hlt]
      · rw [Array.getElem?_setIfInBounds_ne (fun h => hk h.symm)]
        simp [hk]
    rw [hD] at inv'
    refine ih (listed.setIfInBounds i true) (l.erase i) ρ' a' w' (by simpa using hsz) ?_ (fun k hk hkf => ?_) (hds'.trans hds) inv'
    · have := List.length_erase_of_mem (hmem i hin h1)
      omega
    · have hki : k ≠ i := fun h => by
        subst h
        simp [Array.getD_eq_getD_getElem?, hlt] at hkf
      refine (List.mem_erase_of_ne hki).2 (hmem k hk ?_)
      simp only [Array.getD_eq_getD_getElem?] at hkf ⊢
      rwa [Array.getElem?_setIfInBounds_ne (fun h => hki h.symm)] at hkf
theorem drew_good {ρ : Ren} {H : Hp} {w : World} (hg : Good P ρ H w) : Good P ρ H w.drew :=
  ⟨fun b o e h1 h2 => (hg.rel b o e h1 h2).mono (fun _ _ h => h) rfl, hg.inj, hg.bnd⟩
theorem stp_drew {ρ ρ' : Ren} {H H' : Hp} {w w' : World} (s : Stp P ρ H w.drew ρ' H' w') : Stp P ρ H w ρ' H' w' :=
  ⟨s.ext, s.dom, s.good, s.os, s.tape, s.output, s.size, s.frame, s.new⟩
theorem draw_ok (hm : P.follows .mixedOrders = true) {callA : FuncId → List Value → Hp → (Value → Hp → Ans) → Ans} (hcall : CallOk P callA) {T : Tr Value} {H : Hp} {k : Tr Value → Hp → Ans} {V : Value} {HH : Hp} (hw : H.WF) (hd : drawOk ops = true) (h : opsDA P callA ops ops.toList 0 [] [] farOff T H k = .ok V HH) :
    ∃ T' H', HStep H H' ∧ H'.WF ∧ k T' H' = .ok V HH ∧ ∀ (ρ : Ren) (a : Act) (w : World) (Q : Exit → Act → World → Prop) (id : Nat), TRel ρ T a.tmps → Good P ρ H w → Fresh ρ H H' →
      (∀ ρ' a' w', Stp P ρ H w ρ' H' w' → TRel ρ' T' a'.tmps → a'.defers = a.defers → Q .normal a' w') → (Code.region id ops true).wp P Q a w := by
  obtain ⟨S, R, s0, s1, s2, s3, _, _, hR, hF0⟩ := opsDA_trace hcall hw (fun j => by rw [Nat.zero_add]) h
  have hF : ∀ j o, ops.toList[j]? = some o → laxAt ops j = true → FStep P ops R o (S j) (S (j + 1)) := fun j o hj hl => hF0 j o hj (by rw [Nat.zero_add]; exact hl)
  have hlen : ops.toList.length = ops.size := by simp
  rw [hlen] at s1 s2 hR
  have hS : ∀ j o, ops.toList[j]? = some o → DStep P ops j o (S j) (S (j + 1)) := fun j o hj => by
    have := s3 j o hj
    rwa [Nat.zero_add] at this
  have hE := edges_of hd
  have hwh := ds_whole hS s2
  have e1 : (S 0).1 = T := by rw [s0]
  have e2 : (S 0).2 = H := by rw [s0]
  refine ⟨_, _, by rw [← e2]; exact hwh, s2 _ (Nat.le_refl _), s1, fun ρ a w Q id ht hg hf hq => ?_⟩
  refine wp_region_any hm ?_
  show wpAny P .any ops Q ops.size (Array.replicate ops.size false) a w.drew
  obtain ⟨q, h1q, h2q, h3q, h4q⟩ := next_loud hS hF s2 (ops.size - 0) 0 rfl (Nat.zero_le _)
  have hfr : Fresh ρ (S 0).2 (S ops.size).2 := by rw [e2]; exact hf
  have hg' : Good P ρ (S 0).2 w.drew := by rw [e2]; exact drew_good hg
  have hq0 : ∀ b, b < (S 0).2.n → (S q).2.t.get b = (S 0).2.t.get b := ds_still hS s2 h1q h2q (fun m h1 h2 => (h3q m h1 h2).still)
  have hidx : ∀ b e o, ρ b = some e → (S q).2.t.get b = some o → b < (S 0).2.n := fun b e o hb hgt => by
    have hbq := s2 q h2q b o hgt
    have hqn := (ds_n hS s2 h2q (Nat.le_refl _)).1
    rcases Nat.lt_or_ge b (S 0).2.n with h | h
    · exact h
    · have := hfr b h (by omega)
      rw [this] at hb; cases hb
  have hgq : Good P ρ (S q).2 w.drew := by
    refine ⟨fun b o e hb he => hg'.rel b o e ?_ he, fun b₁ b₂ o₁ o₂ e₁ e₂ g1 d1 r1 g2 d2 r2 hB => hg'.inj b₁ b₂ o₁ o₂ e₁ e₂ ?_ d1 r1 ?_ d2 r2 hB, fun b e o hb hdd he => hg'.bnd b e o ?_ hdd he⟩
    · rw [← hq0 b (hidx b e o he hb)]; exact hb
    · rw [← hq0 b₁ (hidx b₁ e₁ o₁ r1 g1)]; exact g1
    · rw [← hq0 b₂ (hidx b₂ e₂ o₂ r2 g2)]; exact g2
    · rw [← hq0 b (hidx b e o he hb)]; exact hb
  refine any_of_inv (S := S) hE hS hF hR s2 (ρ₀ := ρ) (w₀ := w.drew) hfr (ds := a.defers) (fun ρ' a' w' s t d => ?_) ops.size _ (List.range ops.size) ρ a w.drew (by simp) (by simp) (fun i hi _ => by simpa using hi) rfl ?_
  · rw [e2] at s
    exact hq ρ' a' w' (stp_drew s) t d
  · have hnone : ∀ i, ¬ ((Array.replicate ops.size false).getD i false = true) := fun i => by
      simp only [Array.getD_eq_getD_getElem?]
      by_cases hi : i < ops.size
      · simp [hi]
      · simp [hi]
    refine ⟨fun i o e _ h _ => absurd h (hnone i), fun t m hm' h1 h2 => ?_, ⟨0, q, h1q, h2q, fun i hi => by omega, fun i _ _ => .inl (hnone i), h3q, h4q, hgq, fun b e o h h' => by rw [h] at h'; cases h'⟩, fun b e hb => .inl hb, fun b e hb => hb, rfl, rfl, rfl, Nat.le_refl _, fun B _ => .inl rfl⟩
    refine SRel.congr (T := (S 0).1) (by rw [e1]; exact trel_iff.1 ht t) (ds_tmp hS s2 (Nat.zero_le m) hm' fun i _ hi x hx => ?_)
    cases hwx : writes x t with
    | false => rfl
    | true => exact absurd (h1 i x hx hi hwx) (hnone i)
end
end Go.Abs
set_option linter.unusedVariables false
set_option linter.unusedSimpArgs false
set_option linter.unusedSectionVars false
namespace Go.Abs
open Go.RowKit
variable [TokEnv]
def AExit.to : AExit → Exit
  | .normal => .normal
  | .ret => .ret
  | .exit id => .exit id
def CodeSim (P : Program) (c : Code) (T : Tr Value) (H : Hp) (e : AExit) (T' : Tr Value) (H' : Hp) : Prop :=
  ∀ (ρ : Ren) (a : Act) (w : World) (Q : Exit → Act → World → Prop), TRel ρ T a.tmps → a.defers = [] → Good P ρ H w → Fresh ρ H H' →
    (∀ ρ' a' w', Stp P ρ H w ρ' H' w' → TRel ρ' T' a'.tmps → a'.defers = [] → Q e.to a' w') → c.wp P Q a w
def LoopSim (P : Program) (n : Nat) (c : Code) (T : Tr Value) (H : Hp) (e : AExit) (T' : Tr Value) (H' : Hp) : Prop :=
  ∀ (ρ : Ren) (a : Act) (w : World) (Q : Exit → Act → World → Prop), TRel ρ T a.tmps → a.defers = [] → Good P ρ H w → Fresh ρ H H' →
    (∀ ρ' a' w', Stp P ρ H w ρ' H' w' → TRel ρ' T' a'.tmps → a'.defers = [] → Q e.to a' w') → Code.rounds P c Q n a w
section
variable {P : Program}
theorem mkB_get : ∀ (k n t : Nat) (v : Value), (mkB k n).get t = some v → v = undef ∧ t < n := by
  intro k
  induction k with
  | zero => intro n t v h; cases h
  | succ k ih =>
    intro n t v h
    have h' : (@Bool.rec (fun _ => Tr Value) (.node (mkB k (n / 2)) undef (mkB k ((n - 1) / 2))) .nil (Nat.beq n 0)).get t = some v := h
    rw [Tr.beq0] at h'
    by_cases hn : n = 0
    · simp only [hn, decide_true] at h'; cases h'
    · simp only [hn, decide_false] at h'
      rw [Tr.get_node] at h'
      by_cases h0 : t = 0
      · rw [if_pos h0] at h'
        exact ⟨(Option.some.inj h').symm, by omega⟩
      · rw [if_neg h0] at h'
        by_cases h1 : t % 2 = 1
        · rw [if_pos h1] at h'
          obtain ⟨a, b⟩ := ih _ _ _ h'
          exact ⟨a, by omega⟩
        · rw [if_neg h1] at h'
          obtain ⟨a, b⟩ := ih _ _ _ h'
          exact ⟨a, by omega⟩
theorem frame_rel {ρ : Ren} {args : List Value} {vs : Array Value} (h : LRel ρ args vs.toList) {n : Nat} (hn : args.length ≤ n) : TRel ρ (setL args 0 (mkB 14 n)) (vs ++ Array.replicate (n - vs.size) undef) := by
  intro t v ht
  have hsz : vs.size = args.length := by have := h.1; simp at this; omega
  rcases setL_get args 0 (mkB 14 n) t v ht with ⟨_, h1, _⟩ | ⟨h1, h2⟩
  · rw [Nat.sub_zero] at h1
    have hlt : t < args.length := by
      rcases Nat.lt_or_ge t args.length with h | h
      · exact h
      · rw [List.getElem?_eq_none h] at h1; cases h1
    have hlt' : t < vs.size := by omega
    refine ⟨vs[t], by rw [Array.getElem?_append_left hlt', Array.getElem?_eq_getElem hlt'], h.2 t v _ h1 (by simp [hlt'])⟩
  · obtain ⟨rfl, hlt⟩ := mkB_get _ _ _ _ h2
    have hge : vs.size ≤ t := by omega
    refine ⟨undef, ?_, .undef⟩
    rw [Array.getElem?_append_right hge, Array.getElem?_replicate, if_pos (by omega)]
def resOf (tmps : Array Value) (x : ResultVar) : Sem Value := match x with
  | .tmp t => pure (tmps.getD t undef)
  | .cell a t => do loadVar t (← asAddr (tmps.getD a undef))
theorem resA_ok {T : Tr Value} {H : Hp} {V : Value} {HH : Hp} : ∀ {l : List ResultVar} {k : List Value → Ans}, resA P l T H k = .ok V HH →
    ∃ vs, k vs = .ok V HH ∧ ∀ (ρ : Ren) (tmps : Array Value) (w : World), TRel ρ T tmps → Good P ρ H w →
      ∃ us, LRel ρ vs us ∧ (l.mapM (resOf tmps)).run P w = .ok us w := by
  intro l
  induction l with
  | nil => intro k h; exact ⟨[], h, fun ρ tmps w _ _ => ⟨[], .nil, by simp⟩⟩
  | cons x l ih =>
    intro k h
    cases x with
    | tmp t =>
      have h' : @Option.rec Value (fun _ => Ans) (.err 302 t) (fun v => resA P l T H fun l => k (v :: l)) (T.get t) = .ok V HH := h
      obtain ⟨v, hv, h1⟩ := orec_ok (c := 302) (x := t) h'
      obtain ⟨vs, h2, hs⟩ := ih h1
      refine ⟨v :: vs, h2, fun ρ tmps w ht hg => ?_⟩
      obtain ⟨us, r1, r2⟩ := hs ρ tmps w ht hg
      obtain ⟨u, e1, e2⟩ := ht t v hv
      refine ⟨u :: us, .cons e2 r1, ?_⟩
      have hu : tmps.getD t undef = u := by simp [Array.getD_eq_getD_getElem?, e1]
      rw [List.mapM_cons]
      simp only [resOf, Sem.run_bind, Sem.run_pure, Result.andThen_ok, r2, hu]
    | cell a t =>
      have h' : @Option.rec Value (fun _ => Ans) (.err 303 a) (fun p => loadA P H t p fun v => resA P l T H fun l => k (v :: l)) (T.get a) = .ok V HH := h
      obtain ⟨p, hp, h1⟩ := orec_ok (c := 303) (x := a) h'
      obtain ⟨v, h2, hld⟩ := loadA_ok h1
      obtain ⟨vs, h3, hs⟩ := ih h2
      refine ⟨v :: vs, h3, fun ρ tmps w ht hg => ?_⟩
      obtain ⟨us, r1, r2⟩ := hs ρ tmps w ht hg
      obtain ⟨q, e1, e2⟩ := ht a p hp
      obtain ⟨u, l1, l2⟩ := hld ρ w q hg e2
      refine ⟨u :: us, .cons l2 r1, ?_⟩
      have hu : tmps.getD a undef = q := by simp [Array.getD_eq_getD_getElem?, e1]
      have hq : (do loadVar t (← asAddr q) : Sem Value).run P w = .ok u w := by
        unfold Instr.loadAt Instr.sureAddr at l1
        cases q with
        | pointer ad => cases ad with
          | none => simp at l1
          | some ad => simpa [asAddr] using l1
        | _ => simp at l1
      rw [List.mapM_cons]
      simp only [resOf, Sem.run_bind, hu] at hq ⊢
      rw [hq]
      simp only [Result.andThen_ok, r2, Sem.run_pure]
theorem results_run {fn : Func} {tmps : Array Value} {w : World} {us : List Value} (h : (fn.results.toList.mapM (resOf tmps)).run P w = .ok us w) :
    (results fn tmps).run P w = .ok (oneOr us) w := by
  have e : results fn tmps = (do let vs ← fn.results.mapM (resOf tmps); pure (if h : vs.size = 1 then vs[0] else .tuple vs)) := rfl
  rw [e, Sem.run_bind, Array.mapM_eq_mapM_toList, Sem.run_map, h]
  simp only [Result.andThen_ok, Sem.run_pure]
  congr 1
  rcases us with _ | ⟨u, _ | ⟨u', us⟩⟩ <;> simp [oneOr]
theorem oneOr_rel {ρ : Ren} {vs us : List Value} (h : LRel ρ vs us) : VRel ρ (oneOr vs) (oneOr us) := by
  rcases vs with _ | ⟨v, _ | ⟨v', vs⟩⟩
  · have : us = [] := List.eq_nil_of_length_eq_zero (by rw [← h.1]; rfl)
    subst this
    exact h.tuple
  · obtain ⟨u, rfl, hv⟩ := list_one h
    exact hv
  · obtain ⟨u, r, rfl, _, h2⟩ := list_cons h
    obtain ⟨u', r', rfl, _, _⟩ := list_cons h2
    exact h.tuple
def ExecOk (P : Program) (ex : Code → Tr Value → Hp → (AExit → Tr Value → Hp → Ans) → Ans) : Prop :=
  ∀ (c : Code) (T : Tr Value) (H : Hp) (k : AExit → Tr Value → Hp → Ans) (V : Value) (HH : Hp), H.WF → ex c T H k = .ok V HH →
    ∃ e T' H', HStep H H' ∧ H'.WF ∧ CodeSim P c T H e T' H' ∧ (∀ b, c = .loop b → ∃ n, LoopSim P n b T H e T' H') ∧ k e T' H' = .ok V HH
theorem enter_ok {ex : Code → Tr Value → Hp → (AExit → Tr Value → Hp → Ans) → Ans} (hex : ExecOk P ex) : CallOkS P (enterA P ex) := by
  intro f args H r V HH hw h
  unfold enterA at h
  split at h
  · cases h
  · rename_i fn hfn
    split at h
    · cases h
    · rename_i c hc
      obtain ⟨hnm, h1⟩ := brec_ok (c := 306) (x := f) h
      obtain ⟨hle, h2⟩ := brec_ok (c := 307) (x := f) h1
      have hle := ble_le hle
      rw [len_eq] at hle
      obtain ⟨e, T', H', k1, k2, hsim, _, h3⟩ := hex _ _ _ _ _ _ hw h2
      have hnm' : (fn.name == "runtime.NumGoroutine") = false := by
        unfold nameOk at hnm
        simpa using hnm
      have fin : ∀ (h4 : resA P fn.results.toList T' H' (fun l => r (oneOr l) H') = .ok V HH) (he : e.to = .normal ∨ e.to = .ret),
          ∃ v H', HStep H H' ∧ H'.WF ∧ CallSim P f args H v H' ∧ (∃ fn, P.funcs[f]? = some fn ∧ (fn.name == "runtime.NumGoroutine") = false ∧ fn.body.isSome = true) ∧ r v H' = .ok V HH := by
        intro h4 he
        obtain ⟨vs, h5, hres⟩ := resA_ok h4
        refine ⟨oneOr vs, H', k1, k2, fun ρ w args' hl hg hf => ?_, ⟨fn, hfn, hnm', by rw [hc]; rfl⟩, h5⟩
        refine calls_of_wp hfn hc (hsim ρ _ w _ (frame_rel hl hle) rfl hg hf fun ρ' a' w' s t d => ?_)
        obtain ⟨us, r1, r2⟩ := hres ρ' a'.tmps w' t s.good
        have hr := results_run r2
        rcases he with he | he <;> rw [he] <;> exact ⟨d, _, hr, _, ρ', rfl, oneOr_rel r1, s⟩
      cases e with
      | normal => exact fin h3 (.inl rfl)
      | ret => exact fin h3 (.inr rfl)
      | exit id => cases h3
variable {hk : FuncId → List Value → Option Value}
def HookOk (P : Program) (hk : FuncId → List Value → Option Value) (H₀ : Hp) : Prop := ∀ (f : FuncId) (args : List Value) (v : Value), hk f args = some v →
  (HasBody P f ∧ ∀ (ρ : Ren) (w : World) (vs : Array Value), LRel ρ args vs.toList → Calls P f vs w fun e w' => ∃ u, e = .returned u ∧ VRel ρ v u ∧ Below w.heap.size w w') ∨ ExtSim P f args v
theorem stp_below {ρ : Ren} {H : Hp} {w w' : World} (hg : Good P ρ H w) (hb : Below w.heap.size w w') : Stp P ρ H w ρ H w' := by
  obtain ⟨h1, h2, h3, h4, h5⟩ := hb
  refine ⟨fun _ _ h => h, fun _ _ h => .inl h, ⟨fun b o e hb he => ?_, hg.inj, fun b e o hb hd he => Nat.lt_of_lt_of_le (hg.bnd b e o hb hd he) h4⟩, h1, h2, h3, h4, fun B hB => .inl (h5 B hB), fun b e o h h' => by rw [h] at h'; cases h'⟩
  by_cases hd : o = .dead
  · subst hd; trivial
  · exact (hg.rel b o e hb he).mono (fun _ _ h => h) (h5 _ (hg.bnd b e o hb hd he))
theorem hook_ok {H₀ : Hp} {ca : FuncId → List Value → Hp → (Value → Hp → Ans) → Ans} (hh : HookOk P hk H₀) (hca : CallOk P ca) : CallOk P (hookA hk ca) := by
  intro f args H r V HH hw h
  unfold hookA at h
  cases hf : hk f args with
  | none => rw [hf] at h; exact hca f args H r V HH hw h
  | some v =>
    rw [hf] at h
    rcases hh f args v hf with ⟨h1, h2⟩ | h2
    · refine ⟨v, H, HStep.refl H, hw, .inl ⟨fun ρ w vs hl hg _ => (h2 ρ w vs hl).mono ?_, h1⟩, h⟩
      rintro e w' ⟨u, rfl, hv, hb⟩
      exact ⟨u, ρ, rfl, hv, stp_below hg hb⟩
    · exact ⟨v, H, HStep.refl H, hw, .inr ⟨rfl, h2⟩, h⟩
theorem exec_ok {H₀ : Hp} (hm : P.follows .mixedOrders = true) (hh : HookOk P hk H₀) : ∀ (n : Nat), ExecOk P (exec P hk n) := by
  intro n
  induction n with
  | zero => intro c T H k V HH hw h; cases h
  | succ n ih =>
    have hcall := hook_ok hh (enter_ok ih).weak
    intro c T H k V HH hw h
    cases c with
    | skip => exact ⟨.normal, T, H, HStep.refl H, hw, fun ρ a w Q ht hd hg _ hq => wp_skip (hq ρ a w (Stp.refl hg) ht hd), (fun b hb => by cases hb), h⟩
    | label l => exact ⟨.normal, T, H, HStep.refl H, hw, fun ρ a w Q ht hd hg _ hq => wp_label (hq ρ a w (Stp.refl hg) ht hd), (fun b hb => by cases hb), h⟩
    | exit id => exact ⟨.exit id, T, H, HStep.refl H, hw, fun ρ a w Q ht hd hg _ hq => wp_exit (hq ρ a w (Stp.refl hg) ht hd), (fun b hb => by cases hb), h⟩
    | ret => exact ⟨.ret, T, H, HStep.refl H, hw, fun ρ a w Q ht hd hg _ hq => wp_ret (hq ρ a w (Stp.refl hg) ht hd), (fun b hb => by cases hb), h⟩
    | region id ops draw =>
      cases draw with
      | false =>
        obtain ⟨T', H', k1, k2, h1, hs⟩ := opsA_ok hcall hw (show opsA P (hookA hk (enterA P (exec P hk n))) ops ops.toList T H (fun T H => k .normal T H) = .ok V HH from h)
        refine ⟨.normal, T', H', k1, k2, fun ρ a w Q ht hd hg hf hq => wp_region_list ?_, (fun b hb => by cases hb), h1⟩
        exact hs ρ a w Q ht hg hf fun ρ' a' w' s t d => hq ρ' a' w' s t (d.trans hd)
      | true =>
        have h' : @Bool.rec (fun _ => Ans) (.err 309 0) (opsDA P (hookA hk (enterA P (exec P hk n))) ops ops.toList 0 [] [] farOff T H fun T H => k .normal T H) (drawOk ops) = .ok V HH := h
        obtain ⟨hdr, h1⟩ := brec_ok (c := 309) (x := 0) h'
        obtain ⟨T', H', k1, k2, h2, hs⟩ := draw_ok hm hcall hw hdr h1
        refine ⟨.normal, T', H', k1, k2, fun ρ a w Q ht hd hg hf hq => ?_, (fun b hb => by cases hb), h2⟩
        exact hs ρ a w Q id ht hg hf fun ρ' a' w' s t d => hq ρ' a' w' s t (d.trans hd)
    | seq x y =>
      have h' : (exec P hk n x T H fun e T H => match e with
        | .normal => exec P hk n y T H k
        | e => k e T H) = .ok V HH := h
      obtain ⟨e₁, T₁, H₁, k1, k2, hs1, _, h1⟩ := ih _ _ _ _ _ _ hw h'
      cases e₁ with
      | normal =>
        obtain ⟨e, T', H', k3, k4, hs2, _, h2⟩ := ih _ _ _ _ _ _ k2 h1
        refine ⟨e, T', H', k1.trans k3, k4, fun ρ a w Q ht hd hg hf hq => wp_seq ?_, (fun b hb => by cases hb), h2⟩
        refine hs1 ρ a w _ ht hd hg (hf.left k3) fun ρ₁ a₁ w₁ s₁ t₁ d₁ => ?_
        exact hs2 ρ₁ a₁ w₁ Q t₁ d₁ s₁.good (hf.right s₁ k1) fun ρ' a' w' s t d => hq ρ' a' w' (s₁.trans s k1 k3 hf) t d
      | ret => exact ⟨.ret, T₁, H₁, k1, k2, fun ρ a w Q ht hd hg hf hq => wp_seq (hs1 ρ a w _ ht hd hg hf fun ρ₁ a₁ w₁ s₁ t₁ d₁ => hq ρ₁ a₁ w₁ s₁ t₁ d₁), (fun b hb => by cases hb), h1⟩
      | exit id => exact ⟨.exit id, T₁, H₁, k1, k2, fun ρ a w Q ht hd hg hf hq => wp_seq (hs1 ρ a w _ ht hd hg hf fun ρ₁ a₁ w₁ s₁ t₁ d₁ => hq ρ₁ a₁ w₁ s₁ t₁ d₁), (fun b hb => by cases hb), h1⟩
    | cond x y z =>
      have h' : (evalA T x fun v => match v with
        | .bool true => exec P hk n y T H k
        | .bool false => exec P hk n z T H k
        | _ => .err 310 0) = .ok V HH := h
      obtain ⟨v, hv, h1⟩ := evalA_ok h'
      split at h1
      · obtain ⟨e, T', H', k1, k2, hs, _, h2⟩ := ih _ _ _ _ _ _ hw h1
        refine ⟨e, T', H', k1, k2, fun ρ a w Q ht hd hg hf hq => wp_cond_true (vbool (trel_orel ht x _ hv)) (hs ρ a w Q ht hd hg hf hq), (fun b hb => by cases hb), h2⟩
      · obtain ⟨e, T', H', k1, k2, hs, _, h2⟩ := ih _ _ _ _ _ _ hw h1
        refine ⟨e, T', H', k1, k2, fun ρ a w Q ht hd hg hf hq => wp_cond_false (vbool (trel_orel ht x _ hv)) (hs ρ a w Q ht hd hg hf hq), (fun b hb => by cases hb), h2⟩
      · cases h1
    | block id x =>
      have h' : (exec P hk n x T H fun e T H => match e with
        | .exit i => @Bool.rec (fun _ => Ans) (k (.exit i) T H) (k .normal T H) (Nat.beq i id)
        | e => k e T H) = .ok V HH := h
      obtain ⟨e₁, T₁, H₁, k1, k2, hs1, _, h1⟩ := ih _ _ _ _ _ _ hw h'
      cases e₁ with
      | normal => exact ⟨.normal, T₁, H₁, k1, k2, fun ρ a w Q ht hd hg hf hq => wp_block (hs1 ρ a w _ ht hd hg hf fun ρ₁ a₁ w₁ s₁ t₁ d₁ => hq ρ₁ a₁ w₁ s₁ t₁ d₁), (fun b hb => by cases hb), h1⟩
      | ret => exact ⟨.ret, T₁, H₁, k1, k2, fun ρ a w Q ht hd hg hf hq => wp_block (hs1 ρ a w _ ht hd hg hf fun ρ₁ a₁ w₁ s₁ t₁ d₁ => hq ρ₁ a₁ w₁ s₁ t₁ d₁), (fun b hb => by cases hb), h1⟩
      | exit i =>
        dsimp only at h1
        rw [beq_eq] at h1
        by_cases hi : i = id
        · simp only [hi, decide_true] at h1
          refine ⟨.normal, T₁, H₁, k1, k2, fun ρ a w Q ht hd hg hf hq => wp_block (hs1 ρ a w _ ht hd hg hf fun ρ₁ a₁ w₁ s₁ t₁ d₁ => ?_), (fun b hb => by cases hb), h1⟩
          have := hq ρ₁ a₁ w₁ s₁ t₁ d₁
          simpa [AExit.to, Exit.inBlock, hi] using this
        · simp only [hi, decide_false] at h1
          refine ⟨.exit i, T₁, H₁, k1, k2, fun ρ a w Q ht hd hg hf hq => wp_block (hs1 ρ a w _ ht hd hg hf fun ρ₁ a₁ w₁ s₁ t₁ d₁ => ?_), (fun b hb => by cases hb), h1⟩
          have := hq ρ₁ a₁ w₁ s₁ t₁ d₁
          simpa [AExit.to, Exit.inBlock, hi] using this
    | loop x =>
      have h' : (exec P hk n x T H fun e T H => match e with
        | .normal => exec P hk n (.loop x) T H k
        | e => k e T H) = .ok V HH := h
      obtain ⟨e₁, T₁, H₁, k1, k2, hs1, _, h1⟩ := ih _ _ _ _ _ _ hw h'
      have wrap : ∀ (m : Nat) (e : AExit) (T' : Tr Value) (H' : Hp), LoopSim P m x T H e T' H' → CodeSim P (.loop x) T H e T' H' := fun m e T' H' hl ρ a w Q ht hd hg hf hq => wp_loop_rounds m (hl ρ a w Q ht hd hg hf hq)
      cases e₁ with
      | normal =>
        obtain ⟨e, T', H', k3, k4, _, hs2, h2⟩ := ih _ _ _ _ _ _ k2 h1
        obtain ⟨m, hs2⟩ := hs2 x rfl
        have hl : LoopSim P (m + 1) x T H e T' H' := fun ρ a w Q ht hd hg hf hq => by
          rw [rounds_succ]
          refine hs1 ρ a w _ ht hd hg (hf.left k3) fun ρ₁ a₁ w₁ s₁ t₁ d₁ => ?_
          exact hs2 ρ₁ a₁ w₁ Q t₁ d₁ s₁.good (hf.right s₁ k1) fun ρ' a' w' s t d => hq ρ' a' w' (s₁.trans s k1 k3 hf) t d
        exact ⟨e, T', H', k1.trans k3, k4, wrap _ _ _ _ hl, (fun b hb => by cases hb; exact ⟨_, hl⟩), h2⟩
      | ret =>
        have hl : LoopSim P 1 x T H .ret T₁ H₁ := fun ρ a w Q ht hd hg hf hq => by
          rw [rounds_succ]
          exact hs1 ρ a w _ ht hd hg hf fun ρ₁ a₁ w₁ s₁ t₁ d₁ => hq ρ₁ a₁ w₁ s₁ t₁ d₁
        exact ⟨.ret, T₁, H₁, k1, k2, wrap _ _ _ _ hl, (fun b hb => by cases hb; exact ⟨_, hl⟩), h1⟩
      | exit id =>
        have hl : LoopSim P 1 x T H (.exit id) T₁ H₁ := fun ρ a w Q ht hd hg hf hq => by
          rw [rounds_succ]
          exact hs1 ρ a w _ ht hd hg hf fun ρ₁ a₁ w₁ s₁ t₁ d₁ => hq ρ₁ a₁ w₁ s₁ t₁ d₁
        exact ⟨.exit id, T₁, H₁, k1, k2, wrap _ _ _ _ hl, (fun b hb => by cases hb; exact ⟨_, hl⟩), h1⟩
    | scope x =>
      have h' : exec P hk n x T H k = .ok V HH := h
      obtain ⟨e, T', H', k1, k2, hs, _, h2⟩ := ih _ _ _ _ _ _ hw h'
      refine ⟨e, T', H', k1, k2, fun ρ a w Q ht hd hg hf hq => wp_scope_straight (hs ρ a w _ ht hd hg hf fun ρ' a' w' s t d => ?_), (fun b hb => by cases hb), h2⟩
      have := hq ρ' a' w' s t d
      cases e <;> exact this
    | _ => cases h
def Empty (H : Hp) : Prop := H.lo = H.n ∧ ∀ b o, H.t.get b = some o → b < H.n ∧ o = .dead
theorem run_sound (hm : P.follows .mixedOrders = true) {H : Hp} (hh : HookOk P hk H) (he : Empty H) {n : Nat} {f : FuncId} {args : List Value} {v : Value} {HH : Hp} {ρ : Ren} (hρ : ∀ b, H.n ≤ b → ρ b = none) {vs : Array Value} (hargs : LRel ρ args vs.toList) (h : run P hk n f args H = .ok v HH) (w : World) :
    Calls P f vs w fun e w' => ∃ u ρ', e = .returned u ∧ VRel ρ' v u ∧ Below w.heap.size w w' := by
  have hwf : Hp.WF H := fun b o hb => (he.2 b o hb).1
  obtain ⟨v', H', k1, k2, hsim, _, h1⟩ := enter_ok (exec_ok hm hh n) _ _ _ _ _ _ hwf h
  cases h1
  refine (hsim ρ w vs hargs ⟨(fun b o e hb _ => by rw [(he.2 b o hb).2]; trivial), (fun b₁ b₂ o₁ o₂ e₁ e₂ g1 d1 _ _ _ _ _ => absurd (he.2 b₁ o₁ g1).2 d1), (fun b e o hb hd _ => absurd (he.2 b o hb).2 hd)⟩ (fun b h1 _ => hρ b h1)).mono ?_
  rintro e w' ⟨u, ρ', rfl, hv, s⟩
  refine ⟨u, ρ', rfl, hv, s.os, s.tape, s.output, s.size, fun k hk => ?_⟩
  rcases s.frame k hk with h | ⟨b, e, o, _, _, _, _, hb, hd⟩
  · exact h
  · exact absurd (he.2 b o hb).2 hd
theorem run_good (hm : P.follows .mixedOrders = true) (hh : HookOk P hk ⟨.nil, 0, 0⟩) {n : Nat} {f : FuncId} {args : List Value} {v : Value} {HH : Hp} {vs : Array Value} (hargs : LRel (fun _ => none) args vs.toList) (h : run P hk n f args ⟨.nil, 0, 0⟩ = .ok v HH) (w : World) :
    Calls P f vs w fun e w' => ∃ u ρ', e = .returned u ∧ VRel ρ' v u ∧ Below w.heap.size w w' ∧ Good P ρ' HH w' ∧ ∀ b e o, ρ' b = some e → HH.t.get b = some o → o ≠ .dead → w.heap.size ≤ e.B := by
  have hwf : Hp.WF ⟨.nil, 0, 0⟩ := fun b o hb => by cases hb
  have hg0 : Good P (fun _ => none) ⟨.nil, 0, 0⟩ w := ⟨(fun b o e _ he => nomatch he), (fun b₁ b₂ o₁ o₂ e₁ e₂ _ _ r1 _ _ _ _ => nomatch r1), (fun b e o _ _ he => nomatch he)⟩
  obtain ⟨v', H', k1, k2, hsim, _, h1⟩ := enter_ok (exec_ok hm hh n) _ _ _ _ _ _ hwf h
  cases h1
  refine (hsim (fun _ => none) w vs hargs hg0 (fun b _ _ => rfl)).mono ?_
  rintro e w' ⟨u, ρ', rfl, hv, s⟩
  refine ⟨u, ρ', rfl, hv, ⟨s.os, s.tape, s.output, s.size, fun k hk => ?_⟩, s.good, fun b e o h1 h2 h3 => ?_⟩
  · rcases s.frame k hk with h | ⟨b, e, o, h, _⟩
    · exact h
    · cases h
  · rcases s.new b e o rfl h1 h2 h3 with h | ⟨b₀, e₀, o₀, h, _⟩
    · exact h
    · cases h
theorem tells_sound (hm : P.follows .mixedOrders = true) {H : Hp} (hh : HookOk P hk H) (he : Empty H) {n : Nat} {f : FuncId} {args : List Value} {b : Bool} {ρ : Ren} (hρ : ∀ b, H.n ≤ b → ρ b = none) {vs : Array Value} (hargs : LRel ρ args vs.toList) (h : tells P hk n f args H b = true) (w : World) :
    Calls P f vs w fun e w' => e = .returned (.bool b) ∧ Below w.heap.size w w' := by
  unfold tells at h
  split at h
  · rename_i c HH hr
    refine (run_sound hm hh he hρ hargs hr w).mono ?_
    rintro e w' ⟨u, ρ', rfl, hv, hb⟩
    refine ⟨?_, hb⟩
    rw [vbool hv]
    rw [boolEq_eq] at h
    have : b = c := by simpa using h
    rw [this]
  · cases h
end
end Go.Abs
