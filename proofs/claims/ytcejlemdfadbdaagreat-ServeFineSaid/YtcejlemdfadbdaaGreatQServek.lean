/- ServeFine: what three callees do: 'known' returns true; 'frac.Of' of 0, 1 and 2; 'bits.Len64' of 1 and 2. No conditions. -/
import Derived.Test.YtcejlemdfadbdaaGreatQServex0
import Derived.Test.YtcejlemdfadbdaaGreatAbsB
namespace Go.Proofs.YtcejlemdfadbdaaGreat.QServe
open Go.RowKit Go.Proofs.YtcejlemdfadbdaaGreatW.PrintWords Go.Proofs.YtcejlemdfadbdaaGreatW.PrintLast Go.Proofs.YtcejlemdfadbdaaGreatW.PrintMore
set_option linter.unusedVariables false
set_option linter.unusedSimpArgs false

theorem followed : Tryz.prog.follows .mixedOrders = true := by decide +kernel
noncomputable def hook0 : FuncId → List Value → Option Value := fun _ _ => none
theorem hook0_ok (H : Go.Abs.Hp) : Go.Abs.HookOk Tryz.prog hook0 H := fun _ _ _ h => nomatch h
theorem emp0 : Go.Abs.Empty ⟨.nil, 0, 0⟩ := ⟨rfl, fun b o h => by rw [Go.Abs.Tr.get_nil] at h; cases h⟩

/-! ### known -/
theorem told : Go.Abs.tells Tryz.prog hook0 100000 6 [] ⟨.nil, 0, 0⟩ true = true := by decide +kernel
def abaculuslaw40_known.f (k : Nat) : Option Bool := some true
theorem abaculuslaw40_known.mono : ∀ k, LeO (abaculuslaw40_known.f k) (abaculuslaw40_known.f (k + 1)) := fun _ => LeO.refl _
theorem abaculuslaw40_known.calls (k : Nat) (r : Bool) (w : World) (h : abaculuslaw40_known.f k = some r) :
    Calls Tryz.prog 6 #[] w fun e w' => e = .returned (.bool r) ∧ Below w.heap.size w w' := by
  cases h
  exact Go.Abs.tells_sound followed (hook0_ok _) emp0 (ρ := fun _ => none) (fun _ _ => rfl) (.nil) told w

/-! ### bits.Len64 -/
noncomputable def numIs (a : Go.Abs.Ans) (x : Int) : Bool := match a with
  | .ok (.int .i64 y) _ => decide (y = x)
  | _ => false
theorem len1 : numIs (Go.Abs.run Tryz.prog hook0 100000 44 [.int .u64 1] ⟨.nil, 0, 0⟩) 1 = true := by decide +kernel
theorem len2 : numIs (Go.Abs.run Tryz.prog hook0 100000 44 [.int .u64 2] ⟨.nil, 0, 0⟩) 2 = true := by decide +kernel
def bits_Len64.f (k : Nat) (a0 : Int) : Option (Int) := if a0 = 1 then some 1 else if a0 = 2 then some 2 else none
theorem bits_Len64.mono : ∀ a0 k, LeO (bits_Len64.f k a0) (bits_Len64.f (k + 1) a0) := fun _ _ => LeO.refl _
theorem lrel1 {k : IntKind} (n : Int) : Go.Abs.LRel (fun _ => none) [.int k n] (#[Value.int k n] : Array Value).toList := .cons (.int _ _) .nil
theorem len_calls {n x : Int} {w : World} (h : numIs (Go.Abs.run Tryz.prog hook0 100000 44 [.int .u64 n] ⟨.nil, 0, 0⟩) x = true) :
    Calls Tryz.prog 44 #[.int .u64 n] w fun e w' => e = .returned (.int .i64 x) ∧ Below w.heap.size w w' := by
  unfold numIs at h
  split at h
  · rename_i y H hr
    refine (Go.Abs.run_sound followed (hook0_ok _) emp0 (ρ := fun _ => none) (fun _ _ => rfl) (vs := #[.int .u64 n]) (lrel1 n) hr w).mono ?_
    rintro e w' ⟨u, ρ', rfl, hv, hb⟩
    rw [Go.Abs.vint hv, of_decide_eq_true h]
    exact ⟨rfl, hb⟩
  · cases h
theorem bits_Len64.calls (k : Nat) (a0 : Int) (r : Int) (w : World) (h : bits_Len64.f k a0 = some r) :
    Calls Tryz.prog 44 #[.int .u64 a0] w fun e w' => e = .returned (.int .i64 r) ∧ Below w.heap.size w w' := by
  unfold bits_Len64.f at h
  by_cases h1 : a0 = 1
  · subst h1; rw [if_pos rfl] at h; cases h; exact len_calls len1
  rw [if_neg h1] at h
  by_cases h2 : a0 = 2
  · subst h2; rw [if_pos rfl] at h; cases h; exact len_calls len2
  rw [if_neg h2] at h
  cases h

/-! ### frac.Of -/
noncomputable def fracIs (a : Go.Abs.Ans) (x : Int) : Bool := match a with
  | .ok (.agg ⟨[.bool false, .slice (some ⟨b, o, none⟩) 1 c, .slice none 0 0]⟩) H => match H.t.get b with
    | some (.cells cs m _ _) => match cs.get o with
      | some (.int .u64 y) => Bool.and (Nat.blt o m) (decide (y = x))
      | _ => false
    | _ => false
  | _ => false
noncomputable def fracNone (a : Go.Abs.Ans) : Bool := match a with
  | .ok (.agg ⟨[.bool false, .slice (some ⟨b, o, none⟩) 0 c, .slice none 0 0]⟩) H => true
  | _ => false
theorem frac0 : fracNone (Go.Abs.run Tryz.prog hook0 100000 5 [.int .i64 0] ⟨.nil, 0, 0⟩) = true := by decide +kernel
theorem frac1 : fracIs (Go.Abs.run Tryz.prog hook0 100000 5 [.int .i64 1] ⟨.nil, 0, 0⟩) 1 = true := by decide +kernel
theorem frac2 : fracIs (Go.Abs.run Tryz.prog hook0 100000 5 [.int .i64 2] ⟨.nil, 0, 0⟩) 2 = true := by decide +kernel

def frac_Of.f (k : Nat) (a0 : Int) : Option (Bool × List Int × List Int) := if a0 = 0 then some (false, [], []) else if a0 = 1 then some (false, [1], []) else if a0 = 2 then some (false, [2], []) else none
theorem frac_Of.mono : ∀ a0 k, LeO (frac_Of.f k a0) (frac_Of.f (k + 1) a0) := fun _ _ => LeO.refl _

abbrev FracSays (w : World) (r1 : Bool) (r2 r3 : List Int) (e : Ending) (w' : World) : Prop :=
  ∃ v1_ v2_ : Value, e = .returned (.agg #[.bool r1, v1_, v2_]) ∧ Kd.V (Kd.int .u64) 56 w' w.heap.size (fun k_ => (w.heap.size ≤ k_) ∧ some k_ ≠ (v2_ : Value).ownBlock) v1_ r2 ∧ Kd.R (Kd.int .u64) 56 w' w.heap.size (fun k_ => (w.heap.size ≤ k_)) v2_ r3 ∧ Below w.heap.size w w'

theorem agg3 {ρ : Go.Abs.Ren} {a b c u : Value} (h : Go.Abs.VRel ρ (.agg ⟨[a, b, c]⟩) u) : ∃ x y z, u = .agg #[x, y, z] ∧ Go.Abs.VRel ρ a x ∧ Go.Abs.VRel ρ b y ∧ Go.Abs.VRel ρ c z := by
  obtain ⟨cs, rfl, hl⟩ := Go.Abs.vagg h
  obtain ⟨x, r1, e1, h1, t1⟩ := Go.Abs.list_cons hl
  obtain ⟨y, r2, e2, h2, t2⟩ := Go.Abs.list_cons t1
  obtain ⟨z, e3, h3⟩ := Go.Abs.list_one t2
  refine ⟨x, y, z, ?_, h1, h2, h3⟩
  have : cs = #[x, y, z] := by apply Array.ext'; rw [e1, e2, e3]
  rw [this]

theorem frac_none {w : World} {n : Int} (h : fracNone (Go.Abs.run Tryz.prog hook0 100000 5 [.int .i64 n] ⟨.nil, 0, 0⟩) = true) : Calls Tryz.prog 5 #[.int .i64 n] w (FracSays w false [] []) := by
  unfold fracNone at h
  split at h
  · rename_i b o c H hr
    refine (Go.Abs.run_good followed (hook0_ok _) (vs := #[.int .i64 n]) (lrel1 n) hr w).mono ?_
    rintro e w' ⟨u, ρ', rfl, hv, hb, hg, hn⟩
    obtain ⟨x, y, z, rfl, h1, h2, h3⟩ := agg3 hv
    rw [Go.Abs.vbool h1]
    obtain ⟨en, o', c', he, rfl, _⟩ := Go.Abs.vslice h2
    obtain ⟨_, _, rfl⟩ := Go.Abs.vsnil h3
    refine ⟨_, _, rfl, ⟨_, c', rfl, Nat.zero_le _, fun W' _ => ⟨rfl, by simp, fun h0 => absurd h0 (Nat.lt_irrefl _)⟩⟩, Kd.R_nil _ _ _ _ _, hb⟩
  · cases h
theorem frac_one {w : World} {n : Int} {x : Int} (h : fracIs (Go.Abs.run Tryz.prog hook0 100000 5 [.int .i64 n] ⟨.nil, 0, 0⟩) x = true) : Calls Tryz.prog 5 #[.int .i64 n] w (FracSays w false [x] []) := by
  unfold fracIs at h
  split at h
  · rename_i b o c H hr
    split at h
    · rename_i cs m el op hob
      split at h
      · rename_i y hcell
        have hand : Nat.blt o m = true ∧ decide (y = x) = true := by
          cases h1 : Nat.blt o m <;> cases h2 : decide (y = x) <;> rw [h1, h2] at h <;> first | exact ⟨rfl, rfl⟩ | cases h
        have hlt := Go.Abs.blt_lt hand.1
        have hyx : y = x := of_decide_eq_true hand.2
        subst hyx
        refine (Go.Abs.run_good followed (hook0_ok _) (vs := #[.int .i64 n]) (lrel1 n) hr w).mono ?_
        rintro e w' ⟨u, ρ', rfl, hv, hb, hg, hn⟩
        obtain ⟨x0, y0, z0, rfl, h1, h2, h3⟩ := agg3 hv
        rw [Go.Abs.vbool h1]
        obtain ⟨en, o', c', he, rfl, hc1, hc2, _, ho', _⟩ := Go.Abs.vslice h2
        obtain ⟨_, _, rfl⟩ := Go.Abs.vsnil h3
        have hoff : o' = en.base + o := by
          rcases ho' with h | ⟨_, h, _⟩
          · exact h
          · cases h
        subst hoff
        obtain ⟨_, _, _, C, ty, fr, q1, q2, _, q3⟩ := hg.rel b _ en hob he
        obtain ⟨v', q4, q5⟩ := q3 o _ hlt hcell
        rw [Go.Abs.vint q5] at q4
        have hnew := hn b en _ he hob (by simp)
        have hlt2 := hg.bnd b en _ hob (by simp) he
        refine ⟨_, _, rfl, ⟨_, c', rfl, Nat.le_trans hc1 hc2, fun W' hW => ⟨rfl, by simp, fun _ => ⟨_, rfl, fun j p hj => ?_⟩⟩⟩, Kd.R_nil _ _ _ _ _, hb⟩
        have hblk : W'.heap[en.B]? = some (.cells C ty fr) := (hW en.B ⟨hnew, by simp [Value.ownBlock]⟩ hlt2).trans q1
        rcases j with _ | j
        · simp at hj
          subst hj
          refine ⟨[.int .u64 y], rfl, rfl, fun i u hu => ?_⟩
          rcases i with _ | i
          · simp at hu
            subst hu
            simp only [Nat.zero_mul, Nat.add_zero, Addr.add_lit]
            rw [Go.Abs.cell_of hblk]
            exact q4
          · simp at hu
        · simp at hj
      · cases h
    · cases h
  · cases h

theorem frac_Of.calls (k : Nat) (a0 : Int) (r1 : Bool) (r2 : List Int) (r3 : List Int) (w : World) (h : frac_Of.f k a0 = some (r1, r2, r3)) :
    Calls Tryz.prog 5 #[.int .i64 a0] w fun e w' => ∃ v1_ v2_ : Value, e = .returned (.agg #[.bool r1, v1_, v2_]) ∧ Kd.V (Kd.int .u64) 56 w' w.heap.size (fun k_ => (w.heap.size ≤ k_) ∧ some k_ ≠ (v2_ : Value).ownBlock) v1_ r2 ∧ Kd.R (Kd.int .u64) 56 w' w.heap.size (fun k_ => (w.heap.size ≤ k_)) v2_ r3 ∧ Below w.heap.size w w' := by
  unfold frac_Of.f at h
  by_cases h0 : a0 = 0
  · subst h0; rw [if_pos rfl] at h; cases h; exact frac_none frac0
  rw [if_neg h0] at h
  by_cases h1 : a0 = 1
  · subst h1; rw [if_pos rfl] at h; cases h; exact frac_one frac1
  rw [if_neg h1] at h
  by_cases h2 : a0 = 2
  · subst h2; rw [if_pos rfl] at h; cases h; exact frac_one frac2
  rw [if_neg h2] at h
  cases h
end Go.Proofs.YtcejlemdfadbdaaGreat.QServe
