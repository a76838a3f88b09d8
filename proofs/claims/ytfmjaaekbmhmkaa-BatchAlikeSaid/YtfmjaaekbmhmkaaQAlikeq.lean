/- BatchAlike: what 'hand.Q' returns, for all whole numbers: by the two choices that it makes. No conditions. -/
import Derived.Test.YtfmjaaekbmhmkaaQAlikex1
import Derived.Test.YtfmjaaekbmhmkaaFast
namespace Go.Proofs.Ytfmjaaekbmhmkaa.QAlike
set_option warn.classDefReducibility false
open Go.RowKit Go.Proofs.YtfmjaaekbmhmkaaW.PrintWords Go.Proofs.YtfmjaaekbmhmkaaW.PrintLast Go.Proofs.YtfmjaaekbmhmkaaW.PrintMore
open Go.Abs (Ans FH AObj Hp Ren Ent TokEnv VRel LRel RH)
set_option linter.unusedVariables false
set_option linter.unusedSimpArgs false

/-! ### the number that is not known -/
def tokVal (n : Int) (t : Nat) : Int := if t < 65536 then (if t = 1 then n else 0) else Int.tdiv (if t / 65536 = 1 then n else 0) ((t % 65536 : Nat) : Int)
theorem base_low {n : Int} (h1 : -9223372036854775808 ≤ n) (t : Nat) : -9223372036854775808 ≤ (if t = 1 then n else 0) := by split <;> omega
theorem base_high {n : Int} (h2 : n < 9223372036854775808) (t : Nat) : (if t = 1 then n else 0) < 9223372036854775808 := by split <;> omega
theorem tdiv_abs (x : Int) (m : Nat) : (Int.tdiv x m).natAbs ≤ x.natAbs := by rw [Int.natAbs_tdiv]; exact Nat.div_le_self _ _
theorem tdiv_min {m : Nat} : Int.tdiv (-9223372036854775808) m < 9223372036854775808 := by
  have h : Int.tdiv (-9223372036854775808) m ≤ 0 := by
    rw [show (-9223372036854775808 : Int) = -(9223372036854775808) from rfl, Int.neg_tdiv]
    have : 0 ≤ Int.tdiv 9223372036854775808 (m : Int) := Int.tdiv_nonneg (by decide) (by omega)
    omega
  omega
def tokN (n : Int) (h1 : -9223372036854775808 ≤ n) (h2 : n < 9223372036854775808) : TokEnv where
  val := tokVal n
  quo := fun t m h0 ht hm hm2 => by
    have e1 : ¬ (t * 65536 + m < 65536) := by omega
    have e2 : (t * 65536 + m) / 65536 = t := by omega
    have e3 : (t * 65536 + m) % 65536 = m := by omega
    unfold tokVal
    rw [if_neg e1, e2, e3, if_pos ht]
  low := fun t => by
    unfold tokVal
    split
    · exact base_low h1 t
    · have a := tdiv_abs (if t / 65536 = 1 then n else 0) (t % 65536)
      have b1 := base_low h1 (t / 65536)
      have b2 := base_high h2 (t / 65536)
      omega
  high := fun t => by
    unfold tokVal
    split
    · exact base_high h2 t
    · have a := tdiv_abs (if t / 65536 = 1 then n else 0) (t % 65536)
      have b1 := base_low h1 (t / 65536)
      have b2 := base_high h2 (t / 65536)
      by_cases hm : (if t / 65536 = 1 then n else 0) = -9223372036854775808
      · rw [hm]; exact tdiv_min
      · omega

/-! ### the runs -/
noncomputable def hookQ (c d : Nat) (f : FuncId) (args : List Value) : Option Value := Bool.rec (motive := fun _ => Option Value) none (match args with
  | [.chan (some t), .int .i64 (.ofNat m)] => Bool.rec (motive := fun _ => Option Value) (Bool.rec (motive := fun _ => Option Value) none (some (.int .i64 (.ofNat d))) (Bool.and (Nat.beq t 65577) (Nat.beq m 6))) (some (.int .i64 (.ofNat c))) (Bool.and (Nat.beq t 1) (Nat.beq m 41))
  | _ => none) (Nat.beq f 4)
noncomputable def oneU (x : Nat) (l : List Value) (k : Ans) : Ans := match l with
  | [.int .u64 (.ofNat y)] => Go.Abs.ifK (Nat.beq y x) k (.err 1204 y)
  | _ => .err 1205 0
noncomputable def natAt (x : Nat) (s : Value) (H : FH) (k : Ans) : Ans := match x with
  | 0 => Go.Abs.slcK s (fun n _ => Go.Abs.ifK (Nat.beq n 0) k (.err 1200 0)) (fun _ _ n _ => Go.Abs.ifK (Nat.beq n 0) k (.err 1202 0))
  | x + 1 => Go.Abs.slcK s (fun _ _ => .err 1201 0) fun b o n _ => Go.Abs.ifK (Nat.beq n 1) (Go.Abs.obK H b fun ob => Go.Abs.rdF ob 1 o fun l => oneU (x + 1) l k) (.err 1203 0)
noncomputable def checkQ (neg : Bool) (x d : Nat) (v : Value) (H : FH) : Ans := Go.Abs.aggK v fun l => match l with
  | [.bool b, s1, s2] => Go.Abs.ifK (Go.Abs.boolEq b neg) (natAt x s1 H (natAt d s2 H (.ok (.bool true) Go.Abs.H0))) (.err 1206 0)
  | _ => .err 1207 0
def denOf (i : Nat) : Nat := match i with
  | 3 => 2
  | 4 => 3
  | 5 => 4
  | _ => 1
def dist (c : Nat) : Nat := if c < 20 then 20 - c else c - 20
def qneg (c : Nat) : Bool := decide (c < 20)
def qnum (c i : Nat) : Nat := dist c / Nat.gcd (dist c) (denOf i)
def qden (c i : Nat) : Nat := if denOf i / Nat.gcd (dist c) (denOf i) = 1 then 0 else denOf i / Nat.gcd (dist c) (denOf i)
noncomputable def qrun (c i : Nat) : Ans := (Go.Abs.cfun Try.prog 5).go (Go.Abs.clF Try.prog (hookQ c i) 100000) [.chan (some 1)] ⟨Go.Abs.eO6, 0, 0⟩ (checkQ (qneg c) (qnum c i) (qden c i))
def okB (a : Ans) : Bool := match a with
  | .ok _ _ => true
  | _ => false
/-! ### what a run tells -/
def lst (x : Nat) : List Int := if x = 0 then [] else [(x : Int)]
theorem oneU_ok [TokEnv] {x : Nat} {l : List Value} {k : Ans} {V : Value} {HH : Hp} (h : oneU x l k = .ok V HH) : l = [.int .u64 (x : Int)] ∧ k = .ok V HH := by
  unfold oneU at h
  split at h
  · rename_i y
    obtain ⟨h1, h2⟩ := Go.Abs.ifK_ok h
    have := Go.Abs.beq_eq' h1
    subst this
    exact ⟨rfl, h2⟩
  · cases h
theorem natAt_ok [TokEnv] {x : Nat} {s u : Value} {H1' : FH} {H1 : Hp} {k : Ans} {V : Value} {HH : Hp} {ρ' : Ren} {w' : World} {base : Nat} (hr : RH H1' H1) (h : natAt x s H1' k = .ok V HH) (hu : VRel ρ' s u)
    (hg : Go.Abs.Good Try.prog ρ' H1 w') (hn : ∀ b e o, ρ' b = some e → H1.t.get b = some o → o ≠ .dead → base ≤ e.B) : k = .ok V HH ∧ Kd.V (Kd.int .u64) 72 w' base (fun k_ => base ≤ k_) u (lst x) := by
  cases x with
  | zero =>
    have h' : Go.Abs.slcK s (fun n _ => Go.Abs.ifK (Nat.beq n 0) k (.err 1200 0)) (fun _ _ n _ => Go.Abs.ifK (Nat.beq n 0) k (.err 1202 0)) = .ok V HH := h
    rcases Go.Abs.slcK_ok h' with ⟨l, c, rfl, h1⟩ | ⟨b, o, l, c, rfl, h1⟩
    · obtain ⟨_, h2⟩ := Go.Abs.ifK_ok h1
      obtain ⟨_, _, rfl⟩ := Go.Abs.vsnil hu
      exact ⟨h2, Kd.V_nil _ _ _ _ _⟩
    · obtain ⟨h0, h2⟩ := Go.Abs.ifK_ok h1
      have := Go.Abs.beq_eq' h0
      subst this
      obtain ⟨en, o', c', he, rfl, _⟩ := Go.Abs.vslice hu
      exact ⟨h2, ⟨_, c', rfl, Nat.zero_le _, fun W' _ => ⟨rfl, by simp [lst], fun h0 => absurd h0 (Nat.lt_irrefl _)⟩⟩⟩
  | succ x =>
    have h' : Go.Abs.slcK s (fun _ _ => .err 1201 0) (fun b o n _ => Go.Abs.ifK (Nat.beq n 1) (Go.Abs.obK H1' b fun ob => Go.Abs.rdF ob 1 o fun l => oneU (x + 1) l k) (.err 1203 0)) = .ok V HH := h
    rcases Go.Abs.slcK_ok h' with ⟨l, c, rfl, h1⟩ | ⟨b, o, l, c, rfl, h1⟩
    · cases h1
    · obtain ⟨h0, h2⟩ := Go.Abs.ifK_ok h1
      have := Go.Abs.beq_eq' h0
      subst this
      obtain ⟨hb, hor, h3⟩ := Go.Abs.obK_ok hr h2
      obtain ⟨cl, c0, m, e2, w2, hx, hle, hl, hget, h4⟩ := Go.Abs.rdF_ok hor h3
      obtain ⟨rfl, h5⟩ := oneU_ok h4
      have hcell : c0.get o = some (.int .u64 ((x + 1 : Nat) : Int)) := by simpa using hget 0 (by omega)
      obtain ⟨en, o', c', he, rfl, hc1, hc2, _, ho', _⟩ := Go.Abs.vslice hu
      have hoff : o' = en.base + o := by
        rcases ho' with h | ⟨_, h, _⟩
        · exact h
        · cases h
      subst hoff
      obtain ⟨_, _, _, C, ty, fr, q1, q2, _, q3⟩ := hg.rel b _ en hx he
      obtain ⟨v', q4, q5⟩ := q3 o _ hle hcell
      rw [Go.Abs.vint q5] at q4
      have hnew := hn b en _ he hx (by simp)
      have hlt2 := hg.bnd b en _ hx (by simp) he
      refine ⟨h5, ⟨_, c', rfl, Nat.le_trans hc1 hc2, fun W' hW => ⟨rfl, by simp [lst], fun _ => ⟨_, rfl, fun j p hj => ?_⟩⟩⟩⟩
      have hblk : W'.heap[en.B]? = some (.cells C ty fr) := (hW en.B hnew hlt2).trans q1
      rcases j with _ | j
      · have hp : ((x + 1 : Nat) : Int) = p := Option.some.inj (show some ((x + 1 : Nat) : Int) = some p from hj)
        subst hp
        refine ⟨[.int .u64 ((x + 1 : Nat) : Int)], rfl, rfl, fun i u hu => ?_⟩
        rcases i with _ | i
        · simp at hu
          subst hu
          simp only [Nat.zero_mul, Nat.add_zero, Addr.add_lit]
          rw [Go.Abs.cell_of hblk]
          simpa using q4
        · simp at hu
      · have hj' : ([] : List Int)[j]? = some p := hj
        simp at hj'

theorem agg3 [TokEnv] {ρ : Ren} {a b c u : Value} {cs : Array Value} (hcs : cs.toList = [a, b, c]) (h : VRel ρ (.agg cs) u) : ∃ x y z, u = .agg #[x, y, z] ∧ VRel ρ a x ∧ VRel ρ b y ∧ VRel ρ c z := by
  obtain ⟨cs', rfl, hl⟩ := Go.Abs.vagg h
  rw [hcs] at hl
  obtain ⟨x, r1, e1, h1, t1⟩ := Go.Abs.list_cons hl
  obtain ⟨y, r2, e2, h2, t2⟩ := Go.Abs.list_cons t1
  obtain ⟨z, e3, h3⟩ := Go.Abs.list_one t2
  refine ⟨x, y, z, ?_, h1, h2, h3⟩
  have : cs' = #[x, y, z] := by apply Array.ext'; rw [e1, e2, e3]
  rw [this]

theorem hookQ_ok {n : Int} {c d : Nat} (h1 : -9223372036854775808 ≤ n) (h2 : n < 9223372036854775808) (hc : abaculushand_Pick.f n 41 = some (c : Int)) (hd : abaculushand_Pick.f (Int.tdiv n 41) 6 = some (d : Int)) (H : Hp) :
    @Go.Abs.HookOk (tokN n h1 h2) Try.prog (hookQ c d) H := by
  letI := tokN n h1 h2
  intro f args v h
  left
  unfold hookQ at h
  cases hf : Nat.beq f 4 with
  | false => rw [hf] at h; cases h
  | true =>
    rw [hf] at h
    have := Go.Abs.beq_eq' hf
    subst this
    refine ⟨⟨Try.f4, Try.func4, by kernel_rfl, by kernel_rfl⟩, fun ρ w vs hl => ?_⟩
    simp only at h
    split at h
    · rename_i t m
      obtain ⟨u1, r1, e1, k1, t1⟩ := Go.Abs.list_cons hl
      obtain ⟨u2, e2, k2⟩ := Go.Abs.list_one t1
      have k1 := Go.Abs.vtok k1
      have k2 := Go.Abs.vint k2
      have hvs : vs = #[.int .i64 (TokEnv.val t), .int .i64 (Int.ofNat m)] := by apply Array.ext'; rw [e1, e2, k1, k2]
      subst hvs
      have fin : ∀ q : Nat, abaculushand_Pick.f (TokEnv.val t) (Int.ofNat m) = some (q : Int) → v = .int .i64 (Int.ofNat q) → Calls Try.prog 4 #[.int .i64 (TokEnv.val t), .int .i64 (Int.ofNat m)] w fun e w' => ∃ u, e = .returned u ∧ VRel ρ v u ∧ Below w.heap.size w w' := by
        intro q hq hv
        refine (abaculushand_Pick.calls _ _ _ w hq).mono ?_
        rintro e w' ⟨rfl, hdr⟩
        exact ⟨_, rfl, by rw [hv]; exact .int _ _, hdr.below⟩
      cases hA : Bool.and (Nat.beq t 1) (Nat.beq m 41) with
      | true =>
        rw [hA] at h
        have hA' : (Nat.beq t 1 && Nat.beq m 41) = true := hA
        rw [Bool.and_eq_true] at hA'
        have a1 := Go.Abs.beq_eq' hA'.1
        have a2 := Go.Abs.beq_eq' hA'.2
        subst a1; subst a2
        exact fin c hc (Option.some.inj h).symm
      | false =>
        rw [hA] at h
        cases hB : Bool.and (Nat.beq t 65577) (Nat.beq m 6) with
        | true =>
          rw [hB] at h
          have hB' : (Nat.beq t 65577 && Nat.beq m 6) = true := hB
          rw [Bool.and_eq_true] at hB'
          have a1 := Go.Abs.beq_eq' hB'.1
          have a2 := Go.Abs.beq_eq' hB'.2
          subst a1; subst a2
          have e : TokEnv.val 65577 = Int.tdiv n 41 := by
            show tokVal n 65577 = _
            unfold tokVal
            rw [if_neg (by decide), if_pos (by decide)]
            rfl
          exact fin d (by rw [e]; exact hd) (Option.some.inj h).symm
        | false => rw [hB] at h; cases h
    · cases h

theorem q_calls {n : Int} {c d : Nat} (h1 : -9223372036854775808 ≤ n) (h2 : n < 9223372036854775808) (hc : abaculushand_Pick.f n 41 = some (c : Int)) (hd : abaculushand_Pick.f (Int.tdiv n 41) 6 = some (d : Int)) (h : okB (qrun c d) = true) (w : World) :
    Calls Try.prog 5 #[.int .i64 n] w fun e w' => ∃ v1_ v2_ : Value, e = .returned (.agg #[.bool (qneg c), v1_, v2_]) ∧ Kd.V (Kd.int .u64) 72 w' w.heap.size (fun k_ => (w.heap.size ≤ k_)) v1_ (lst (qnum c d)) ∧ Kd.V (Kd.int .u64) 72 w' w.heap.size (fun k_ => (w.heap.size ≤ k_)) v2_ (lst (qden c d)) ∧ Below w.heap.size w w' := by
  letI := tokN n h1 h2
  unfold okB at h
  split at h
  · rename_i V HH hq
    obtain ⟨v, H1', H1, N, hr, hk, hrun⟩ := Go.Abs.cfun_ok (Go.Abs.clF_ok 100000) Go.Abs.rh_init hq
    have hrun : Go.Abs.run Try.prog (hookQ c d) N 5 [.chan (some 1)] ⟨.nil, 0, 0⟩ = .ok v H1 := hrun N (Nat.le_refl _) _
    have hargs : LRel (fun _ => none) [.chan (some 1)] (#[Value.int .i64 n] : Array Value).toList := by
      have e : (Value.int .i64 n) = .int .i64 (TokEnv.val 1) := rfl
      rw [e]
      exact .cons (.tok 1) .nil
    refine (Go.Abs.run_good followed (hookQ_ok h1 h2 hc hd _) hargs hrun w).mono ?_
    rintro e w' ⟨u, ρ', rfl, hv, hb, hg, hn⟩
    obtain ⟨cs, rfl, hk2⟩ := Go.Abs.aggK_ok (show Go.Abs.aggK v _ = .ok V HH from hk)
    split at hk2
    · rename_i b s1 s2 hcs
      obtain ⟨hneg, hk⟩ := Go.Abs.ifK_ok hk2
      obtain ⟨x, y, z, rfl, k1, k2, k3⟩ := agg3 hcs hv
      obtain ⟨hk, g1⟩ := natAt_ok hr hk k2 hg hn
      obtain ⟨hk, g2⟩ := natAt_ok hr hk k3 hg hn
      rw [Go.Abs.vbool k1]
      rw [Go.Abs.boolEq_eq] at hneg
      have : b = qneg c := by simpa using hneg
      subst this
      exact ⟨_, _, rfl, g1, g2, hb⟩
    · cases hk2
  · cases h
end Go.Proofs.Ytfmjaaekbmhmkaa.QAlike
