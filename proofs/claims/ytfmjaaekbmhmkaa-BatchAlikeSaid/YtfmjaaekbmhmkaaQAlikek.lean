/- BatchAlike: what three callees do: 'known' returns true; 'bits.Len64' of 1 to 80; 'bits.Add64' without a carry. No conditions. -/
import Derived.Test.YtfmjaaekbmhmkaaQAlikex0
import Derived.Test.YtfmjaaekbmhmkaaAbsB
import Derived.Laws.Externs
namespace Go.Proofs.Ytfmjaaekbmhmkaa.QAlike
set_option warn.classDefReducibility false
open Go.RowKit Go.Proofs.YtfmjaaekbmhmkaaW.PrintWords Go.Proofs.YtfmjaaekbmhmkaaW.PrintLast Go.Proofs.YtfmjaaekbmhmkaaW.PrintMore
set_option linter.unusedVariables false
set_option linter.unusedSimpArgs false

theorem followed : Try.prog.follows .mixedOrders = true := by decide +kernel
noncomputable def hook0 : FuncId → List Value → Option Value := fun _ _ => none
def tok0 : Go.Abs.TokEnv := ⟨fun _ => 0, fun t n _ _ _ _ => by simp, fun _ => by decide, fun _ => by decide⟩
section
attribute [local instance] tok0
theorem hook0_ok (H : Go.Abs.Hp) : Go.Abs.HookOk Try.prog hook0 H := fun _ _ _ h => nomatch h
theorem emp0 : Go.Abs.Empty ⟨.nil, 0, 0⟩ := ⟨rfl, fun b o h => by rw [Go.Abs.Tr.get_nil] at h; cases h⟩

/-! ### known -/
theorem told : Go.Abs.tells Try.prog hook0 100000 6 [] ⟨.nil, 0, 0⟩ true = true := by decide +kernel
def abaculuslaw38_known.f (k : Nat) : Option Bool := some true
theorem abaculuslaw38_known.mono : ∀ k, LeO (abaculuslaw38_known.f k) (abaculuslaw38_known.f (k + 1)) := fun _ => LeO.refl _
theorem abaculuslaw38_known.calls (k : Nat) (r : Bool) (w : World) (h : abaculuslaw38_known.f k = some r) :
    Calls Try.prog 6 #[] w fun e w' => e = .returned (.bool r) ∧ Below w.heap.size w w' := by
  cases h
  exact Go.Abs.tells_sound followed (hook0_ok _) emp0 (ρ := fun _ => none) (fun _ _ => rfl) (.nil) told w

/-! ### bits.Len64 -/
def blen (x : Int) : Int := if x < 2 then 1 else if x < 4 then 2 else if x < 8 then 3 else if x < 16 then 4 else if x < 32 then 5 else if x < 64 then 6 else 7
noncomputable def numIs (a : Go.Abs.Ans) (x : Int) : Bool := match a with
  | .ok (.int .i64 y) _ => decide (y = x)
  | _ => false
theorem lens : (List.range 80).all (fun i => numIs (Go.Abs.run Try.prog hook0 100000 27 [.int .u64 (Int.ofNat (i + 1))] ⟨.nil, 0, 0⟩) (blen (Int.ofNat (i + 1)))) = true := by decide +kernel
def bits_Len64.f (k : Nat) (a0 : Int) : Option (Int) := if 1 ≤ a0 ∧ a0 ≤ 80 then some (blen a0) else none
theorem bits_Len64.mono : ∀ a0 k, LeO (bits_Len64.f k a0) (bits_Len64.f (k + 1) a0) := fun _ _ => LeO.refl _
theorem lrel1 {k : IntKind} (n : Int) : Go.Abs.LRel (fun _ => none) [.int k n] (#[Value.int k n] : Array Value).toList := .cons (.int _ _) .nil
theorem len_calls {n x : Int} {w : World} (h : numIs (Go.Abs.run Try.prog hook0 100000 27 [.int .u64 n] ⟨.nil, 0, 0⟩) x = true) :
    Calls Try.prog 27 #[.int .u64 n] w fun e w' => e = .returned (.int .i64 x) ∧ Below w.heap.size w w' := by
  unfold numIs at h
  split at h
  · rename_i y H hr
    refine (Go.Abs.run_sound followed (hook0_ok _) emp0 (ρ := fun _ => none) (fun _ _ => rfl) (vs := #[.int .u64 n]) (lrel1 n) hr w).mono ?_
    rintro e w' ⟨u, ρ', rfl, hv, hb⟩
    rw [Go.Abs.vint hv, of_decide_eq_true h]
    exact ⟨rfl, hb⟩
  · cases h
theorem bits_Len64.calls (k : Nat) (a0 : Int) (r : Int) (w : World) (h : bits_Len64.f k a0 = some r) :
    Calls Try.prog 27 #[.int .u64 a0] w fun e w' => e = .returned (.int .i64 r) ∧ Below w.heap.size w w' := by
  unfold bits_Len64.f at h
  by_cases h1 : 1 ≤ a0 ∧ a0 ≤ 80
  · rw [if_pos h1] at h
    cases h
    have h2 := (List.all_eq_true.1 lens) (a0.toNat - 1) (List.mem_range.2 (by omega))
    have e : Int.ofNat (a0.toNat - 1 + 1) = a0 := by show ((a0.toNat - 1 + 1 : Nat) : Int) = a0; omega
    rw [e] at h2
    exact len_calls h2
  · rw [if_neg h1] at h
    cases h
end

/-! ### bits.Add64, of a carry that is 0 -/
def addS (x y : Int) : Int := (((x.toNat + y.toNat + 0) % 18446744073709551616 : Nat) : Int)
def addC (x y : Int) : Int := (((x.toNat + y.toNat + 0) / 18446744073709551616 : Nat) : Int)
def bits_Add64.f (a0 : Int) (a1 : Int) (a2 : Int) : Option (Int × Int) := if a2 = 0 then some (addS a0 a1, addC a0 a1) else none
theorem add_run (x y : Int) (w : World) : (callFunc 42 #[.int .u64 x, .int .u64 y, .int .u64 0]).run Try.prog w = .ok (.value (.tuple #[.int .u64 (addS x y), .int .u64 (addC x y)])) w := by
  rw [run_callFunc_extern (fn := Try.f42) (e := add64Entry) Try.func42 (by kernel_rfl) (by kernel_rfl) (by kernel_rfl) (by kernel_rfl)]
  have e : (add64Entry #[.int .u64 x, .int .u64 y, .int .u64 0]).run Try.prog w = .ok (.tuple #[.int .u64 (addS x y), .int .u64 (addC x y)]) w := rfl
  rw [e]
  rfl
theorem add_eq {x y r1 r2 : Int} (h : bits_Add64.f x y 0 = some (r1, r2)) (w : World) : (callFunc 42 #[.int .u64 x, .int .u64 y, .int .u64 0]).run Try.prog w = .ok (.value (.tuple #[.int .u64 r1, .int .u64 r2])) w := by
  unfold bits_Add64.f at h
  rw [if_pos rfl] at h
  cases h
  exact add_run x y w
end Go.Proofs.Ytfmjaaekbmhmkaa.QAlike
