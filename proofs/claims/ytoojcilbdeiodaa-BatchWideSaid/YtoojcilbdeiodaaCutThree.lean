/- A cut of a row with three bounds whose last two are one: what it tells, and that the row so cut still holds what it held. -/
import Derived.Test.YtoojcilbdeiodaaWWords
import Derived.Test.YtoojcilbdeiodaaWMore
import Derived.Laws.Slices
namespace Go.Proofs.Ytoojcilbdeiodaa.CutThree
open Go.RowKit Go.Proofs.YtoojcilbdeiodaaW.PrintWords Go.Proofs.YtoojcilbdeiodaaW.PrintLast Go.Proofs.YtoojcilbdeiodaaW.PrintMore
section
variable {P : Program}
theorem cut_mid3 (t e : TypeId) (kl kh km : IntKind) {i : TypeInfo} (ht : P.underlying t = some (.slice e)) (hi : P.info? e = some i) (size : Nat) (hsz : i.size = size) (A : Option Addr) (n c : Nat) (lo hi' : Int) (h0 : 0 ≤ lo) (h1 : lo ≤ hi') (h2 : hi' ≤ n) (hc : n ≤ c) :
    ∀ W : World, (Instr.slice t (.slice A n c) (some (.int kl lo)) (some (.int kh hi')) (some (.int km hi'))).run P W = .ok (.slice (if hi'.toNat = lo.toNat then A else A.map (·.add (lo.toNat * size))) (hi'.toNat - lo.toNat) (hi'.toNat - lo.toNat)) W := by
  intro W
  have hel : P.elem t = e := by simp [Program.elem, ht]
  have hu : P.underlying t = some (.slice (P.elem t)) := by rw [hel]; exact ht
  rw [run_slice_lhm W t A n c hu kl kh km lo hi' hi' h0 h1 (Int.le_refl _) (by omega), hel]
  simp [sizeOf, typeInfo, hi, hsz, sliced, Result.andThen]
end
theorem F_mid3 {α : Type} {d : Kd α} {W : World} {ok : Nat → Prop} {A : Option Addr} {xs : List α} {lo hi : Nat} (h : Kd.F d W ok A xs.length xs) (h1 : lo ≤ hi) (h2 : hi ≤ xs.length) :
    Kd.F d W ok (if hi = lo then A else A.map (·.add (lo * d.sz))) ((xs.take hi).drop lo).length ((xs.take hi).drop lo) :=
  Kd.F_cut (Kd.F_take h h2) (by rw [List.length_take]; omega) (by rw [List.length_take]; omega)
end Go.Proofs.Ytoojcilbdeiodaa.CutThree
