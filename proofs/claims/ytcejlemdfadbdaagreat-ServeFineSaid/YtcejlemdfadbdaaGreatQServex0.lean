/- ServeFine: a part of the walk of that statement. No conditions. -/
import Derived.Test.YtcejlemdfadbdaaGreatProg
import Derived.Below
import Derived.Deep.Draws
import Derived.Deep.AppendLies
import Derived.Maps.AppendAt
import Derived.OwnWalk
import Derived.Laws.BytesArg
import Derived.Laws.MakeOwn
import Derived.Laws.OwnMore
import Derived.Deep.OwnRows
import Derived.Tactics
import Derived.Lib.ConvBytes
import Derived.Laws.Slices
import Derived.WalkKit
import Derived.KernelRfl
import Derived.RowKit3
import Derived.Deep.LoopGhost
import Derived.Deep.QuietTactic
import Derived.BigQuiet
import Derived.WideLaws
import Derived.Deep.DeepCutAuto
import Derived.Deep.CutBlock
import Derived.Deep.RegionHeld3
import Derived.Laws.Rows
import Derived.Lib.AppendStr
import Derived.ArgAppend
import Derived.Laws.IdiomCopy
import Derived.OrdersHeld
import Derived.Laws.BitsLemmas
import Derived.RowKit
import Derived.Test.YtcejlemdfadbdaaGreatWWords
import Derived.Test.YtcejlemdfadbdaaGreatWLast
import Derived.Test.YtcejlemdfadbdaaGreatWTab
import Derived.Test.YtcejlemdfadbdaaGreatWFour
import Derived.Test.YtcejlemdfadbdaaGreatWQPut
import Derived.Test.YtcejlemdfadbdaaGreatWApart
import Derived.Test.YtcejlemdfadbdaaGreatWArr
import Derived.Test.YtcejlemdfadbdaaGreatWZeros
import Derived.Test.YtcejlemdfadbdaaGreatWFoot
import Derived.Test.YtcejlemdfadbdaaGreatWKept
import Derived.Test.YtcejlemdfadbdaaGreatWShare
import Derived.Test.YtcejlemdfadbdaaGreatWN
import Derived.Test.YtcejlemdfadbdaaGreatWFootNe
import Derived.Test.YtcejlemdfadbdaaGreatWAt
import Derived.Test.YtcejlemdfadbdaaGreatWEqStruct
import Derived.Test.YtcejlemdfadbdaaGreatWRepsOne
import Derived.Test.YtcejlemdfadbdaaGreatWInv
import Derived.Test.YtcejlemdfadbdaaGreatWInvWords
import Derived.Test.YtcejlemdfadbdaaGreatWGuard
import Derived.Test.YtcejlemdfadbdaaGreatWNEv
import Derived.Test.YtcejlemdfadbdaaGreatWMore
namespace Go.Proofs.YtcejlemdfadbdaaGreat.QServe
open Go.RowKit Go.Proofs.YtcejlemdfadbdaaGreatW.PrintWords Go.Proofs.YtcejlemdfadbdaaGreatW.PrintLast Go.Proofs.YtcejlemdfadbdaaGreatW.PrintMore
attribute [local go_sem] max2_int min2_int max_two min_two max_three min_three max_four min_four   -- for this text's walks alone
set_option linter.unusedVariables false
set_option linter.unusedSimpArgs false



def errW : Option Int → Value
  | none => .nilIface
  | some c => .iface 0 (.int .i64 c)
theorem errW_none : errW none = .nilIface := rfl
theorem errW_some (c : Int) : errW (some c) = .iface 0 (.int .i64 c) := rfl

theorem info36 : (Tryz.prog.info? 36).map (fun i => (i.zero, i.size, i.bytes)) = some (some (.agg #[(.bool false), (.bool false), (.slice none 0 0), (.slice none 0 0), (.int .i64 0)]), 5, 72) := by kernel_rfl
theorem info56 : (Tryz.prog.info? 56).map (fun i => (i.zero, i.size, i.bytes)) = some (some (.int .u64 0), 1, 8) := by kernel_rfl
-- the values' own types
def rd_L2 (xs : List (List Int)) (i : Int) : (List Int) := xs.getD i.toNat ([] : List Int)
theorem at_L2 {w : World} {A : Option Addr} {n : Nat} {xs : List (List Int)} (h : Kd.C (Kd.slice 56 (Kd.int .u64)) w A n xs) (i : Int) (h0 : 0 ≤ i) (h1 : i < n) : ∃ ad A0 c0, A = some ad ∧ w.cell? (ad.add i.toNat) = some (.slice A0 (rd_L2 xs i).length c0) ∧ (rd_L2 xs i).length ≤ c0 ∧ (Kd.int .u64).C w A0 (rd_L2 xs i).length (rd_L2 xs i) := by
  obtain ⟨ad, c, e, _, hK, hc0⟩ := Kd.C_get h ([] : List Int) i h0 h1
  have hc : ∀ j u, c[j]? = some u → w.cell? (ad.add (i.toNat * 1 + j)) = some u := hc0
  obtain ⟨A0, c0, rfl, l0, g0⟩ := hK
  exact ⟨ad, A0, c0, e, by have hq := hc 0 _ rfl; rwa [Nat.mul_one, Nat.add_zero] at hq, l0, g0⟩

/-! #### struct type 29 -/
structure S29 where
  f0 : (List Int)
def z29 : S29 := ⟨([] : List Int)⟩
def k29 : Kd S29 := Kd.iso (Kd.slice 56 (Kd.int .u64)) (fun x : S29 => x.f0)
theorem k29_open {w : World} {x : S29} {cs : List Value} (h : k29.K w x cs) : ∃ A0 c0, cs = [.slice A0 x.f0.length c0] ∧ x.f0.length ≤ c0 ∧ (Kd.int .u64).C w A0 x.f0.length x.f0 := by
  obtain ⟨A0, c0, rfl, l0, g0⟩ := h
  exact ⟨A0, c0, rfl, l0, g0⟩
theorem k29_openM {w : World} {base : Nat} {ok : Nat → Prop} {x : S29} {cs : List Value} (h : k29.M w base ok x cs) : ∃ v0, cs = [v0] ∧ (Kd.int .u64).R 56 w base ok v0 x.f0 := by
  obtain ⟨v0, rfl, g0⟩ := h
  exact ⟨v0, rfl, g0⟩
theorem k29_mk (w : World) (x : S29) {A0 : Option Addr} {c0 : Nat} (l0 : x.f0.length ≤ c0) (g0 : (Kd.int .u64).C w A0 x.f0.length x.f0) : k29.K w x [.slice A0 x.f0.length c0] := ⟨A0, c0, rfl, l0, g0⟩
theorem k29_mkM (w : World) (base : Nat) (ok : Nat → Prop) (x : S29) {v0 : Value} (g0 : (Kd.int .u64).R 56 w base ok v0 x.f0) : k29.M w base ok x [v0] := ⟨v0, rfl, g0⟩
theorem k29_openF {W : World} {ok : Nat → Prop} {x : S29} {cs : List Value} (h : Kd.FK k29 W ok x cs) : ∃ A0 c0, cs = [.slice A0 x.f0.length c0] ∧ x.f0.length ≤ c0 ∧ Kd.F (Kd.int .u64) W ok A0 x.f0.length x.f0 := by
  obtain ⟨A0, c0, rfl, l0, _⟩ := k29_open (Kd.FK_now h)
  exact ⟨A0, c0, rfl, l0, (fun W' hW => by obtain ⟨A0_, c0_, he, l0_, g0_⟩ := k29_open (h W' hW); injection (Option.some.inj (show some (Value.slice A0 x.f0.length c0) = some (Value.slice A0_ x.f0.length c0_) from congrArg (fun l => l[0]?) he)) with ha_ _ _; rw [ha_]; exact g0_)⟩
theorem k29_mkF (W : World) (ok : Nat → Prop) (x : S29) {A0 : Option Addr} {c0 : Nat} (l0 : x.f0.length ≤ c0) (g0 : Kd.F (Kd.int .u64) W ok A0 x.f0.length x.f0) : Kd.FK k29 W ok x [.slice A0 x.f0.length c0] := fun W2 hW => k29_mk W2 x l0 (g0 W2 hW)
def rd_T29 (xs : List S29) (i : Int) : S29 := xs.getD i.toNat z29
theorem at_T29 {w : World} {A : Option Addr} {n : Nat} {xs : List S29} (h : Kd.C k29 w A n xs) (i : Int) (h0 : 0 ≤ i) (h1 : i < n) : ∃ ad A0 c0, A = some ad ∧ w.cell? (ad.add i.toNat) = some (.slice A0 (rd_T29 xs i).f0.length c0) ∧ (rd_T29 xs i).f0.length ≤ c0 ∧ (Kd.int .u64).C w A0 (rd_T29 xs i).f0.length (rd_T29 xs i).f0 := by
  obtain ⟨ad, c, e, _, hK, hc0⟩ := Kd.C_get h z29 i h0 h1
  have hc : ∀ j u, c[j]? = some u → w.cell? (ad.add (i.toNat * 1 + j)) = some u := hc0
  obtain ⟨A0, c0, rfl, l0, g0⟩ := k29_open hK
  exact ⟨ad, A0, c0, e, by have hq := hc 0 _ rfl; rwa [Nat.mul_one, Nat.add_zero] at hq, l0, g0⟩

/-! #### struct type 31 -/
structure S31 where
  f0 : Bool
  f1 : S29
def z31 : S31 := ⟨false, z29⟩
def k31 : Kd S31 := Kd.iso (Kd.pair Kd.bool k29) (fun x : S31 => (x.f0, x.f1))
theorem k31_open {w : World} {x : S31} {cs : List Value} (h : k31.K w x cs) : ∃ A1 c1, cs = [.bool x.f0, .slice A1 x.f1.f0.length c1] ∧ x.f1.f0.length ≤ c1 ∧ (Kd.int .u64).C w A1 x.f1.f0.length x.f1.f0 := by
  obtain ⟨_, _, rfl, rfl, s1⟩ := h
  obtain ⟨A1, c1, rfl, l1, g1⟩ := k29_open s1
  exact ⟨A1, c1, rfl, l1, g1⟩
theorem k31_openM {w : World} {base : Nat} {ok : Nat → Prop} {x : S31} {cs : List Value} (h : k31.M w base ok x cs) : ∃ v1, cs = [.bool x.f0, v1] ∧ (Kd.int .u64).R 56 w base ok v1 x.f1.f0 := by
  obtain ⟨_, _, rfl, rfl, s1⟩ := h
  obtain ⟨v1, rfl, g1⟩ := k29_openM s1
  exact ⟨v1, rfl, g1⟩
theorem k31_mk (w : World) (x : S31) {A1 : Option Addr} {c1 : Nat} (l1 : x.f1.f0.length ≤ c1) (g1 : (Kd.int .u64).C w A1 x.f1.f0.length x.f1.f0) : k31.K w x [.bool x.f0, .slice A1 x.f1.f0.length c1] := ⟨[.bool x.f0], [.slice A1 x.f1.f0.length c1], rfl, rfl, (k29_mk w x.f1 l1 g1)⟩
theorem k31_mkM (w : World) (base : Nat) (ok : Nat → Prop) (x : S31) {v1 : Value} (g1 : (Kd.int .u64).R 56 w base ok v1 x.f1.f0) : k31.M w base ok x [.bool x.f0, v1] := ⟨[.bool x.f0], [v1], rfl, rfl, (k29_mkM w base ok x.f1 g1)⟩
theorem k31_openF {W : World} {ok : Nat → Prop} {x : S31} {cs : List Value} (h : Kd.FK k31 W ok x cs) : ∃ A1 c1, cs = [.bool x.f0, .slice A1 x.f1.f0.length c1] ∧ x.f1.f0.length ≤ c1 ∧ Kd.F (Kd.int .u64) W ok A1 x.f1.f0.length x.f1.f0 := by
  obtain ⟨A1, c1, rfl, l1, _⟩ := k31_open (Kd.FK_now h)
  exact ⟨A1, c1, rfl, l1, (fun W' hW => by obtain ⟨A1_, c1_, he, l1_, g1_⟩ := k31_open (h W' hW); injection (Option.some.inj (show some (Value.slice A1 x.f1.f0.length c1) = some (Value.slice A1_ x.f1.f0.length c1_) from congrArg (fun l => l[1]?) he)) with ha_ _ _; rw [ha_]; exact g1_)⟩
theorem k31_mkF (W : World) (ok : Nat → Prop) (x : S31) {A1 : Option Addr} {c1 : Nat} (l1 : x.f1.f0.length ≤ c1) (g1 : Kd.F (Kd.int .u64) W ok A1 x.f1.f0.length x.f1.f0) : Kd.FK k31 W ok x [.bool x.f0, .slice A1 x.f1.f0.length c1] := fun W2 hW => k31_mk W2 x l1 (g1 W2 hW)
def rd_T31 (xs : List S31) (i : Int) : S31 := xs.getD i.toNat z31
theorem at_T31 {w : World} {A : Option Addr} {n : Nat} {xs : List S31} (h : Kd.C k31 w A n xs) (i : Int) (h0 : 0 ≤ i) (h1 : i < n) : ∃ ad A1 c1, A = some ad ∧ w.cell? (ad.add (i.toNat * 2)) = some (.bool (rd_T31 xs i).f0) ∧ w.cell? ⟨(ad.add (i.toNat * 2)).block, (ad.add (i.toNat * 2)).off + 1, none⟩ = some (.slice A1 (rd_T31 xs i).f1.f0.length c1) ∧ (rd_T31 xs i).f1.f0.length ≤ c1 ∧ (Kd.int .u64).C w A1 (rd_T31 xs i).f1.f0.length (rd_T31 xs i).f1.f0 := by
  obtain ⟨ad, c, e, _, hK, hc0⟩ := Kd.C_get h z31 i h0 h1
  have hc : ∀ j u, c[j]? = some u → w.cell? (ad.add (i.toNat * 2 + j)) = some u := hc0
  obtain ⟨A1, c1, rfl, l1, g1⟩ := k31_open hK
  exact ⟨ad, A1, c1, e, hc 0 _ rfl, by rw [← add_field _ _ 1 (by omega)]; exact hc 1 _ rfl, l1, g1⟩

/-! #### struct type 33 -/
structure S33 where
  f0 : S31
  f1 : S29
def z33 : S33 := ⟨z31, z29⟩
def k33 : Kd S33 := Kd.iso (Kd.pair k31 k29) (fun x : S33 => (x.f0, x.f1))
theorem k33_open {w : World} {x : S33} {cs : List Value} (h : k33.K w x cs) : ∃ A1 c1 A2 c2, cs = [.bool x.f0.f0, .slice A1 x.f0.f1.f0.length c1, .slice A2 x.f1.f0.length c2] ∧ x.f0.f1.f0.length ≤ c1 ∧ (Kd.int .u64).C w A1 x.f0.f1.f0.length x.f0.f1.f0 ∧ x.f1.f0.length ≤ c2 ∧ (Kd.int .u64).C w A2 x.f1.f0.length x.f1.f0 := by
  obtain ⟨_, _, rfl, s0, s2⟩ := h
  obtain ⟨A1, c1, rfl, l1, g1⟩ := k31_open s0
  obtain ⟨A2, c2, rfl, l2, g2⟩ := k29_open s2
  exact ⟨A1, c1, A2, c2, rfl, l1, g1, l2, g2⟩
theorem k33_openM {w : World} {base : Nat} {ok : Nat → Prop} {x : S33} {cs : List Value} (h : k33.M w base ok x cs) : ∃ v1 v2, cs = [.bool x.f0.f0, v1, v2] ∧ (Kd.int .u64).R 56 w base ok v1 x.f0.f1.f0 ∧ (Kd.int .u64).R 56 w base ok v2 x.f1.f0 := by
  obtain ⟨_, _, rfl, s0, s2⟩ := h
  obtain ⟨v1, rfl, g1⟩ := k31_openM s0
  obtain ⟨v2, rfl, g2⟩ := k29_openM s2
  exact ⟨v1, v2, rfl, g1, g2⟩
theorem k33_mk (w : World) (x : S33) {A1 : Option Addr} {c1 : Nat} (l1 : x.f0.f1.f0.length ≤ c1) (g1 : (Kd.int .u64).C w A1 x.f0.f1.f0.length x.f0.f1.f0) {A2 : Option Addr} {c2 : Nat} (l2 : x.f1.f0.length ≤ c2) (g2 : (Kd.int .u64).C w A2 x.f1.f0.length x.f1.f0) : k33.K w x [.bool x.f0.f0, .slice A1 x.f0.f1.f0.length c1, .slice A2 x.f1.f0.length c2] := ⟨[.bool x.f0.f0, .slice A1 x.f0.f1.f0.length c1], [.slice A2 x.f1.f0.length c2], rfl, (k31_mk w x.f0 l1 g1), (k29_mk w x.f1 l2 g2)⟩
theorem k33_mkM (w : World) (base : Nat) (ok : Nat → Prop) (x : S33) {v1 : Value} (g1 : (Kd.int .u64).R 56 w base ok v1 x.f0.f1.f0) {v2 : Value} (g2 : (Kd.int .u64).R 56 w base ok v2 x.f1.f0) : k33.M w base ok x [.bool x.f0.f0, v1, v2] := ⟨[.bool x.f0.f0, v1], [v2], rfl, (k31_mkM w base ok x.f0 g1), (k29_mkM w base ok x.f1 g2)⟩
theorem k33_openF {W : World} {ok : Nat → Prop} {x : S33} {cs : List Value} (h : Kd.FK k33 W ok x cs) : ∃ A1 c1 A2 c2, cs = [.bool x.f0.f0, .slice A1 x.f0.f1.f0.length c1, .slice A2 x.f1.f0.length c2] ∧ x.f0.f1.f0.length ≤ c1 ∧ Kd.F (Kd.int .u64) W ok A1 x.f0.f1.f0.length x.f0.f1.f0 ∧ x.f1.f0.length ≤ c2 ∧ Kd.F (Kd.int .u64) W ok A2 x.f1.f0.length x.f1.f0 := by
  obtain ⟨A1, c1, A2, c2, rfl, l1, _, l2, _⟩ := k33_open (Kd.FK_now h)
  exact ⟨A1, c1, A2, c2, rfl, l1, (fun W' hW => by obtain ⟨A1_, c1_, A2_, c2_, he, l1_, g1_, l2_, g2_⟩ := k33_open (h W' hW); injection (Option.some.inj (show some (Value.slice A1 x.f0.f1.f0.length c1) = some (Value.slice A1_ x.f0.f1.f0.length c1_) from congrArg (fun l => l[1]?) he)) with ha_ _ _; rw [ha_]; exact g1_), l2, (fun W' hW => by obtain ⟨A1_, c1_, A2_, c2_, he, l1_, g1_, l2_, g2_⟩ := k33_open (h W' hW); injection (Option.some.inj (show some (Value.slice A2 x.f1.f0.length c2) = some (Value.slice A2_ x.f1.f0.length c2_) from congrArg (fun l => l[2]?) he)) with ha_ _ _; rw [ha_]; exact g2_)⟩
theorem k33_mkF (W : World) (ok : Nat → Prop) (x : S33) {A1 : Option Addr} {c1 : Nat} (l1 : x.f0.f1.f0.length ≤ c1) (g1 : Kd.F (Kd.int .u64) W ok A1 x.f0.f1.f0.length x.f0.f1.f0) {A2 : Option Addr} {c2 : Nat} (l2 : x.f1.f0.length ≤ c2) (g2 : Kd.F (Kd.int .u64) W ok A2 x.f1.f0.length x.f1.f0) : Kd.FK k33 W ok x [.bool x.f0.f0, .slice A1 x.f0.f1.f0.length c1, .slice A2 x.f1.f0.length c2] := fun W2 hW => k33_mk W2 x l1 (g1 W2 hW) l2 (g2 W2 hW)
def rd_T33 (xs : List S33) (i : Int) : S33 := xs.getD i.toNat z33
theorem at_T33 {w : World} {A : Option Addr} {n : Nat} {xs : List S33} (h : Kd.C k33 w A n xs) (i : Int) (h0 : 0 ≤ i) (h1 : i < n) : ∃ ad A1 c1 A2 c2, A = some ad ∧ w.cell? (ad.add (i.toNat * 3)) = some (.bool (rd_T33 xs i).f0.f0) ∧ w.cell? ⟨(ad.add (i.toNat * 3)).block, (ad.add (i.toNat * 3)).off + 1, none⟩ = some (.slice A1 (rd_T33 xs i).f0.f1.f0.length c1) ∧ w.cell? ⟨(ad.add (i.toNat * 3)).block, (ad.add (i.toNat * 3)).off + 2, none⟩ = some (.slice A2 (rd_T33 xs i).f1.f0.length c2) ∧ (rd_T33 xs i).f0.f1.f0.length ≤ c1 ∧ (Kd.int .u64).C w A1 (rd_T33 xs i).f0.f1.f0.length (rd_T33 xs i).f0.f1.f0 ∧ (rd_T33 xs i).f1.f0.length ≤ c2 ∧ (Kd.int .u64).C w A2 (rd_T33 xs i).f1.f0.length (rd_T33 xs i).f1.f0 := by
  obtain ⟨ad, c, e, _, hK, hc0⟩ := Kd.C_get h z33 i h0 h1
  have hc : ∀ j u, c[j]? = some u → w.cell? (ad.add (i.toNat * 3 + j)) = some u := hc0
  obtain ⟨A1, c1, A2, c2, rfl, l1, g1, l2, g2⟩ := k33_open hK
  exact ⟨ad, A1, c1, A2, c2, e, hc 0 _ rfl, by rw [← add_field _ _ 1 (by omega)]; exact hc 1 _ rfl, by rw [← add_field _ _ 2 (by omega)]; exact hc 2 _ rfl, l1, g1, l2, g2⟩

/-! #### struct type 36 -/
structure S36 where
  f0 : Bool
  f1 : S33
  f2 : Int
def z36 : S36 := ⟨false, z33, (0 : Int)⟩
def k36 : Kd S36 := Kd.iso (Kd.pair Kd.bool (Kd.pair k33 (Kd.int .i64))) (fun x : S36 => (x.f0, x.f1, x.f2))
theorem k36_open {w : World} {x : S36} {cs : List Value} (h : k36.K w x cs) : ∃ A2 c2 A3 c3, cs = [.bool x.f0, .bool x.f1.f0.f0, .slice A2 x.f1.f0.f1.f0.length c2, .slice A3 x.f1.f1.f0.length c3, .int .i64 x.f2] ∧ x.f1.f0.f1.f0.length ≤ c2 ∧ (Kd.int .u64).C w A2 x.f1.f0.f1.f0.length x.f1.f0.f1.f0 ∧ x.f1.f1.f0.length ≤ c3 ∧ (Kd.int .u64).C w A3 x.f1.f1.f0.length x.f1.f1.f0 := by
  obtain ⟨_, _, rfl, rfl, ⟨_, _, rfl, s1, rfl⟩⟩ := h
  obtain ⟨A2, c2, A3, c3, rfl, l2, g2, l3, g3⟩ := k33_open s1
  exact ⟨A2, c2, A3, c3, rfl, l2, g2, l3, g3⟩
theorem k36_openM {w : World} {base : Nat} {ok : Nat → Prop} {x : S36} {cs : List Value} (h : k36.M w base ok x cs) : ∃ v2 v3, cs = [.bool x.f0, .bool x.f1.f0.f0, v2, v3, .int .i64 x.f2] ∧ (Kd.int .u64).R 56 w base ok v2 x.f1.f0.f1.f0 ∧ (Kd.int .u64).R 56 w base ok v3 x.f1.f1.f0 := by
  obtain ⟨_, _, rfl, rfl, ⟨_, _, rfl, s1, rfl⟩⟩ := h
  obtain ⟨v2, v3, rfl, g2, g3⟩ := k33_openM s1
  exact ⟨v2, v3, rfl, g2, g3⟩
theorem k36_mk (w : World) (x : S36) {A2 : Option Addr} {c2 : Nat} (l2 : x.f1.f0.f1.f0.length ≤ c2) (g2 : (Kd.int .u64).C w A2 x.f1.f0.f1.f0.length x.f1.f0.f1.f0) {A3 : Option Addr} {c3 : Nat} (l3 : x.f1.f1.f0.length ≤ c3) (g3 : (Kd.int .u64).C w A3 x.f1.f1.f0.length x.f1.f1.f0) : k36.K w x [.bool x.f0, .bool x.f1.f0.f0, .slice A2 x.f1.f0.f1.f0.length c2, .slice A3 x.f1.f1.f0.length c3, .int .i64 x.f2] := ⟨[.bool x.f0], [.bool x.f1.f0.f0, .slice A2 x.f1.f0.f1.f0.length c2, .slice A3 x.f1.f1.f0.length c3, .int .i64 x.f2], rfl, rfl, ⟨[.bool x.f1.f0.f0, .slice A2 x.f1.f0.f1.f0.length c2, .slice A3 x.f1.f1.f0.length c3], [.int .i64 x.f2], rfl, (k33_mk w x.f1 l2 g2 l3 g3), rfl⟩⟩
theorem k36_mkM (w : World) (base : Nat) (ok : Nat → Prop) (x : S36) {v2 : Value} (g2 : (Kd.int .u64).R 56 w base ok v2 x.f1.f0.f1.f0) {v3 : Value} (g3 : (Kd.int .u64).R 56 w base ok v3 x.f1.f1.f0) : k36.M w base ok x [.bool x.f0, .bool x.f1.f0.f0, v2, v3, .int .i64 x.f2] := ⟨[.bool x.f0], [.bool x.f1.f0.f0, v2, v3, .int .i64 x.f2], rfl, rfl, ⟨[.bool x.f1.f0.f0, v2, v3], [.int .i64 x.f2], rfl, (k33_mkM w base ok x.f1 g2 g3), rfl⟩⟩
theorem k36_openF {W : World} {ok : Nat → Prop} {x : S36} {cs : List Value} (h : Kd.FK k36 W ok x cs) : ∃ A2 c2 A3 c3, cs = [.bool x.f0, .bool x.f1.f0.f0, .slice A2 x.f1.f0.f1.f0.length c2, .slice A3 x.f1.f1.f0.length c3, .int .i64 x.f2] ∧ x.f1.f0.f1.f0.length ≤ c2 ∧ Kd.F (Kd.int .u64) W ok A2 x.f1.f0.f1.f0.length x.f1.f0.f1.f0 ∧ x.f1.f1.f0.length ≤ c3 ∧ Kd.F (Kd.int .u64) W ok A3 x.f1.f1.f0.length x.f1.f1.f0 := by
  obtain ⟨A2, c2, A3, c3, rfl, l2, _, l3, _⟩ := k36_open (Kd.FK_now h)
  exact ⟨A2, c2, A3, c3, rfl, l2, (fun W' hW => by obtain ⟨A2_, c2_, A3_, c3_, he, l2_, g2_, l3_, g3_⟩ := k36_open (h W' hW); injection (Option.some.inj (show some (Value.slice A2 x.f1.f0.f1.f0.length c2) = some (Value.slice A2_ x.f1.f0.f1.f0.length c2_) from congrArg (fun l => l[2]?) he)) with ha_ _ _; rw [ha_]; exact g2_), l3, (fun W' hW => by obtain ⟨A2_, c2_, A3_, c3_, he, l2_, g2_, l3_, g3_⟩ := k36_open (h W' hW); injection (Option.some.inj (show some (Value.slice A3 x.f1.f1.f0.length c3) = some (Value.slice A3_ x.f1.f1.f0.length c3_) from congrArg (fun l => l[3]?) he)) with ha_ _ _; rw [ha_]; exact g3_)⟩
theorem k36_mkF (W : World) (ok : Nat → Prop) (x : S36) {A2 : Option Addr} {c2 : Nat} (l2 : x.f1.f0.f1.f0.length ≤ c2) (g2 : Kd.F (Kd.int .u64) W ok A2 x.f1.f0.f1.f0.length x.f1.f0.f1.f0) {A3 : Option Addr} {c3 : Nat} (l3 : x.f1.f1.f0.length ≤ c3) (g3 : Kd.F (Kd.int .u64) W ok A3 x.f1.f1.f0.length x.f1.f1.f0) : Kd.FK k36 W ok x [.bool x.f0, .bool x.f1.f0.f0, .slice A2 x.f1.f0.f1.f0.length c2, .slice A3 x.f1.f1.f0.length c3, .int .i64 x.f2] := fun W2 hW => k36_mk W2 x l2 (g2 W2 hW) l3 (g3 W2 hW)
def rd_T36 (xs : List S36) (i : Int) : S36 := xs.getD i.toNat z36
theorem at_T36 {w : World} {A : Option Addr} {n : Nat} {xs : List S36} (h : Kd.C k36 w A n xs) (i : Int) (h0 : 0 ≤ i) (h1 : i < n) : ∃ ad A2 c2 A3 c3, A = some ad ∧ w.cell? (ad.add (i.toNat * 5)) = some (.bool (rd_T36 xs i).f0) ∧ w.cell? ⟨(ad.add (i.toNat * 5)).block, (ad.add (i.toNat * 5)).off + 1, none⟩ = some (.bool (rd_T36 xs i).f1.f0.f0) ∧ w.cell? ⟨(ad.add (i.toNat * 5)).block, (ad.add (i.toNat * 5)).off + 2, none⟩ = some (.slice A2 (rd_T36 xs i).f1.f0.f1.f0.length c2) ∧ w.cell? ⟨(ad.add (i.toNat * 5)).block, (ad.add (i.toNat * 5)).off + 3, none⟩ = some (.slice A3 (rd_T36 xs i).f1.f1.f0.length c3) ∧ w.cell? ⟨(ad.add (i.toNat * 5)).block, (ad.add (i.toNat * 5)).off + 4, none⟩ = some (.int .i64 (rd_T36 xs i).f2) ∧ (rd_T36 xs i).f1.f0.f1.f0.length ≤ c2 ∧ (Kd.int .u64).C w A2 (rd_T36 xs i).f1.f0.f1.f0.length (rd_T36 xs i).f1.f0.f1.f0 ∧ (rd_T36 xs i).f1.f1.f0.length ≤ c3 ∧ (Kd.int .u64).C w A3 (rd_T36 xs i).f1.f1.f0.length (rd_T36 xs i).f1.f1.f0 := by
  obtain ⟨ad, c, e, _, hK, hc0⟩ := Kd.C_get h z36 i h0 h1
  have hc : ∀ j u, c[j]? = some u → w.cell? (ad.add (i.toNat * 5 + j)) = some u := hc0
  obtain ⟨A2, c2, A3, c3, rfl, l2, g2, l3, g3⟩ := k36_open hK
  exact ⟨ad, A2, c2, A3, c3, e, hc 0 _ rfl, by rw [← add_field _ _ 1 (by omega)]; exact hc 1 _ rfl, by rw [← add_field _ _ 2 (by omega)]; exact hc 2 _ rfl, by rw [← add_field _ _ 3 (by omega)]; exact hc 3 _ rfl, by rw [← add_field _ _ 4 (by omega)]; exact hc 4 _ rfl, l2, g2, l3, g3⟩

end Go.Proofs.YtcejlemdfadbdaaGreat.QServe
