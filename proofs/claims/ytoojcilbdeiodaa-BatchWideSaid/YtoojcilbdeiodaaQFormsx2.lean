/- BatchForms: a part of the walk of that statement. No conditions. -/
import Derived.Test.YtoojcilbdeiodaaQFormsx0
import Derived.Test.YtoojcilbdeiodaaQFormsx1
import Derived.Test.YtoojcilbdeiodaaCutThree
namespace Go.Proofs.Ytoojcilbdeiodaa.QForms
open Go.RowKit Go.Proofs.YtoojcilbdeiodaaW.PrintWords Go.Proofs.YtoojcilbdeiodaaW.PrintLast Go.Proofs.YtoojcilbdeiodaaW.PrintMore
attribute [local go_sem] max2_int min2_int max_two min_two max_three min_three max_four min_four   -- for this text's walks alone
set_option linter.unusedVariables false
set_option linter.unusedSimpArgs false

/-! ### batch_Form: function 9 -/
mutual
def batch_Form.l0 : Nat → List Int → List Int → Int → Int → Int → Int → Option ((List (S40)) × Int)
  | 0, _, _, _, _, _, _ => none
  | k + 1, x0, x17, x18, x19, x112000, x112001 => if x19 < x18 then (if 0 ≤ x19 then (if x19 < (x17.length : Int) then (if (rd x17 x19) < 0 then (some (([] : List (S40)), 1)) else (if (rd x17 x19) > 1073741824 then (some (([] : List (S40)), 1)) else (if x19 > 0 then (if 0 ≤ (wrap64 (x19 - 1)) then (if (wrap64 (x19 - 1)) < (x0.length : Int) then (if (rd x17 x19) < (rd x0 (wrap64 (x19 - 1))) then (some (([] : List (S40)), 1)) else (batch_Form.l0 k x0 x17 x18 (wrap64 (x19 + 1)) x112000 x112001)) else (none)) else (none)) else (batch_Form.l0 k x0 x17 x18 (wrap64 (x19 + 1)) x112000 x112001)))) else (none)) else (none)) else (if (x0.length : Int) > 65536 then (some (([] : List (S40)), 4)) else (if 0 ≤ (x0.length : Int) then (if ((x0.length : Int) : Int).toNat ≤ 35184372088832 then ((some (List.replicate ((x0.length : Int) : Int).toNat 0 : List Int)).bind fun y115 => (batch_Form.l1 k x0 y115 (y115.length : Int) 0 x112000 x112001)) else (none)) else (none)))
def batch_Form.l1 : Nat → List Int → List Int → Int → Int → Int → Int → Option ((List (S40)) × Int)
  | 0, _, _, _, _, _, _ => none
  | k + 1, x0, x8, x51, x52, x112000, x112001 => if x52 < x51 then (if 0 ≤ x52 then (if x52 < (x8.length : Int) then (batch_Form.l1 k x0 (x8.set (x52 : Int).toNat x52) x51 (wrap64 (x52 + 1)) x112000 x112001) else (none)) else (none)) else (batch_Form.l2 k x0 ([] : List (S40)) x8 0 x112000 x112001)
def batch_Form.l2 : Nat → List Int → List (S40) → List Int → Int → Int → Int → Option ((List (S40)) × Int)
  | 0, _, _, _, _, _, _ => none
  | k + 1, x0, x4, x8, x10, x112000, x112001 => if x10 < (x0.length : Int) then (if 0 ≤ x10 then (batch_Form.l3 k x0 x4 x8 x10 x10 (wrap64 ((rd x0 x10) + x112001)) x112000 x112001) else (none)) else (some (x4, 0))
def batch_Form.l3 : Nat → List Int → List (S40) → List Int → Int → Int → Int → Int → Int → Option ((List (S40)) × Int)
  | 0, _, _, _, _, _, _, _, _ => none
  | k + 1, x0, x4, x8, x10, x11, x12, x112000, x112001 => if x10 < (x0.length : Int) then (if (wrap64 (x10 - x11)) < x112000 then (if 0 ≤ x10 then (if (rd x0 x10) ≤ x12 then (batch_Form.l3 k x0 x4 x8 (wrap64 (x10 + 1)) x11 x12 x112000 x112001) else (if 0 ≤ x11 then (if x11 ≤ x10 then (if x10 ≤ (x8.length : Int) then ((some ((x8.take (x10 : Int).toNat).drop (x11 : Int).toNat : List Int)).bind fun y121 => (if (y121.length : Int) = x112000 then (if 0 ≤ (wrap64 (x10 - 1)) then (if (wrap64 (x10 - 1)) < (x0.length : Int) then (if x4.length < 4398046511104 then (batch_Form.l2 k x0 (x4 ++ [(⟨y121, rd x0 (wrap64 (x10 - 1))⟩ : S40)]) x8 x10 x112000 x112001) else (none)) else (none)) else (none)) else (if x4.length < 4398046511104 then (batch_Form.l2 k x0 (x4 ++ [(⟨y121, x12⟩ : S40)]) x8 x10 x112000 x112001) else (none)))) else (none)) else (none)) else (none))) else (none)) else (if 0 ≤ x11 then (if x11 ≤ x10 then (if x10 ≤ (x8.length : Int) then ((some ((x8.take (x10 : Int).toNat).drop (x11 : Int).toNat : List Int)).bind fun y134 => (if (y134.length : Int) = x112000 then (if 0 ≤ (wrap64 (x10 - 1)) then (if (wrap64 (x10 - 1)) < (x0.length : Int) then (if x4.length < 4398046511104 then (batch_Form.l2 k x0 (x4 ++ [(⟨y134, rd x0 (wrap64 (x10 - 1))⟩ : S40)]) x8 x10 x112000 x112001) else (none)) else (none)) else (none)) else (if x4.length < 4398046511104 then (batch_Form.l2 k x0 (x4 ++ [(⟨y134, x12⟩ : S40)]) x8 x10 x112000 x112001) else (none)))) else (none)) else (none)) else (none))) else (if 0 ≤ x11 then (if x11 ≤ x10 then (if x10 ≤ (x8.length : Int) then ((some ((x8.take (x10 : Int).toNat).drop (x11 : Int).toNat : List Int)).bind fun y147 => (if (y147.length : Int) = x112000 then (if 0 ≤ (wrap64 (x10 - 1)) then (if (wrap64 (x10 - 1)) < (x0.length : Int) then (if x4.length < 4398046511104 then (batch_Form.l2 k x0 (x4 ++ [(⟨y147, rd x0 (wrap64 (x10 - 1))⟩ : S40)]) x8 x10 x112000 x112001) else (none)) else (none)) else (none)) else (if x4.length < 4398046511104 then (batch_Form.l2 k x0 (x4 ++ [(⟨y147, x12⟩ : S40)]) x8 x10 x112000 x112001) else (none)))) else (none)) else (none)) else (none))
end
def batch_Form.f (k : Nat) (l0 : List Int) (a1_0 : Int) (a1_1 : Int) : Option ((List (S40)) × Int) := (batch_Fine.f a1_0 a1_1).bind fun t112 => (if t112 = true then (batch_Form.l0 k l0 l0 (l0.length : Int) 0 a1_0 a1_1) else (some (([] : List (S40)), 1)))
theorem batch_Form.mono_l : ∀ k, (∀ y0 y1 y2 y3 y4 y5, LeO (batch_Form.l0 k y0 y1 y2 y3 y4 y5) (batch_Form.l0 (k + 1) y0 y1 y2 y3 y4 y5)) ∧ (∀ y0 y1 y2 y3 y4 y5, LeO (batch_Form.l1 k y0 y1 y2 y3 y4 y5) (batch_Form.l1 (k + 1) y0 y1 y2 y3 y4 y5)) ∧ (∀ y0 y1 y2 y3 y4 y5, LeO (batch_Form.l2 k y0 y1 y2 y3 y4 y5) (batch_Form.l2 (k + 1) y0 y1 y2 y3 y4 y5)) ∧ (∀ y0 y1 y2 y3 y4 y5 y6 y7, LeO (batch_Form.l3 k y0 y1 y2 y3 y4 y5 y6 y7) (batch_Form.l3 (k + 1) y0 y1 y2 y3 y4 y5 y6 y7))
  | 0 => ⟨fun _ _ _ _ _ _ r h => by simp [batch_Form.l0] at h, fun _ _ _ _ _ _ r h => by simp [batch_Form.l1] at h, fun _ _ _ _ _ _ r h => by simp [batch_Form.l2] at h, fun _ _ _ _ _ _ _ _ r h => by simp [batch_Form.l3] at h⟩
  | k + 1 => by
    obtain ⟨ih0, ih1, ih2, ih3⟩ := batch_Form.mono_l k
    refine ⟨?_, ?_, ?_, ?_⟩
    · intro y0 y1 y2 y3 y4 y5
      unfold batch_Form.l0
      repeat' first
      | (with_reducible exact ih0 _ _ _ _ _ _)
      | (with_reducible exact ih1 _ _ _ _ _ _)
      | (with_reducible exact ih2 _ _ _ _ _ _)
      | (with_reducible exact ih3 _ _ _ _ _ _ _ _)
      | (with_reducible exact LeO.refl _)
      | (with_reducible exact LeO.none _)
      | (with_reducible refine LeO.ite ?_ ?_)
      | (with_reducible refine LeO.bind ?_ (fun _ => ?_))
      | exact ih0 _ _ _ _ _ _
      | exact ih1 _ _ _ _ _ _
      | exact ih2 _ _ _ _ _ _
      | exact ih3 _ _ _ _ _ _ _ _
      | exact LeO.none _
      | refine LeO.ite ?_ ?_
      | refine LeO.bind ?_ (fun _ => ?_)
    · intro y0 y1 y2 y3 y4 y5
      unfold batch_Form.l1
      repeat' first
      | (with_reducible exact ih0 _ _ _ _ _ _)
      | (with_reducible exact ih1 _ _ _ _ _ _)
      | (with_reducible exact ih2 _ _ _ _ _ _)
      | (with_reducible exact ih3 _ _ _ _ _ _ _ _)
      | (with_reducible exact LeO.refl _)
      | (with_reducible exact LeO.none _)
      | (with_reducible refine LeO.ite ?_ ?_)
      | (with_reducible refine LeO.bind ?_ (fun _ => ?_))
      | exact ih0 _ _ _ _ _ _
      | exact ih1 _ _ _ _ _ _
      | exact ih2 _ _ _ _ _ _
      | exact ih3 _ _ _ _ _ _ _ _
      | exact LeO.none _
      | refine LeO.ite ?_ ?_
      | refine LeO.bind ?_ (fun _ => ?_)
    · intro y0 y1 y2 y3 y4 y5
      unfold batch_Form.l2
      repeat' first
      | (with_reducible exact ih0 _ _ _ _ _ _)
      | (with_reducible exact ih1 _ _ _ _ _ _)
      | (with_reducible exact ih2 _ _ _ _ _ _)
      | (with_reducible exact ih3 _ _ _ _ _ _ _ _)
      | (with_reducible exact LeO.refl _)
      | (with_reducible exact LeO.none _)
      | (with_reducible refine LeO.ite ?_ ?_)
      | (with_reducible refine LeO.bind ?_ (fun _ => ?_))
      | exact ih0 _ _ _ _ _ _
      | exact ih1 _ _ _ _ _ _
      | exact ih2 _ _ _ _ _ _
      | exact ih3 _ _ _ _ _ _ _ _
      | exact LeO.none _
      | refine LeO.ite ?_ ?_
      | refine LeO.bind ?_ (fun _ => ?_)
    · intro y0 y1 y2 y3 y4 y5 y6 y7
      unfold batch_Form.l3
      repeat' first
      | (with_reducible exact ih0 _ _ _ _ _ _)
      | (with_reducible exact ih1 _ _ _ _ _ _)
      | (with_reducible exact ih2 _ _ _ _ _ _)
      | (with_reducible exact ih3 _ _ _ _ _ _ _ _)
      | (with_reducible exact LeO.refl _)
      | (with_reducible exact LeO.none _)
      | (with_reducible refine LeO.ite ?_ ?_)
      | (with_reducible refine LeO.bind ?_ (fun _ => ?_))
      | exact ih0 _ _ _ _ _ _
      | exact ih1 _ _ _ _ _ _
      | exact ih2 _ _ _ _ _ _
      | exact ih3 _ _ _ _ _ _ _ _
      | exact LeO.none _
      | refine LeO.ite ?_ ?_
      | refine LeO.bind ?_ (fun _ => ?_)
theorem batch_Form.mono : ∀ a0 a1 a2 k, LeO (batch_Form.f k a0 a1 a2) (batch_Form.f (k + 1) a0 a1 a2) := by
  intro a0 a1 a2 k
  obtain ⟨ih0, ih1, ih2, ih3⟩ := batch_Form.mono_l k
  unfold batch_Form.f
  repeat' first
      | (with_reducible exact ih0 _ _ _ _ _ _)
      | (with_reducible exact ih1 _ _ _ _ _ _)
      | (with_reducible exact ih2 _ _ _ _ _ _)
      | (with_reducible exact ih3 _ _ _ _ _ _ _ _)
      | (with_reducible exact LeO.refl _)
      | (with_reducible exact LeO.none _)
      | (with_reducible refine LeO.ite ?_ ?_)
      | (with_reducible refine LeO.bind ?_ (fun _ => ?_))
      | exact ih0 _ _ _ _ _ _
      | exact ih1 _ _ _ _ _ _
      | exact ih2 _ _ _ _ _ _
      | exact ih3 _ _ _ _ _ _ _ _
      | exact LeO.none _
      | refine LeO.ite ?_ ?_
      | refine LeO.bind ?_ (fun _ => ?_)
set_option maxHeartbeats 8000000 in
set_option maxRecDepth 100000 in
theorem batch_Form.calls (k : Nat) (A0 : Option Addr) (c0 : Nat) (l0 : List Int) (a1_0 : Int) (a1_1 : Int) (r1 : List (S40)) (r2 : Int) (w : World) (hr0 : Kd.C (Kd.int .i64) w A0 l0.length l0) (hc0 : l0.length ≤ c0) (h : batch_Form.f k l0 a1_0 a1_1 = some (r1, r2)) :
    Calls Try.prog 9 #[.slice A0 l0.length c0, .agg #[.int .i64 a1_0, .int .i64 a1_1]] w fun e w' => ∃ v0_ : Value, e = .returned (.tuple #[v0_, .int .i64 r2]) ∧ Kd.N k40 40 w' w.heap.size (fun k_ => (w.heap.size ≤ k_)) v0_ r1 ∧ Below w.heap.size w w' := by
  have hu26 := Try.underlying26
  have hu40 := Try.underlying40
  have HR0 := Aside0.mk hr0
  have HC0 := Aside0.mk hc0
  clear hr0 hc0
  have HB := Aside0.mk (Below.refl w.heap.size w)
  have H : ((batch_Fine.f a1_0 a1_1).bind fun t112 => (if t112 = true then (batch_Form.l0 k l0 l0 (l0.length : Int) 0 a1_0 a1_1) else (some (([] : List (S40)), 1)))) = some (r1, r2) := h
  clear h
  replace H := Option.bind_eq_some_iff.mp H
  obtain ⟨t112, A30, H⟩ := H
  replace H : (if t112 = true then (batch_Form.l0 k l0 l0 (l0.length : Int) 0 a1_0 a1_1) else (some (([] : List (S40)), 1))) = some (r1, r2) := H
  have A3 := Aside0.mk A30
  clear A30
  by_cases c4 : t112 = true
  · subst c4
    have H1 : (batch_Form.l0 k l0 l0 (l0.length : Int) 0 a1_0 a1_1) = some (r1, r2) := by rw [if_pos rfl] at H; exact H
    clear H
    have H := H1
    clear H1
    have H' := Aside0.mk H
    clear H
    go_enter Try.func9, Try.ntmps9
    go_wp2_with (first | ((with_reducible refine gate_dst (N := 3) rfl ?_); refine box_event ?hg (N := 3) ?hd (cs := #[.int .i64 a1_0, .int .i64 a1_1]) (t := 26) ?hr ?_; (case hd => rfl); (case hg => rfl); (case hr => first | (go_simp; done) | (go_simp; rfl)); intro gb111 hg w5 hbox hb; have n0_ := Aside0.mk (below_step (by repeat (first | (with_reducible first | exact HB.out | apply below_alloc | apply pw_below_drewN | apply below_drew1) | exact HB.out)) hb); have n1_ := Aside0.mk (hbox); have n2_ := Aside0.mk ((by rw [hg]; exact (below_size (by repeat (first | (with_reducible first | exact HB.out | apply below_alloc | apply pw_below_drewN | apply below_drew1) | exact HB.out))) : w.heap.size ≤ gb111)); have n3_ := Aside0.mk ((by rw [hg]; exact (below_size (by repeat (first | (with_reducible first | exact HB.out | apply below_alloc | apply pw_below_drewN | apply below_drew1) | exact HB.out))) : w.heap.size ≤ gb111)); clear HB; have HB := n0_; have BK111 := n1_; have GW111 := n2_; have GE111 := n3_; clear n0_ n1_ n2_ n3_; clear hb hbox hg; have hcz6_0 : w5.cell? ⟨gb111, 0, none⟩ = some (.int .i64 a1_0) := (blk_cell BK111.out 0).trans rfl; have hcz6_1 : w5.cell? ⟨gb111, 1, none⟩ = some (.int .i64 a1_1) := (blk_cell BK111.out 1).trans rfl; have hfz6_0 := blk_frozen BK111.out 0; have hfz6_1 := blk_frozen BK111.out 1) | (go_at_call 14; (with_reducible refine (batch_Fine.calls a1_0 a1_1 true _ A3.out).mono ?_); rintro e w7 ⟨rfl, hb⟩; have n0_ := Aside0.mk (blk_below (g := gb111) (o := .cells #[.int .i64 a1_0, .int .i64 a1_1] 26 (0, 0)) (by (with_reducible repeat (first | refine blk_drewN ?_ _ | refine blk_drew ?_ | refine blk_alloc ?_ _)); exact BK111.out) hb); have n1_ := Aside0.mk (below_step (by repeat (first | (with_reducible first | exact HB.out | apply below_alloc | apply pw_below_drewN | apply below_drew1 | refine below_set ?_ GE111.out) | exact HB.out)) hb); clear BK111; clear HB; have BK111 := n0_; have HB := n1_; clear n0_ n1_; (try clear hb); (try clear hb2); (try clear hk); (try clear hi)))
    repeat (go_quiet (first | ((with_reducible refine gate_dst (N := 3) rfl ?_); refine box_event ?hg (N := 3) ?hd (cs := #[.int .i64 a1_0, .int .i64 a1_1]) (t := 26) ?hr ?_; (case hd => rfl); (case hg => rfl); (case hr => first | (go_simp; done) | (go_simp; rfl)); intro gb111 hg w5 hbox hb; have n0_ := Aside0.mk (below_step (by repeat (first | (with_reducible first | exact HB.out | apply below_alloc | apply pw_below_drewN | apply below_drew1) | exact HB.out)) hb); have n1_ := Aside0.mk (hbox); have n2_ := Aside0.mk ((by rw [hg]; exact (below_size (by repeat (first | (with_reducible first | exact HB.out | apply below_alloc | apply pw_below_drewN | apply below_drew1) | exact HB.out))) : w.heap.size ≤ gb111)); have n3_ := Aside0.mk ((by rw [hg]; exact (below_size (by repeat (first | (with_reducible first | exact HB.out | apply below_alloc | apply pw_below_drewN | apply below_drew1) | exact HB.out))) : w.heap.size ≤ gb111)); clear HB; have HB := n0_; have BK111 := n1_; have GW111 := n2_; have GE111 := n3_; clear n0_ n1_ n2_ n3_; clear hb hbox hg; have hcz6_0 : w5.cell? ⟨gb111, 0, none⟩ = some (.int .i64 a1_0) := (blk_cell BK111.out 0).trans rfl; have hcz6_1 : w5.cell? ⟨gb111, 1, none⟩ = some (.int .i64 a1_1) := (blk_cell BK111.out 1).trans rfl; have hfz6_0 := blk_frozen BK111.out 0; have hfz6_1 := blk_frozen BK111.out 1) | (go_at_call 14; (with_reducible refine (batch_Fine.calls a1_0 a1_1 true _ A3.out).mono ?_); rintro e w7 ⟨rfl, hb⟩; have n0_ := Aside0.mk (blk_below (g := gb111) (o := .cells #[.int .i64 a1_0, .int .i64 a1_1] 26 (0, 0)) (by (with_reducible repeat (first | refine blk_drewN ?_ _ | refine blk_drew ?_ | refine blk_alloc ?_ _)); exact BK111.out) hb); have n1_ := Aside0.mk (below_step (by repeat (first | (with_reducible first | exact HB.out | apply below_alloc | apply pw_below_drewN | apply below_drew1 | refine below_set ?_ GE111.out) | exact HB.out)) hb); clear BK111; clear HB; have BK111 := n0_; have HB := n1_; clear n0_ n1_; (try clear hb); (try clear hb2); (try clear hk); (try clear hi))); try go_wp2_with (first | ((with_reducible refine gate_dst (N := 3) rfl ?_); refine box_event ?hg (N := 3) ?hd (cs := #[.int .i64 a1_0, .int .i64 a1_1]) (t := 26) ?hr ?_; (case hd => rfl); (case hg => rfl); (case hr => first | (go_simp; done) | (go_simp; rfl)); intro gb111 hg w5 hbox hb; have n0_ := Aside0.mk (below_step (by repeat (first | (with_reducible first | exact HB.out | apply below_alloc | apply pw_below_drewN | apply below_drew1) | exact HB.out)) hb); have n1_ := Aside0.mk (hbox); have n2_ := Aside0.mk ((by rw [hg]; exact (below_size (by repeat (first | (with_reducible first | exact HB.out | apply below_alloc | apply pw_below_drewN | apply below_drew1) | exact HB.out))) : w.heap.size ≤ gb111)); have n3_ := Aside0.mk ((by rw [hg]; exact (below_size (by repeat (first | (with_reducible first | exact HB.out | apply below_alloc | apply pw_below_drewN | apply below_drew1) | exact HB.out))) : w.heap.size ≤ gb111)); clear HB; have HB := n0_; have BK111 := n1_; have GW111 := n2_; have GE111 := n3_; clear n0_ n1_ n2_ n3_; clear hb hbox hg; have hcz6_0 : w5.cell? ⟨gb111, 0, none⟩ = some (.int .i64 a1_0) := (blk_cell BK111.out 0).trans rfl; have hcz6_1 : w5.cell? ⟨gb111, 1, none⟩ = some (.int .i64 a1_1) := (blk_cell BK111.out 1).trans rfl; have hfz6_0 := blk_frozen BK111.out 0; have hfz6_1 := blk_frozen BK111.out 1) | (go_at_call 14; (with_reducible refine (batch_Fine.calls a1_0 a1_1 true _ A3.out).mono ?_); rintro e w7 ⟨rfl, hb⟩; have n0_ := Aside0.mk (blk_below (g := gb111) (o := .cells #[.int .i64 a1_0, .int .i64 a1_1] 26 (0, 0)) (by (with_reducible repeat (first | refine blk_drewN ?_ _ | refine blk_drew ?_ | refine blk_alloc ?_ _)); exact BK111.out) hb); have n1_ := Aside0.mk (below_step (by repeat (first | (with_reducible first | exact HB.out | apply below_alloc | apply pw_below_drewN | apply below_drew1 | refine below_set ?_ GE111.out) | exact HB.out)) hb); clear BK111; clear HB; have BK111 := n0_; have HB := n1_; clear n0_ n1_; (try clear hb); (try clear hb2); (try clear hk); (try clear hi))))
    go_loopg [4, 19] k (fun kq v4 v19 w' => v4 = .slice none 0 0 ∧ ∃ (x19_1 : Int), v19 = .int .i64 x19_1 ∧ Aside0 (batch_Form.l0 kq l0 l0 (l0.length : Int) x19_1 a1_0 a1_1 = some (r1, r2)) ∧ Aside0 (kq ≤ k) ∧ Aside0 (w'.heap[gb111]? = some (.cells #[.int .i64 a1_0, .int .i64 a1_1] 26 (0, 0))) ∧ Aside0 (Below w.heap.size w w'))
    case atStart => exact ⟨rfl, (0), (by first | rfl | (simp; done) | (simp [*]; done)), H', ⟨Nat.le_refl _⟩, ⟨by (with_reducible repeat (first | refine blk_drewN ?_ _ | refine blk_drew ?_ | refine blk_alloc ?_ _)); exact BK111.out⟩, ⟨by repeat (first | (with_reducible first | exact HB.out | apply below_alloc | apply pw_below_drewN | apply below_drew1 | refine below_set ?_ GE111.out) | exact HB.out)⟩⟩
    case round =>
      clear H'
      try clear p2
      try clear c4
      try clear hcz6_0
      try clear hcz6_1
      try clear hfz6_0
      try clear hfz6_1
      obtain ⟨rfl, x19_1, rfl, HA, HK1, BK111, HB⟩ := hrel
      cases gk with
      | zero => exact absurd HA.out (by simp [batch_Form.l0])
      | succ k1 =>
        have H := HA.out
        clear HA
        simp only [batch_Form.l0] at H
        by_cases c8 : x19_1 < (l0.length : Int)
        · rw [if_pos c8] at H
          have c8b0 : decide (x19_1 < (l0.length : Int)) = true := decide_eq_true c8
          clear c8
          by_cases c9 : 0 ≤ x19_1
          · rw [if_pos c9] at H
            have c9b0 : decide (0 ≤ x19_1) = true := decide_eq_true c9
            clear c9
            by_cases c10 : x19_1 < (l0.length : Int)
            · rw [if_pos c10] at H
              have c10b0 : decide (x19_1 < (l0.length : Int)) = true := decide_eq_true c10
              clear c10
              by_cases c11 : (rd l0 x19_1) < 0
              · rw [if_pos c11] at H
                have c11b0 : decide ((rd l0 x19_1) < 0) = true := decide_eq_true c11
                clear c11
                simp only [Option.some.injEq, Prod.mk.injEq] at H
                obtain ⟨rfl, rfl⟩ := H
                have p113 : 0 ≤ (x19_1 : Int) := of_decide_eq_true (by first | (with_reducible assumption) | assumption)
                have q113 : x19_1 < (l0.length : Int) := of_decide_eq_true (by first | (with_reducible assumption) | assumption)
                obtain ⟨ad113, e113, hx113_0⟩ := Kd.at_int HR0.out x19_1 p113 q113
                cases e113
                replace hx113_0 := (HB.out.cell (World.block_lt_of_cell? w _ hx113_0)).trans hx113_0
                replace p113 := eq_true p113
                replace q113 := eq_true q113
                go_wp2
                repeat (go_quiet (fail); try go_wp2)
                go_ret2
                exact ⟨_, by first | rfl | (simp [errW_none, errW_some] <;> rfl) | (simp [*, errW_none, errW_some] <;> rfl), by first | exact Kd.S_nil _ _ _ _ _ | exact Kd.N_nil _ _ _ _ _ | exact Kd.V_nil _ _ _ _ _ | exact Kd.Q_nil _ _ _ _ _ | exact Kd.R_nil _ _ _ _ _, by repeat (first | (with_reducible first | exact HB.out | apply below_alloc | apply pw_below_drewN | apply below_drew1 | refine below_set ?_ GE111.out) | exact HB.out)⟩
              · rw [if_neg c11] at H
                have c11b0 : decide ((rd l0 x19_1) < 0) = false := decide_eq_false c11
                clear c11
                by_cases c12 : (rd l0 x19_1) > 1073741824
                · rw [if_pos c12] at H
                  have c12b0 : decide (1073741824 < (rd l0 x19_1)) = true := decide_eq_true c12
                  clear c12
                  simp only [Option.some.injEq, Prod.mk.injEq] at H
                  obtain ⟨rfl, rfl⟩ := H
                  have p113 : 0 ≤ (x19_1 : Int) := of_decide_eq_true (by first | (with_reducible assumption) | assumption)
                  have q113 : x19_1 < (l0.length : Int) := of_decide_eq_true (by first | (with_reducible assumption) | assumption)
                  obtain ⟨ad113, e113, hx113_0⟩ := Kd.at_int HR0.out x19_1 p113 q113
                  cases e113
                  replace hx113_0 := (HB.out.cell (World.block_lt_of_cell? w _ hx113_0)).trans hx113_0
                  replace p113 := eq_true p113
                  replace q113 := eq_true q113
                  go_wp2
                  repeat (go_quiet (fail); try go_wp2)
                  go_ret2
                  exact ⟨_, by first | rfl | (simp [errW_none, errW_some] <;> rfl) | (simp [*, errW_none, errW_some] <;> rfl), by first | exact Kd.S_nil _ _ _ _ _ | exact Kd.N_nil _ _ _ _ _ | exact Kd.V_nil _ _ _ _ _ | exact Kd.Q_nil _ _ _ _ _ | exact Kd.R_nil _ _ _ _ _, by repeat (first | (with_reducible first | exact HB.out | apply below_alloc | apply pw_below_drewN | apply below_drew1 | refine below_set ?_ GE111.out) | exact HB.out)⟩
                · rw [if_neg c12] at H
                  have c12b0 : decide (1073741824 < (rd l0 x19_1)) = false := decide_eq_false c12
                  clear c12
                  by_cases c13 : x19_1 > 0
                  · rw [if_pos c13] at H
                    have c13b0 : decide (0 < x19_1) = true := decide_eq_true c13
                    clear c13
                    obtain ⟨ji14, hji14⟩ : ∃ j_ : Int, (wrap64 (x19_1 - 1)) = j_ := ⟨_, rfl⟩
                    replace H : (if 0 ≤ (ji14) then (if (ji14) < (l0.length : Int) then (if (rd l0 x19_1) < (rd l0 (ji14)) then (some (([] : List (S40)), 1)) else (batch_Form.l0 k1 l0 l0 (l0.length : Int) (wrap64 (x19_1 + 1)) a1_0 a1_1)) else (none)) else (none)) = some (r1, r2) := by first | (rw [hji14] at H; exact H) | (simp only [hji14] at H ⊢; exact H)
                    have hji14w : (IntKind.i64.wrap (x19_1 - 1)) = ji14 := (i64_w _).trans hji14
                    by_cases c15 : 0 ≤ (ji14)
                    · rw [if_pos c15] at H
                      have c15b0 : decide (0 ≤ (ji14)) = true := decide_eq_true c15
                      clear c15
                      by_cases c16 : (ji14) < (l0.length : Int)
                      · rw [if_pos c16] at H
                        have c16b0 : decide ((ji14) < (l0.length : Int)) = true := decide_eq_true c16
                        clear c16
                        by_cases c17 : (rd l0 x19_1) < (rd l0 (ji14))
                        · rw [if_pos c17] at H
                          have c17b0 : decide ((rd l0 x19_1) < (rd l0 (ji14))) = true := decide_eq_true c17
                          clear c17
                          simp only [Option.some.injEq, Prod.mk.injEq] at H
                          obtain ⟨rfl, rfl⟩ := H
                          have p113 : 0 ≤ (x19_1 : Int) := of_decide_eq_true (by first | (with_reducible assumption) | assumption)
                          have q113 : x19_1 < (l0.length : Int) := of_decide_eq_true (by first | (with_reducible assumption) | assumption)
                          obtain ⟨ad113, e113, hx113_0⟩ := Kd.at_int HR0.out x19_1 p113 q113
                          cases e113
                          replace hx113_0 := (HB.out.cell (World.block_lt_of_cell? w _ hx113_0)).trans hx113_0
                          replace p113 := eq_true p113
                          replace q113 := eq_true q113
                          have p114 : 0 ≤ ((ji14) : Int) := of_decide_eq_true (by first | (with_reducible assumption) | assumption)
                          have q114 : (ji14) < (l0.length : Int) := of_decide_eq_true (by first | (with_reducible assumption) | assumption)
                          obtain ⟨ad114, e114, hx114_0⟩ := Kd.at_int HR0.out (ji14) p114 q114
                          obtain rfl : ad113 = ad114 := (by injection e114)
                          replace hx114_0 := (HB.out.cell (World.block_lt_of_cell? w _ hx114_0)).trans hx114_0
                          replace p114 := eq_true p114
                          replace q114 := eq_true q114
                          go_wp2
                          repeat (go_quiet (fail); try go_wp2)
                          go_ret2
                          exact ⟨_, by first | rfl | (simp [errW_none, errW_some] <;> rfl) | (simp only [← hji14]; first | rfl | (simp [errW_none, errW_some] <;> rfl)) | (simp [*, errW_none, errW_some] <;> rfl), by first | exact Kd.S_nil _ _ _ _ _ | exact Kd.N_nil _ _ _ _ _ | exact Kd.V_nil _ _ _ _ _ | exact Kd.Q_nil _ _ _ _ _ | exact Kd.R_nil _ _ _ _ _, by repeat (first | (with_reducible first | exact HB.out | apply below_alloc | apply pw_below_drewN | apply below_drew1 | refine below_set ?_ GE111.out) | exact HB.out)⟩
                        · rw [if_neg c17] at H
                          have c17b0 : decide ((rd l0 x19_1) < (rd l0 (ji14))) = false := decide_eq_false c17
                          clear c17
                          have H' := Aside0.mk H
                          clear H
                          have p113 : 0 ≤ (x19_1 : Int) := of_decide_eq_true (by first | (with_reducible assumption) | assumption)
                          have q113 : x19_1 < (l0.length : Int) := of_decide_eq_true (by first | (with_reducible assumption) | assumption)
                          obtain ⟨ad113, e113, hx113_0⟩ := Kd.at_int HR0.out x19_1 p113 q113
                          cases e113
                          replace hx113_0 := (HB.out.cell (World.block_lt_of_cell? w _ hx113_0)).trans hx113_0
                          replace p113 := eq_true p113
                          replace q113 := eq_true q113
                          have p114 : 0 ≤ ((ji14) : Int) := of_decide_eq_true (by first | (with_reducible assumption) | assumption)
                          have q114 : (ji14) < (l0.length : Int) := of_decide_eq_true (by first | (with_reducible assumption) | assumption)
                          obtain ⟨ad114, e114, hx114_0⟩ := Kd.at_int HR0.out (ji14) p114 q114
                          obtain rfl : ad113 = ad114 := (by injection e114)
                          replace hx114_0 := (HB.out.cell (World.block_lt_of_cell? w _ hx114_0)).trans hx114_0
                          replace p114 := eq_true p114
                          replace q114 := eq_true q114
                          go_wp2
                          repeat (go_quiet (fail); try go_wp2)
                          go_roundg k1
                          case measure => have := HK1.out; omega
                          case rel => exact ⟨rfl, (wrap64 (x19_1 + 1)), (by first | rfl | (simp; done) | (simp [*]; done)), H', ⟨by have := HK1.out; omega⟩, ⟨by (with_reducible repeat (first | refine blk_drewN ?_ _ | refine blk_drew ?_ | refine blk_alloc ?_ _)); exact BK111.out⟩, ⟨by repeat (first | (with_reducible first | exact HB.out | apply below_alloc | apply pw_below_drewN | apply below_drew1 | refine below_set ?_ GE111.out) | exact HB.out)⟩⟩
                      · rw [if_neg c16] at H
                        exact absurd H (by simp)
                    · rw [if_neg c15] at H
                      exact absurd H (by simp)
                  · rw [if_neg c13] at H
                    have c13b0 : decide (0 < x19_1) = false := decide_eq_false c13
                    clear c13
                    have H' := Aside0.mk H
                    clear H
                    have p113 : 0 ≤ (x19_1 : Int) := of_decide_eq_true (by first | (with_reducible assumption) | assumption)
                    have q113 : x19_1 < (l0.length : Int) := of_decide_eq_true (by first | (with_reducible assumption) | assumption)
                    obtain ⟨ad113, e113, hx113_0⟩ := Kd.at_int HR0.out x19_1 p113 q113
                    cases e113
                    replace hx113_0 := (HB.out.cell (World.block_lt_of_cell? w _ hx113_0)).trans hx113_0
                    replace p113 := eq_true p113
                    replace q113 := eq_true q113
                    go_wp2
                    repeat (go_quiet (fail); try go_wp2)
                    go_roundg k1
                    case measure => have := HK1.out; omega
                    case rel => exact ⟨rfl, (wrap64 (x19_1 + 1)), (by first | rfl | (simp; done) | (simp [*]; done)), H', ⟨by have := HK1.out; omega⟩, ⟨by (with_reducible repeat (first | refine blk_drewN ?_ _ | refine blk_drew ?_ | refine blk_alloc ?_ _)); exact BK111.out⟩, ⟨by repeat (first | (with_reducible first | exact HB.out | apply below_alloc | apply pw_below_drewN | apply below_drew1 | refine below_set ?_ GE111.out) | exact HB.out)⟩⟩
            · rw [if_neg c10] at H
              exact absurd H (by simp)
          · rw [if_neg c9] at H
            exact absurd H (by simp)
        · rw [if_neg c8] at H
          have c8b0 : decide (x19_1 < (l0.length : Int)) = false := decide_eq_false c8
          clear c8
          by_cases c18 : (l0.length : Int) > 65536
          · rw [if_pos c18] at H
            have c18b0 : decide (65536 < (l0.length : Int)) = true := decide_eq_true c18
            have c18b1 : decide (65536 < l0.length) = true := decide_eq_true (by omega)
            clear c18
            simp only [Option.some.injEq, Prod.mk.injEq] at H
            obtain ⟨rfl, rfl⟩ := H
            go_wp2
            repeat (go_quiet (fail); try go_wp2)
            go_ret2
            exact ⟨_, by first | rfl | (simp [errW_none, errW_some] <;> rfl) | (simp [*, errW_none, errW_some] <;> rfl), by first | exact Kd.S_nil _ _ _ _ _ | exact Kd.N_nil _ _ _ _ _ | exact Kd.V_nil _ _ _ _ _ | exact Kd.Q_nil _ _ _ _ _ | exact Kd.R_nil _ _ _ _ _, by repeat (first | (with_reducible first | exact HB.out | apply below_alloc | apply pw_below_drewN | apply below_drew1 | refine below_set ?_ GE111.out) | exact HB.out)⟩
          · rw [if_neg c18] at H
            have c18b0 : decide (65536 < (l0.length : Int)) = false := decide_eq_false c18
            have c18b1 : decide (65536 < l0.length) = false := decide_eq_false (by omega)
            clear c18
            by_cases c19 : 0 ≤ (l0.length : Int)
            · rw [if_pos c19] at H
              have c19b0 := eq_true c19
              have c19b1 : decide (0 ≤ (l0.length : Int)) = true := decide_eq_true c19
              clear c19
              by_cases c20 : ((l0.length : Int) : Int).toNat ≤ 35184372088832
              · rw [if_pos c20] at H
                have c20b0 := eq_true c20
                have c20b1 : decide (((l0.length : Int) : Int).toNat ≤ 35184372088832) = true := decide_eq_true c20
                clear c20
                obtain ⟨y115, hy115⟩ : ∃ y_ : List Int, y_ = (List.replicate ((l0.length : Int) : Int).toNat 0) := ⟨_, rfl⟩
                replace H : (batch_Form.l1 k1 l0 y115 (y115.length : Int) 0 a1_0 a1_1) = some (r1, r2) := by first | (rw [hy115]; with_reducible exact H) | (have H2_ := (Option.bind_some _ _).symm.trans H; rw [hy115]; with_reducible exact H2_) | (have H2_ := (Option.bind_some _ _).symm.trans H; with_reducible exact H2_) | with_reducible exact H | (rw [hy115]; exact H) | exact H
                have Ny115 := Aside0.mk hy115
                clear hy115
                have H' := Aside0.mk H
                clear H
                go_wp2_with (first | ((with_reducible refine gate_dst (N := 49) rfl ?_); refine Kd.R_make (Kd.int .i64) _ 3 rfl (N := 49) rfl 22 _ _ rfl (l0.length : Int) rfl rfl Try.underlying22 (.int .i64 0) 8 info3 rfl (by decide) (by omega) 0 (ok := fun _ => True) (okp := fun _ => True) rfl (fun _ hk => hk) trivial (of_decide_eq_true (by first | (with_reducible assumption) | assumption)) (Nat.le_trans (Nat.mul_le_mul_right _ (of_decide_eq_true (by first | (with_reducible assumption) | assumption) : (l0.length : Int).toNat ≤ 35184372088832)) (by omega)) (Below.refl _ _) (Nat.le_refl _) ?_; intro v116 w21 ho22 hb hg_ hnew_; clear hg_ hnew_; (first | rw [← Ny115.out] at ho22 | (simp only [Int.reduceToNat] at ho22; rw [← Ny115.out] at ho22)); have n0_ := Aside0.mk (Kd.R_lower (Kd.R_newM (M := fun k_ => (w.heap.size ≤ k_)) ho22 (below_size (by repeat (first | (with_reducible first | exact HB.out | apply below_alloc | apply pw_below_drewN | apply below_drew1 | refine below_set ?_ GE111.out) | exact HB.out))) (fun k_ h_ => h_)) (below_size (by repeat (first | (with_reducible first | exact HB.out | apply below_alloc | apply pw_below_drewN | apply below_drew1 | refine below_set ?_ GE111.out) | exact HB.out)))); have n1_ := Aside0.mk (blk_below (g := gb111) (o := .cells #[.int .i64 a1_0, .int .i64 a1_1] 26 (0, 0)) (by (with_reducible repeat (first | refine blk_drewN ?_ _ | refine blk_drew ?_ | refine blk_alloc ?_ _)); exact BK111.out) hb); have n2_ := Aside0.mk (below_step (by repeat (first | (with_reducible first | exact HB.out | apply below_alloc | apply pw_below_drewN | apply below_drew1 | refine below_set ?_ GE111.out) | exact HB.out)) hb); clear BK111; clear HB; have HO117 := n0_; have BK111 := n1_; have HB := n2_; clear n0_ n1_ n2_; clear hb ho22; obtain ⟨Ao23, co23, eo23⟩ := Kd.R_slice HO117.out; subst eo23))
                repeat (go_quiet (first | ((with_reducible refine gate_dst (N := 49) rfl ?_); refine Kd.R_make (Kd.int .i64) _ 3 rfl (N := 49) rfl 22 _ _ rfl (l0.length : Int) rfl rfl Try.underlying22 (.int .i64 0) 8 info3 rfl (by decide) (by omega) 0 (ok := fun _ => True) (okp := fun _ => True) rfl (fun _ hk => hk) trivial (of_decide_eq_true (by first | (with_reducible assumption) | assumption)) (Nat.le_trans (Nat.mul_le_mul_right _ (of_decide_eq_true (by first | (with_reducible assumption) | assumption) : (l0.length : Int).toNat ≤ 35184372088832)) (by omega)) (Below.refl _ _) (Nat.le_refl _) ?_; intro v116 w21 ho22 hb hg_ hnew_; clear hg_ hnew_; (first | rw [← Ny115.out] at ho22 | (simp only [Int.reduceToNat] at ho22; rw [← Ny115.out] at ho22)); have n0_ := Aside0.mk (Kd.R_lower (Kd.R_newM (M := fun k_ => (w.heap.size ≤ k_)) ho22 (below_size (by repeat (first | (with_reducible first | exact HB.out | apply below_alloc | apply pw_below_drewN | apply below_drew1 | refine below_set ?_ GE111.out) | exact HB.out))) (fun k_ h_ => h_)) (below_size (by repeat (first | (with_reducible first | exact HB.out | apply below_alloc | apply pw_below_drewN | apply below_drew1 | refine below_set ?_ GE111.out) | exact HB.out)))); have n1_ := Aside0.mk (blk_below (g := gb111) (o := .cells #[.int .i64 a1_0, .int .i64 a1_1] 26 (0, 0)) (by (with_reducible repeat (first | refine blk_drewN ?_ _ | refine blk_drew ?_ | refine blk_alloc ?_ _)); exact BK111.out) hb); have n2_ := Aside0.mk (below_step (by repeat (first | (with_reducible first | exact HB.out | apply below_alloc | apply pw_below_drewN | apply below_drew1 | refine below_set ?_ GE111.out) | exact HB.out)) hb); clear BK111; clear HB; have HO117 := n0_; have BK111 := n1_; have HB := n2_; clear n0_ n1_ n2_; clear hb ho22; obtain ⟨Ao23, co23, eo23⟩ := Kd.R_slice HO117.out; subst eo23)); try go_wp2_with (first | ((with_reducible refine gate_dst (N := 49) rfl ?_); refine Kd.R_make (Kd.int .i64) _ 3 rfl (N := 49) rfl 22 _ _ rfl (l0.length : Int) rfl rfl Try.underlying22 (.int .i64 0) 8 info3 rfl (by decide) (by omega) 0 (ok := fun _ => True) (okp := fun _ => True) rfl (fun _ hk => hk) trivial (of_decide_eq_true (by first | (with_reducible assumption) | assumption)) (Nat.le_trans (Nat.mul_le_mul_right _ (of_decide_eq_true (by first | (with_reducible assumption) | assumption) : (l0.length : Int).toNat ≤ 35184372088832)) (by omega)) (Below.refl _ _) (Nat.le_refl _) ?_; intro v116 w21 ho22 hb hg_ hnew_; clear hg_ hnew_; (first | rw [← Ny115.out] at ho22 | (simp only [Int.reduceToNat] at ho22; rw [← Ny115.out] at ho22)); have n0_ := Aside0.mk (Kd.R_lower (Kd.R_newM (M := fun k_ => (w.heap.size ≤ k_)) ho22 (below_size (by repeat (first | (with_reducible first | exact HB.out | apply below_alloc | apply pw_below_drewN | apply below_drew1 | refine below_set ?_ GE111.out) | exact HB.out))) (fun k_ h_ => h_)) (below_size (by repeat (first | (with_reducible first | exact HB.out | apply below_alloc | apply pw_below_drewN | apply below_drew1 | refine below_set ?_ GE111.out) | exact HB.out)))); have n1_ := Aside0.mk (blk_below (g := gb111) (o := .cells #[.int .i64 a1_0, .int .i64 a1_1] 26 (0, 0)) (by (with_reducible repeat (first | refine blk_drewN ?_ _ | refine blk_drew ?_ | refine blk_alloc ?_ _)); exact BK111.out) hb); have n2_ := Aside0.mk (below_step (by repeat (first | (with_reducible first | exact HB.out | apply below_alloc | apply pw_below_drewN | apply below_drew1 | refine below_set ?_ GE111.out) | exact HB.out)) hb); clear BK111; clear HB; have HO117 := n0_; have BK111 := n1_; have HB := n2_; clear n0_ n1_ n2_; clear hb ho22; obtain ⟨Ao23, co23, eo23⟩ := Kd.R_slice HO117.out; subst eo23)))
                go_loopg [52] k1 (fun kq v52 w' => ∃ (x8_2 : List Int) (x52_2 : Int), v52 = .int .i64 x52_2 ∧ Aside0 (batch_Form.l1 kq l0 x8_2 (y115.length : Int) x52_2 a1_0 a1_1 = some (r1, r2)) ∧ Aside0 (kq ≤ k1) ∧ Aside0 (Kd.R (Kd.int .i64) 3 w' w.heap.size (fun k_ => (w.heap.size ≤ k_)) (.slice Ao23 y115.length co23) x8_2) ∧ Aside0 (w'.heap[gb111]? = some (.cells #[.int .i64 a1_0, .int .i64 a1_1] 26 (0, 0))) ∧ Aside0 (Below w.heap.size w w'))
                case atStart => exact ⟨(y115), (0), (by first | rfl | (simp; done) | (simp [*]; done)), H', ⟨Nat.le_refl _⟩, ⟨by (with_reducible repeat (first | apply Kd.R_alloc | apply Kd.R_drewN | apply Kd.R_drew)); exact Kd.R_mono HO117.out (fun _ hk => hk.1)⟩, ⟨by (with_reducible repeat (first | refine blk_drewN ?_ _ | refine blk_drew ?_ | refine blk_alloc ?_ _)); exact BK111.out⟩, ⟨by repeat (first | (with_reducible first | exact HB.out | apply below_alloc | apply pw_below_drewN | apply below_drew1 | refine below_set ?_ GE111.out) | exact HB.out)⟩⟩
                case round =>
                  clear H'
                  try clear c1
                  try clear p1
                  try clear q1
                  try clear hx1
                  try clear c2
                  try clear p2
                  try clear c4
                  try clear p6
                  try clear c8
                  try clear c8b0
                  try clear c9
                  try clear c9b0
                  try clear c10
                  try clear c10b0
                  try clear c11
                  try clear c11b0
                  try clear p11
                  try clear q11
                  try clear hx11
                  try clear c12
                  try clear c12b0
                  try clear c13
                  try clear c13b0
                  try clear c15
                  try clear c15b0
                  try clear c16
                  try clear c16b0
                  try clear c17
                  try clear c17b0
                  try clear c18
                  try clear c18b0
                  try clear c18b1
                  try clear c19
                  try clear c19b0
                  try clear c19b1
                  try clear c20
                  try clear c20b0
                  try clear c20b1
                  try clear hcz6_0
                  try clear hcz6_1
                  try clear hfz6_0
                  try clear hfz6_1
                  try clear hx113_0
                  try clear hx114_0
                  try clear p113
                  try clear p114
                  try clear p2
                  try clear q113
                  try clear q114
                  obtain ⟨x8_2, x52_2, rfl, HA, HK2, HO_8, BK111, HB⟩ := hrel
                  have hl8_2 := (Kd.R_reads' HO_8.out).1
                  rw [hl8_2] at HO_8
                  (try simp only [hl8_2])
                  (try simp only [hl8_2] at BK111)
                  cases gk with
                  | zero => exact absurd HA.out (by simp [batch_Form.l1])
                  | succ k2 =>
                    have H := HA.out
                    clear HA
                    simp only [batch_Form.l1] at H
                    by_cases c24 : x52_2 < (y115.length : Int)
                    · rw [if_pos c24] at H
                      have c24b0 : decide (x52_2 < (y115.length : Int)) = true := decide_eq_true c24
                      clear c24
                      by_cases c25 : 0 ≤ x52_2
                      · rw [if_pos c25] at H
                        have c25b0 : decide (0 ≤ x52_2) = true := decide_eq_true c25
                        clear c25
                        by_cases c26 : x52_2 < (x8_2.length : Int)
                        · rw [if_pos c26] at H
                          have c26b0 : decide (x52_2 < (x8_2.length : Int)) = true := decide_eq_true c26
                          clear c26
                          obtain ⟨y118, hy118⟩ : ∃ y_ : List Int, y_ = (x8_2.set (x52_2 : Int).toNat x52_2) := ⟨_, rfl⟩
                          replace H : (batch_Form.l1 k2 l0 y118 (y115.length : Int) (wrap64 (x52_2 + 1)) a1_0 a1_1) = some (r1, r2) := by first | (rw [hy118]; with_reducible exact H) | (have H2_ := (Option.bind_some _ _).symm.trans H; rw [hy118]; with_reducible exact H2_) | (have H2_ := (Option.bind_some _ _).symm.trans H; with_reducible exact H2_) | with_reducible exact H | (rw [hy118]; exact H) | exact H
                          have Ny118 := Aside0.mk hy118
                          clear hy118
                          have H' := Aside0.mk H
                          clear H
                          have p27 : 0 ≤ (x52_2 : Int) := of_decide_eq_true (by first | (with_reducible assumption) | assumption)
                          have q27 : (x52_2 : Int) < ((x8_2.length : Int) : Int) := of_decide_eq_true (by first | (with_reducible assumption) | assumption)
                          obtain ⟨go27, co27, eo27, gb27, gl27, cl27, HG27⟩ := Kd.R_form HO_8.out (by omega)
                          (first | cases eo27 | (injection eo27 with ea_ en_ ec_; (first | subst ea_ | (injection ea_ with ea_; subst ea_)); subst ec_; clear en_))
                          have GB27 := Aside0.mk gb27
                          have GG27 := Aside0.mk HG27
                          clear gb27 gl27 HG27
                          obtain ⟨hx27_0, hf27_0⟩ := Kd.R_celln 0 HO_8.out (x52_2 : Int) p27 q27
                          replace p27 := eq_true p27
                          replace q27 := eq_true q27
                          have HP28 := Kd.R_putg HO_8.out (x52_2 : Int) x52_2
                          go_wp2_with (first | ((with_reducible refine gate_store (t := 3) (p := 58) rfl ?_); (try (rw [drewN_self wr]; generalize hq_ : World.drewN wr _ = wr; have n0_ := Aside0.mk (Kd.R_at hq_ HO_8.out); have n1_ := Aside0.mk (blk_at hq_ BK111.out); have n2_ := Aside0.mk (below_at hq_ HB.out); clear hq_ HO_8 BK111 HB; have HO_8 := n0_; have BK111 := n1_; have HB := n2_; clear n0_ n1_ n2_; (try (have HP28 := Kd.R_putg HO_8.out (x52_2 : Int) x52_2)))); refine store_event (t := 3) (p := 58) (v := ?vo_w29) (w1 := (wr.setCell ⟨go27, (x52_2 : Int).toNat, none⟩ (.int .i64 x52_2))) ?hg ?ho ?hn ?hr ?_; (case ho => rfl); (case hg => rfl); (case hn => rfl); (case hr => first | (go_simp; done) | (go_simp; rfl)); intro w29 hw; have hg : wr.grownBy w29 (some go27) := (by rw [hw]; exact HP28.2); have hp_ : Kd.R (Kd.int .i64) 3 w29 w.heap.size (fun k_ => (w.heap.size ≤ k_)) (.slice (some ⟨go27, 0, none⟩) x8_2.length co23) y118 := (by rw [hw, Ny118.out]; exact HP28.1); clear HP28; have n0_ := Aside0.mk (hp_); have n1_ := Aside0.mk (blk_grown (g := gb111) (o := .cells #[.int .i64 a1_0, .int .i64 a1_1] 26 (0, 0)) (by (with_reducible repeat (first | refine blk_drewN ?_ _ | refine blk_drew ?_ | refine blk_alloc ?_ _)); exact BK111.out) hg (Kd.R_ne HO_8.out BK111.out (by decide))); have n2_ := Aside0.mk ((by rw [hw]; exact below_set (HB.out) GB27.out : Below w.heap.size w w29)); clear HO_8; clear BK111; clear HB; have HO_8 := n0_; have BK111 := n1_; have HB := n2_; clear n0_ n1_ n2_; clear hg hw hp_))
                          repeat (go_quiet (first | ((with_reducible refine gate_store (t := 3) (p := 58) rfl ?_); (try (rw [drewN_self wr]; generalize hq_ : World.drewN wr _ = wr; have n0_ := Aside0.mk (Kd.R_at hq_ HO_8.out); have n1_ := Aside0.mk (blk_at hq_ BK111.out); have n2_ := Aside0.mk (below_at hq_ HB.out); clear hq_ HO_8 BK111 HB; have HO_8 := n0_; have BK111 := n1_; have HB := n2_; clear n0_ n1_ n2_; (try (have HP28 := Kd.R_putg HO_8.out (x52_2 : Int) x52_2)))); refine store_event (t := 3) (p := 58) (v := ?vo_w29) (w1 := (wr.setCell ⟨go27, (x52_2 : Int).toNat, none⟩ (.int .i64 x52_2))) ?hg ?ho ?hn ?hr ?_; (case ho => rfl); (case hg => rfl); (case hn => rfl); (case hr => first | (go_simp; done) | (go_simp; rfl)); intro w29 hw; have hg : wr.grownBy w29 (some go27) := (by rw [hw]; exact HP28.2); have hp_ : Kd.R (Kd.int .i64) 3 w29 w.heap.size (fun k_ => (w.heap.size ≤ k_)) (.slice (some ⟨go27, 0, none⟩) x8_2.length co23) y118 := (by rw [hw, Ny118.out]; exact HP28.1); clear HP28; have n0_ := Aside0.mk (hp_); have n1_ := Aside0.mk (blk_grown (g := gb111) (o := .cells #[.int .i64 a1_0, .int .i64 a1_1] 26 (0, 0)) (by (with_reducible repeat (first | refine blk_drewN ?_ _ | refine blk_drew ?_ | refine blk_alloc ?_ _)); exact BK111.out) hg (Kd.R_ne HO_8.out BK111.out (by decide))); have n2_ := Aside0.mk ((by rw [hw]; exact below_set (HB.out) GB27.out : Below w.heap.size w w29)); clear HO_8; clear BK111; clear HB; have HO_8 := n0_; have BK111 := n1_; have HB := n2_; clear n0_ n1_ n2_; clear hg hw hp_)); try go_wp2_with (first | ((with_reducible refine gate_store (t := 3) (p := 58) rfl ?_); (try (rw [drewN_self wr]; generalize hq_ : World.drewN wr _ = wr; have n0_ := Aside0.mk (Kd.R_at hq_ HO_8.out); have n1_ := Aside0.mk (blk_at hq_ BK111.out); have n2_ := Aside0.mk (below_at hq_ HB.out); clear hq_ HO_8 BK111 HB; have HO_8 := n0_; have BK111 := n1_; have HB := n2_; clear n0_ n1_ n2_; (try (have HP28 := Kd.R_putg HO_8.out (x52_2 : Int) x52_2)))); refine store_event (t := 3) (p := 58) (v := ?vo_w29) (w1 := (wr.setCell ⟨go27, (x52_2 : Int).toNat, none⟩ (.int .i64 x52_2))) ?hg ?ho ?hn ?hr ?_; (case ho => rfl); (case hg => rfl); (case hn => rfl); (case hr => first | (go_simp; done) | (go_simp; rfl)); intro w29 hw; have hg : wr.grownBy w29 (some go27) := (by rw [hw]; exact HP28.2); have hp_ : Kd.R (Kd.int .i64) 3 w29 w.heap.size (fun k_ => (w.heap.size ≤ k_)) (.slice (some ⟨go27, 0, none⟩) x8_2.length co23) y118 := (by rw [hw, Ny118.out]; exact HP28.1); clear HP28; have n0_ := Aside0.mk (hp_); have n1_ := Aside0.mk (blk_grown (g := gb111) (o := .cells #[.int .i64 a1_0, .int .i64 a1_1] 26 (0, 0)) (by (with_reducible repeat (first | refine blk_drewN ?_ _ | refine blk_drew ?_ | refine blk_alloc ?_ _)); exact BK111.out) hg (Kd.R_ne HO_8.out BK111.out (by decide))); have n2_ := Aside0.mk ((by rw [hw]; exact below_set (HB.out) GB27.out : Below w.heap.size w w29)); clear HO_8; clear BK111; clear HB; have HO_8 := n0_; have BK111 := n1_; have HB := n2_; clear n0_ n1_ n2_; clear hg hw hp_)))
                          (try simp only [← hl8_2])
                          go_roundg k2
                          case measure => have := HK1.out; have := HK2.out; omega
                          case rel => exact ⟨(y118), (wrap64 (x52_2 + 1)), (by first | rfl | (simp; done) | (simp [*]; done)), H', ⟨by have := HK1.out; have := HK2.out; omega⟩, ⟨by (try simp only [hl8_2]); (with_reducible repeat (first | apply Kd.R_alloc | apply Kd.R_drewN | apply Kd.R_drew)); exact HO_8.out⟩, ⟨by (try simp only [hl8_2]); (with_reducible repeat (first | refine blk_drewN ?_ _ | refine blk_drew ?_ | refine blk_alloc ?_ _)); exact BK111.out⟩, ⟨by repeat (first | (with_reducible first | exact HB.out | apply below_alloc | apply pw_below_drewN | apply below_drew1 | refine below_set ?_ GE111.out) | exact HB.out)⟩⟩
                        · rw [if_neg c26] at H
                          exact absurd H (by simp)
                      · rw [if_neg c25] at H
                        exact absurd H (by simp)
                    · rw [if_neg c24] at H
                      have c24b0 : decide (x52_2 < (y115.length : Int)) = false := decide_eq_false c24
                      (try simp only [hl8_2] at c24b0)
                      clear c24
                      have H' := Aside0.mk H
                      clear H
                      go_wp2
                      repeat (go_quiet (fail); try go_wp2)
                      go_loopg [4, 10] k2 (fun kq v4 v10 w' => ∃ (x4_3 : List (S40)) (x10_3 : Int), v10 = .int .i64 x10_3 ∧ Aside0 (batch_Form.l2 kq l0 x4_3 x8_2 x10_3 a1_0 a1_1 = some (r1, r2)) ∧ Aside0 (kq ≤ k2) ∧ Aside0 (Kd.N k40 40 w' w.heap.size (fun k_ => (w.heap.size ≤ k_) ∧ k_ ≠ gb111) v4 x4_3) ∧ Aside0 (Kd.R (Kd.int .i64) 3 w' w.heap.size (fun k_ => (w.heap.size ≤ k_)) (.slice Ao23 x8_2.length co23) x8_2) ∧ Aside0 (w'.heap[gb111]? = some (.cells #[.int .i64 a1_0, .int .i64 a1_1] 26 (0, 0))) ∧ Aside0 (Below w.heap.size w w'))
                      case atStart => exact ⟨(([] : List (S40))), (0), (by first | rfl | (simp; done) | (simp [*]; done)), H', ⟨Nat.le_refl _⟩, ⟨by (try simp only [hl8_2]); first | exact Kd.S_nil _ _ _ _ _ | exact Kd.N_nil _ _ _ _ _ | exact Kd.V_nil _ _ _ _ _ | exact Kd.Q_nil _ _ _ _ _ | exact Kd.R_nil _ _ _ _ _⟩, ⟨by (try simp only [hl8_2]); (with_reducible repeat (first | apply Kd.R_alloc | apply Kd.R_drewN | apply Kd.R_drew)); exact HO_8.out⟩, ⟨by (try simp only [hl8_2]); (with_reducible repeat (first | refine blk_drewN ?_ _ | refine blk_drew ?_ | refine blk_alloc ?_ _)); exact BK111.out⟩, ⟨by repeat (first | (with_reducible first | exact HB.out | apply below_alloc | apply pw_below_drewN | apply below_drew1 | refine below_set ?_ GE111.out) | exact HB.out)⟩⟩
                      case round =>
                        clear H'
                        try clear c1
                        try clear p1
                        try clear q1
                        try clear hx1
                        try clear c2
                        try clear p2
                        try clear q2
                        try clear hx2
                        try clear hf2
                        try clear c4
                        try clear p6
                        try clear c8
                        try clear c8b0
                        try clear c9
                        try clear c9b0
                        try clear c10
                        try clear c10b0
                        try clear c11
                        try clear c11b0
                        try clear p11
                        try clear q11
                        try clear hx11
                        try clear c12
                        try clear c12b0
                        try clear c13
                        try clear c13b0
                        try clear c15
                        try clear c15b0
                        try clear c16
                        try clear c16b0
                        try clear c17
                        try clear c17b0
                        try clear c18
                        try clear c18b0
                        try clear c18b1
                        try clear c19
                        try clear c19b0
                        try clear c19b1
                        try clear c20
                        try clear c20b0
                        try clear c20b1
                        try clear c24
                        try clear c24b0
                        try clear c25
                        try clear c25b0
                        try clear c26
                        try clear c26b0
                        try clear p27
                        try clear q27
                        try clear hx27
                        try clear hf27
                        try clear hcz6_0
                        try clear hcz6_1
                        try clear hfz6_0
                        try clear hfz6_1
                        try clear hx113_0
                        try clear hx114_0
                        try clear hx27_0
                        try clear p1
                        try clear p11
                        try clear p113
                        try clear p114
                        try clear p2
                        try clear p27
                        try clear p6
                        try clear q1
                        try clear q11
                        try clear q113
                        try clear q114
                        try clear q27
                        obtain ⟨x4_3, x10_3, rfl, HA, HK3, HO_4, HO_8, BK111, HB⟩ := hrel
                        cases gk with
                        | zero => exact absurd HA.out (by simp [batch_Form.l2])
                        | succ k3 =>
                          have H := HA.out
                          clear HA
                          simp only [batch_Form.l2] at H
                          by_cases c30 : x10_3 < (l0.length : Int)
                          · rw [if_pos c30] at H
                            have c30b0 : decide (x10_3 < (l0.length : Int)) = true := decide_eq_true c30
                            clear c30
                            by_cases c31 : 0 ≤ x10_3
                            · rw [if_pos c31] at H
                              have c31b0 : decide (0 ≤ x10_3) = true := decide_eq_true c31
                              clear c31
                              have H' := Aside0.mk H
                              clear H
                              have p119 : 0 ≤ (x10_3 : Int) := of_decide_eq_true (by first | (with_reducible assumption) | assumption)
                              have q119 : x10_3 < (l0.length : Int) := of_decide_eq_true (by first | (with_reducible assumption) | assumption)
                              obtain ⟨ad119, e119, hx119_0⟩ := Kd.at_int HR0.out x10_3 p119 q119
                              cases e119
                              replace hx119_0 := (HB.out.cell (World.block_lt_of_cell? w _ hx119_0)).trans hx119_0
                              replace p119 := eq_true p119
                              replace q119 := eq_true q119
                              have hcz32_0 : wr.cell? ⟨gb111, 0, none⟩ = some (.int .i64 a1_0) := (blk_cell BK111.out 0).trans rfl
                              have hcz32_1 : wr.cell? ⟨gb111, 1, none⟩ = some (.int .i64 a1_1) := (blk_cell BK111.out 1).trans rfl
                              have hfz32_0 := blk_frozen BK111.out 0
                              have hfz32_1 := blk_frozen BK111.out 1
                              go_wp2
                              repeat (go_quiet (fail); try go_wp2)
                              go_loopg [10] k3 (fun kq v10 w' => ∃ (x10_4 : Int), v10 = .int .i64 x10_4 ∧ Aside0 (batch_Form.l3 kq l0 x4_3 x8_2 x10_4 x10_3 (wrap64 ((rd l0 x10_3) + a1_1)) a1_0 a1_1 = some (r1, r2)) ∧ Aside0 (kq ≤ k3) ∧ Aside0 (Kd.N k40 40 w' w.heap.size (fun k_ => (w.heap.size ≤ k_) ∧ k_ ≠ gb111) u4 x4_3) ∧ Aside0 (Kd.R (Kd.int .i64) 3 w' w.heap.size (fun k_ => (w.heap.size ≤ k_)) (.slice Ao23 x8_2.length co23) x8_2) ∧ Aside0 (w'.heap[gb111]? = some (.cells #[.int .i64 a1_0, .int .i64 a1_1] 26 (0, 0))) ∧ Aside0 (Below w.heap.size w w'))
                              case atStart => exact ⟨(x10_3), (by first | rfl | (simp; done) | (simp [*]; done)), H', ⟨Nat.le_refl _⟩, ⟨by (try simp only [hl8_2]); (with_reducible repeat (first | apply Kd.N_alloc | apply Kd.N_drewN | apply Kd.N_drew)); exact HO_4.out⟩, ⟨by (try simp only [hl8_2]); (with_reducible repeat (first | apply Kd.R_alloc | apply Kd.R_drewN | apply Kd.R_drew)); exact HO_8.out⟩, ⟨by (try simp only [hl8_2]); (with_reducible repeat (first | refine blk_drewN ?_ _ | refine blk_drew ?_ | refine blk_alloc ?_ _)); exact BK111.out⟩, ⟨by repeat (first | (with_reducible first | exact HB.out | apply below_alloc | apply pw_below_drewN | apply below_drew1 | refine below_set ?_ GE111.out) | exact HB.out)⟩⟩
                              case round =>
                                clear H'
                                try clear c1
                                try clear p1
                                try clear q1
                                try clear hx1
                                try clear c2
                                try clear p2
                                try clear q2
                                try clear hx2
                                try clear hf2
                                try clear c3
                                try clear c4
                                try clear p6
                                try clear c8
                                try clear c8b0
                                try clear c9
                                try clear c9b0
                                try clear c10
                                try clear c10b0
                                try clear c11
                                try clear c11b0
                                try clear p11
                                try clear q11
                                try clear hx11
                                try clear c12
                                try clear c12b0
                                try clear c13
                                try clear c13b0
                                try clear c15
                                try clear c15b0
                                try clear c16
                                try clear c16b0
                                try clear c17
                                try clear c17b0
                                try clear c18
                                try clear c18b0
                                try clear c18b1
                                try clear c19
                                try clear c19b0
                                try clear c19b1
                                try clear c20
                                try clear c20b0
                                try clear c20b1
                                try clear c24
                                try clear c24b0
                                try clear c25
                                try clear c25b0
                                try clear c26
                                try clear c26b0
                                try clear p27
                                try clear q27
                                try clear hx27
                                try clear hf27
                                try clear c30
                                try clear c30b0
                                try clear c31
                                try clear c31b0
                                try clear hcz32_0
                                try clear hcz32_1
                                try clear hcz6_0
                                try clear hcz6_1
                                try clear hfz32_0
                                try clear hfz32_1
                                try clear hfz6_0
                                try clear hfz6_1
                                try clear hx113_0
                                try clear hx114_0
                                try clear hx119_0
                                try clear hx27_0
                                try clear p1
                                try clear p11
                                try clear p113
                                try clear p114
                                try clear p119
                                try clear p2
                                try clear p27
                                try clear p6
                                try clear q1
                                try clear q11
                                try clear q113
                                try clear q114
                                try clear q119
                                try clear q2
                                try clear q27
                                obtain ⟨x10_4, rfl, HA, HK4, HO_4, HO_8, BK111, HB⟩ := hrel
                                cases gk with
                                | zero => exact absurd HA.out (by simp [batch_Form.l3])
                                | succ k4 =>
                                  have H := HA.out
                                  clear HA
                                  simp only [batch_Form.l3] at H
                                  by_cases c33 : x10_4 < (l0.length : Int)
                                  · rw [if_pos c33] at H
                                    have c33b0 : decide (x10_4 < (l0.length : Int)) = true := decide_eq_true c33
                                    clear c33
                                    by_cases c34 : (wrap64 (x10_4 - x10_3)) < a1_0
                                    · rw [if_pos c34] at H
                                      have c34b0 : decide ((wrap64 (x10_4 - x10_3)) < a1_0) = true := decide_eq_true c34
                                      clear c34
                                      by_cases c35 : 0 ≤ x10_4
                                      · rw [if_pos c35] at H
                                        have c35b0 : decide (0 ≤ x10_4) = true := decide_eq_true c35
                                        clear c35
                                        by_cases c36 : (rd l0 x10_4) ≤ (wrap64 ((rd l0 x10_3) + a1_1))
                                        · rw [if_pos c36] at H
                                          have c36b0 : decide ((rd l0 x10_4) ≤ (wrap64 ((rd l0 x10_3) + a1_1))) = true := decide_eq_true c36
                                          clear c36
                                          have H' := Aside0.mk H
                                          clear H
                                          have hcz37_0 : wr.cell? ⟨gb111, 0, none⟩ = some (.int .i64 a1_0) := (blk_cell BK111.out 0).trans rfl
                                          have hcz37_1 : wr.cell? ⟨gb111, 1, none⟩ = some (.int .i64 a1_1) := (blk_cell BK111.out 1).trans rfl
                                          have hfz37_0 := blk_frozen BK111.out 0
                                          have hfz37_1 := blk_frozen BK111.out 1
                                          have p120 : 0 ≤ (x10_4 : Int) := of_decide_eq_true (by first | (with_reducible assumption) | assumption)
                                          have q120 : x10_4 < (l0.length : Int) := of_decide_eq_true (by first | (with_reducible assumption) | assumption)
                                          obtain ⟨ad120, e120, hx120_0⟩ := Kd.at_int HR0.out x10_4 p120 q120
                                          obtain rfl : ad119 = ad120 := (by injection e120)
                                          replace hx120_0 := (HB.out.cell (World.block_lt_of_cell? w _ hx120_0)).trans hx120_0
                                          replace p120 := eq_true p120
                                          replace q120 := eq_true q120
                                          go_wp2
                                          repeat (go_quiet (fail); try go_wp2)
                                          go_roundg k4
                                          case measure => have := HK1.out; have := HK2.out; have := HK3.out; have := HK4.out; omega
                                          case rel => exact ⟨(wrap64 (x10_4 + 1)), (by first | rfl | (simp; done) | (simp [*]; done)), H', ⟨by have := HK1.out; have := HK2.out; have := HK3.out; have := HK4.out; omega⟩, ⟨by (try simp only [hl8_2]); (with_reducible repeat (first | apply Kd.N_alloc | apply Kd.N_drewN | apply Kd.N_drew)); exact HO_4.out⟩, ⟨by (try simp only [hl8_2]); (with_reducible repeat (first | apply Kd.R_alloc | apply Kd.R_drewN | apply Kd.R_drew)); exact HO_8.out⟩, ⟨by (try simp only [hl8_2]); (with_reducible repeat (first | refine blk_drewN ?_ _ | refine blk_drew ?_ | refine blk_alloc ?_ _)); exact BK111.out⟩, ⟨by repeat (first | (with_reducible first | exact HB.out | apply below_alloc | apply pw_below_drewN | apply below_drew1 | refine below_set ?_ GE111.out) | exact HB.out)⟩⟩
                                        · rw [if_neg c36] at H
                                          have c36b0 : decide ((rd l0 x10_4) ≤ (wrap64 ((rd l0 x10_3) + a1_1))) = false := decide_eq_false c36
                                          clear c36
                                          by_cases c38 : 0 ≤ x10_3
                                          · rw [if_pos c38] at H
                                            have c38b0 := eq_true c38
                                            have c38b1 : decide (0 ≤ x10_3) = true := decide_eq_true c38
                                            clear c38
                                            by_cases c39 : x10_3 ≤ x10_4
                                            · rw [if_pos c39] at H
                                              have c39b0 := eq_true c39
                                              have c39b1 : decide (x10_3 ≤ x10_4) = true := decide_eq_true c39
                                              clear c39
                                              by_cases c40 : x10_4 ≤ (x8_2.length : Int)
                                              · rw [if_pos c40] at H
                                                have c40b0 := eq_true c40
                                                have c40b1 : decide (x10_4 ≤ (x8_2.length : Int)) = true := decide_eq_true c40
                                                clear c40
                                                obtain ⟨y121, hy121⟩ : ∃ y_ : List Int, y_ = ((x8_2.take (x10_4 : Int).toNat).drop (x10_3 : Int).toNat) := ⟨_, rfl⟩
                                                replace H : (if (y121.length : Int) = a1_0 then (if 0 ≤ (wrap64 (x10_4 - 1)) then (if (wrap64 (x10_4 - 1)) < (l0.length : Int) then (if x4_3.length < 4398046511104 then (batch_Form.l2 k4 l0 (x4_3 ++ [(⟨y121, rd l0 (wrap64 (x10_4 - 1))⟩ : S40)]) x8_2 x10_4 a1_0 a1_1) else (none)) else (none)) else (none)) else (if x4_3.length < 4398046511104 then (batch_Form.l2 k4 l0 (x4_3 ++ [(⟨y121, (wrap64 ((rd l0 x10_3) + a1_1))⟩ : S40)]) x8_2 x10_4 a1_0 a1_1) else (none))) = some (r1, r2) := by first | (rw [hy121]; with_reducible exact H) | (have H2_ := (Option.bind_some _ _).symm.trans H; rw [hy121]; with_reducible exact H2_) | (have H2_ := (Option.bind_some _ _).symm.trans H; with_reducible exact H2_) | with_reducible exact H | (rw [hy121]; exact H) | exact H
                                                have Ny121 := Aside0.mk hy121
                                                clear hy121
                                                by_cases c41 : (y121.length : Int) = a1_0
                                                · rw [if_pos c41] at H
                                                  have c41b0 : ((y121.length : Int) == a1_0) = true := beq_iff_eq.mpr c41
                                                  have c41b1 : ((y121.length : Int) != a1_0) = false := bne_eq_false_iff_eq.mpr c41
                                                  clear c41
                                                  obtain ⟨ji42, hji42⟩ : ∃ j_ : Int, (wrap64 (x10_4 - 1)) = j_ := ⟨_, rfl⟩
                                                  replace H : (if 0 ≤ (ji42) then (if (ji42) < (l0.length : Int) then (if x4_3.length < 4398046511104 then (batch_Form.l2 k4 l0 (x4_3 ++ [(⟨y121, rd l0 (ji42)⟩ : S40)]) x8_2 x10_4 a1_0 a1_1) else (none)) else (none)) else (none)) = some (r1, r2) := by first | (rw [hji42] at H; exact H) | (simp only [hji42] at H ⊢; exact H)
                                                  have hji42w : (IntKind.i64.wrap (x10_4 - 1)) = ji42 := (i64_w _).trans hji42
                                                  by_cases c43 : 0 ≤ (ji42)
                                                  · rw [if_pos c43] at H
                                                    have c43b0 : decide (0 ≤ (ji42)) = true := decide_eq_true c43
                                                    clear c43
                                                    by_cases c44 : (ji42) < (l0.length : Int)
                                                    · rw [if_pos c44] at H
                                                      have c44b0 : decide ((ji42) < (l0.length : Int)) = true := decide_eq_true c44
                                                      clear c44
                                                      by_cases c45 : x4_3.length < 4398046511104
                                                      · rw [if_pos c45] at H
                                                        have LMc45 := Aside0.mk c45
                                                        clear c45
                                                        obtain ⟨y128, hy128⟩ : ∃ y_ : List (S40), y_ = (x4_3 ++ [(⟨y121, rd l0 (ji42)⟩ : S40)]) := ⟨_, rfl⟩
                                                        replace H : (batch_Form.l2 k4 l0 y128 x8_2 x10_4 a1_0 a1_1) = some (r1, r2) := by first | (rw [hy128]; with_reducible exact H) | (have H2_ := (Option.bind_some _ _).symm.trans H; rw [hy128]; with_reducible exact H2_) | (have H2_ := (Option.bind_some _ _).symm.trans H; with_reducible exact H2_) | with_reducible exact H | (rw [hy128]; exact H) | exact H
                                                        have Ny128 := Aside0.mk hy128
                                                        clear hy128
                                                        have H' := Aside0.mk H
                                                        clear H
                                                        have hcz46_0 : wr.cell? ⟨gb111, 0, none⟩ = some (.int .i64 a1_0) := (blk_cell BK111.out 0).trans rfl
                                                        have hcz46_1 : wr.cell? ⟨gb111, 1, none⟩ = some (.int .i64 a1_1) := (blk_cell BK111.out 1).trans rfl
                                                        have hfz46_0 := blk_frozen BK111.out 0
                                                        have hfz46_1 := blk_frozen BK111.out 1
                                                        have p120 : 0 ≤ (x10_4 : Int) := of_decide_eq_true (by first | (with_reducible assumption) | assumption)
                                                        have q120 : x10_4 < (l0.length : Int) := of_decide_eq_true (by first | (with_reducible assumption) | assumption)
                                                        obtain ⟨ad120, e120, hx120_0⟩ := Kd.at_int HR0.out x10_4 p120 q120
                                                        obtain rfl : ad119 = ad120 := (by injection e120)
                                                        replace hx120_0 := (HB.out.cell (World.block_lt_of_cell? w _ hx120_0)).trans hx120_0
                                                        replace p120 := eq_true p120
                                                        replace q120 := eq_true q120
                                                        have q47 : (x10_4 : Int) ≤ ((x8_2.length : Int) : Int) := of_decide_eq_true (by first | (with_reducible assumption) | assumption)
                                                        obtain ⟨i047, hi047, _, hsz47, _⟩ := info_parts info3
                                                        have hroom47 : x8_2.length ≤ co23 := (Kd.R_reads' HO_8.out).2.1
                                                        have hC47 : Kd.F (Kd.int .i64) _ _ Ao23 x8_2.length x8_2 := (Kd.V_at (base := w.heap.size) (Kd.R_V (Kd.R_types (Kd.R_apart' (HO_8.out) (Kd.N_typed HO_4.out) (by decide)) BK111.out (by decide)))).2.2
                                                        have ql47 : (x10_3 : Int) ≤ (x10_4 : Int) := of_decide_eq_true (by first | (with_reducible assumption) | assumption)
                                                        have q047 : (0 : Int) ≤ (x10_3 : Int) := of_decide_eq_true (by first | (with_reducible assumption) | assumption)
                                                        have hcut47 := CutThree.cut_mid3 (P := Try.prog) 22 3 .i64 .i64 .i64 Try.underlying22 hi047 1 hsz47 Ao23 x8_2.length co23 x10_3 x10_4 q047 ql47 q47 hroom47
                                                        have hr47 := CutThree.F_mid3 (lo := (x10_3 : Int).toNat) (hi := (x10_4 : Int).toNat) hC47 (by omega) (by omega)
                                                        obtain ⟨A47, hA47⟩ : ∃ A1, A1 = (if (x10_4 : Int).toNat = (x10_3 : Int).toNat then Ao23 else (Ao23 : Option Addr).map (·.add ((x10_3 : Int).toNat * 1))) := ⟨_, rfl⟩
                                                        have hy47 : y121.length = (x10_4 : Int).toNat - (x10_3 : Int).toNat := (by rw [Ny121.out, List.length_drop, List.length_take] <;> omega)
                                                        rw [show ((x8_2).take (x10_4 : Int).toNat).drop (x10_3 : Int).toNat = y121 from Ny121.out.symm] at hr47
                                                        replace hr47 : Kd.F (Kd.int .i64) _ _ A47 y121.length y121 := (by rw [hA47]; exact hr47)
                                                        rw [← hy47, ← hA47] at hcut47
                                                        have HO125 := Aside0.mk (show Kd.V (Kd.int .i64) 3 _ w.heap.size _ (.slice A47 y121.length y121.length) y121 from Kd.V_mk (Nat.le_refl _) hr47)
                                                        have HC125 := Aside0.mk (show y121.length ≤ y121.length from Nat.le_refl _)
                                                        clear hr47 hC47 hroom47 hi047 hsz47
                                                        have KY47 := Aside0.mk hy47
                                                        have KA47 := Aside0.mk hA47
                                                        clear hy47 hA47
                                                        replace q47 := eq_true q47
                                                        go_wp2_with (first | ((with_reducible refine gate_dst (N := 13) rfl ?_); refine box_event ?hg (N := 13) ?hd (cs := #[.slice none 0 0, .int .i64 0]) (t := 40) ?hr ?_; (case hd => rfl); (case hg => rfl); (case hr => first | (go_simp; done) | (go_simp; rfl)); intro gb126 hg w48 hbox hb; have n0_ := Aside0.mk (Kd.N_below (Kd.N_elderB (by (with_reducible repeat (first | apply Kd.N_alloc | apply Kd.N_drewN | apply Kd.N_drew)); exact HO_4.out) gb126 (Nat.le_of_eq hg.symm)) hb); have n1_ := Aside0.mk (Kd.R_below (by (with_reducible repeat (first | apply Kd.R_alloc | apply Kd.R_drewN | apply Kd.R_drew)); exact HO_8.out) hb); have n2_ := Aside0.mk (Kd.V_below (Kd.V_elderB (by (with_reducible repeat (first | apply Kd.V_alloc | apply Kd.V_drewN | apply Kd.V_drew)); exact HO125.out) gb126 (Nat.le_of_eq hg.symm)) hb); have n3_ := Aside0.mk (blk_below (g := gb111) (o := .cells #[.int .i64 a1_0, .int .i64 a1_1] 26 (0, 0)) (by (with_reducible repeat (first | refine blk_drewN ?_ _ | refine blk_drew ?_ | refine blk_alloc ?_ _)); exact BK111.out) hb); have n4_ := Aside0.mk (below_step (by repeat (first | (with_reducible first | exact HB.out | apply below_alloc | apply pw_below_drewN | apply below_drew1 | refine below_set ?_ GE111.out) | exact HB.out)) hb); have n5_ := Aside0.mk (hbox); have n6_ := Aside0.mk ((by rw [hg]; exact (below_size (by repeat (first | (with_reducible first | exact HB.out | apply below_alloc | apply pw_below_drewN | apply below_drew1 | refine below_set ?_ GE111.out) | exact HB.out))) : w.heap.size ≤ gb126)); have n7_ := Aside0.mk ((by rw [hg]; exact (below_size (by repeat (first | (with_reducible first | exact HB.out | apply below_alloc | apply pw_below_drewN | apply below_drew1 | refine below_set ?_ GE111.out) | exact HB.out))) : w.heap.size ≤ gb126)); have n8_ := Aside0.mk ((by rw [hg]; exact Nat.ne_of_lt (blk_lt (g := gb111) (o := .cells #[.int .i64 a1_0, .int .i64 a1_1] 26 (0, 0)) (by (with_reducible repeat (first | refine blk_drewN ?_ _ | refine blk_drew ?_ | refine blk_alloc ?_ _)); exact BK111.out)) : gb111 ≠ gb126)); have n9_ := Aside0.mk ((by rw [hg]; exact Nat.ne_of_gt (blk_lt (g := gb111) (o := .cells #[.int .i64 a1_0, .int .i64 a1_1] 26 (0, 0)) (by (with_reducible repeat (first | refine blk_drewN ?_ _ | refine blk_drew ?_ | refine blk_alloc ?_ _)); exact BK111.out)) : gb126 ≠ gb111)); clear HO_4; clear HO_8; clear HO125; clear BK111; clear HB; have HO_4 := n0_; have HO_8 := n1_; have HO125 := n2_; have BK111 := n3_; have HB := n4_; have BK126 := n5_; have GW126 := n6_; have GE126 := n7_; have NB111_126 := n8_; have NB126_111 := n9_; clear n0_ n1_ n2_ n3_ n4_ n5_ n6_ n7_ n8_ n9_; clear hb hbox hg; have hnb49 := NB126_111.out; have hnc49 := NB111_126.out; have hcz50_0 : w48.cell? ⟨gb126, 0, none⟩ = some (.slice none 0 0) := (blk_cell BK126.out 0).trans rfl; have hcz50_1 : w48.cell? ⟨gb126, 1, none⟩ = some (.int .i64 0) := (blk_cell BK126.out 1).trans rfl; have hfz50_0 := blk_frozen BK126.out 0; have hfz50_1 := blk_frozen BK126.out 1) | ((with_reducible refine gate_store (t := 40) (p := 13) rfl ?_); (try (rw [drewN_self w48]; generalize hq_ : World.drewN w48 _ = w48; have n0_ := Aside0.mk (Kd.N_at hq_ HO_4.out); have n1_ := Aside0.mk (Kd.R_at hq_ HO_8.out); have n2_ := Aside0.mk (Kd.V_at hq_ HO125.out); have n3_ := Aside0.mk (blk_at hq_ BK111.out); have n4_ := Aside0.mk (blk_at hq_ BK126.out); have n5_ := Aside0.mk (below_at hq_ HB.out); clear hq_ HO_4 HO_8 HO125 BK111 BK126 HB; have HO_4 := n0_; have HO_8 := n1_; have HO125 := n2_; have BK111 := n3_; have BK126 := n4_; have HB := n5_; clear n0_ n1_ n2_ n3_ n4_ n5_)); refine store_event (t := 40) (p := 13) (v := ?vo_w51) (w1 := ((w48.setCell ⟨gb126, 0, none⟩ (.slice A47 y121.length y121.length)).setCell ⟨gb126, 1, none⟩ (.int .i64 (wrap64 ((rd l0 x10_3) + a1_1))))) ?hg ?ho ?hn ?hr ?_; (case ho => rfl); (case hg => rfl); (case hn => rfl); (case hr => first | (go_simp; done) | (go_simp; rfl)); intro w51 hw; have n0_ : Aside0 (Kd.N k40 40 w51 w.heap.size (fun k_ => (w.heap.size ≤ k_) ∧ k_ ≠ gb111 ∧ k_ ≠ gb126) u4 x4_3) := ⟨(by rw [hw]; exact (by (with_reducible repeat (first | apply Kd.N_alloc | apply Kd.N_drewN | apply Kd.N_drew)); exact Kd.N_mono (Kd.N_far (p := ⟨gb126, 1, none⟩) (Kd.N_far (p := ⟨gb126, 0, none⟩) (Kd.N_mono HO_4.out (fun k_ hk => (⟨hk, hk.2⟩ : _ ∧ k_ ≠ gb126))) (fun _ hk => hk.2) (.slice A47 y121.length y121.length)) (fun _ hk => hk.2) (.int .i64 (wrap64 ((rd l0 x10_3) + a1_1)))) (fun _ hk => ⟨hk.1.1.1, ⟨hk.1.1.2, hk.1.2⟩⟩)))⟩; have n1_ : Aside0 (Kd.R (Kd.int .i64) 3 w51 w.heap.size (fun k_ => (w.heap.size ≤ k_)) (.slice Ao23 x8_2.length co23) x8_2) := ⟨(by rw [hw]; exact (by (with_reducible repeat (first | apply Kd.R_alloc | apply Kd.R_drewN | apply Kd.R_drew)); exact Kd.R_mono (Kd.R_far (p := ⟨gb126, 1, none⟩) (Kd.R_far (p := ⟨gb126, 0, none⟩) (Kd.R_types HO_8.out BK126.out (by decide)) (fun _ hk => hk.2) (.slice A47 y121.length y121.length)) (fun _ hk => hk.2) (.int .i64 (wrap64 ((rd l0 x10_3) + a1_1)))) (fun _ hk => hk.1)))⟩; have n2_ : Aside0 (Kd.V (Kd.int .i64) 3 w51 w.heap.size (fun k_ => (w.heap.size ≤ k_) ∧ some k_ ≠ (u4 : Value).ownBlock ∧ k_ ≠ gb111 ∧ k_ ≠ gb126) (.slice A47 y121.length y121.length) y121) := ⟨(by rw [hw]; exact (by (with_reducible repeat (first | apply Kd.V_alloc | apply Kd.V_drewN | apply Kd.V_drew)); exact Kd.V_mono (Kd.V_far (p := ⟨gb126, 1, none⟩) (Kd.V_far (p := ⟨gb126, 0, none⟩) (Kd.V_mono HO125.out (fun k_ hk => (⟨hk, hk.2⟩ : _ ∧ k_ ≠ gb126))) (fun _ hk => hk.2) (.slice A47 y121.length y121.length)) (fun _ hk => hk.2) (.int .i64 (wrap64 ((rd l0 x10_3) + a1_1)))) (fun _ hk => ⟨hk.1.1.1.1, ⟨hk.1.1.1.2, ⟨hk.1.1.2, hk.1.2⟩⟩⟩)))⟩; have n3_ : Aside0 (w51.heap[gb111]? = some (.cells #[.int .i64 a1_0, .int .i64 a1_1] 26 (0, 0))) := ⟨(by rw [hw]; exact (by (with_reducible repeat (first | refine blk_drewN ?_ _ | refine blk_drew ?_ | refine blk_alloc ?_ _)); refine blk_far ?_ NB111_126.out _; (with_reducible repeat (first | refine blk_drewN ?_ _ | refine blk_drew ?_ | refine blk_alloc ?_ _)); refine blk_far ?_ NB111_126.out _; (with_reducible repeat (first | refine blk_drewN ?_ _ | refine blk_drew ?_ | refine blk_alloc ?_ _)); exact BK111.out))⟩; have n4_ : Aside0 (w51.heap[gb126]? = some (.cells #[.slice A47 y121.length y121.length, .int .i64 (wrap64 ((rd l0 x10_3) + a1_1))] 40 (0, 0))) := ⟨(by rw [hw]; exact (by (with_reducible repeat (first | refine blk_drewN ?_ _ | refine blk_drew ?_ | refine blk_alloc ?_ _)); refine blk_put (cs := #[.slice A47 y121.length y121.length, .int .i64 0]) ?_ 1 _ rfl; (with_reducible repeat (first | refine blk_drewN ?_ _ | refine blk_drew ?_ | refine blk_alloc ?_ _)); refine blk_put (cs := #[.slice none 0 0, .int .i64 0]) ?_ 0 _ rfl; (with_reducible repeat (first | refine blk_drewN ?_ _ | refine blk_drew ?_ | refine blk_alloc ?_ _)); exact BK126.out))⟩; have n5_ : Aside0 (Below w.heap.size w w51) := ⟨(by rw [hw]; exact (by repeat (first | (with_reducible first | exact HB.out | apply below_alloc | apply pw_below_drewN | apply below_drew1 | refine below_set ?_ GE111.out | refine below_set ?_ GE126.out) | exact HB.out)))⟩; clear hw; clear HO_4; clear HO_8; clear HO125; clear BK111; clear BK126; clear HB; have HO_4 := n0_; have HO_8 := n1_; have HO125 := n2_; have BK111 := n3_; have BK126 := n4_; have HB := n5_; clear n0_ n1_ n2_ n3_ n4_ n5_; have hcz52_0 : w51.cell? ⟨gb126, 0, none⟩ = some (.slice A47 y121.length y121.length) := (blk_cell BK126.out 0).trans rfl; have hcz52_1 : w51.cell? ⟨gb126, 1, none⟩ = some (.int .i64 (wrap64 ((rd l0 x10_3) + a1_1))) := (blk_cell BK126.out 1).trans rfl; have hfz52_0 := blk_frozen BK126.out 0; have hfz52_1 := blk_frozen BK126.out 1; have hcz53_0 : w51.cell? ⟨gb111, 0, none⟩ = some (.int .i64 a1_0) := (blk_cell BK111.out 0).trans rfl; have hcz53_1 : w51.cell? ⟨gb111, 1, none⟩ = some (.int .i64 a1_1) := (blk_cell BK111.out 1).trans rfl; have hfz53_0 := blk_frozen BK111.out 0; have hfz53_1 := blk_frozen BK111.out 1; have p127 : 0 ≤ ((ji42) : Int) := of_decide_eq_true (by first | (with_reducible assumption) | assumption); have q127 : (ji42) < (l0.length : Int) := of_decide_eq_true (by first | (with_reducible assumption) | assumption); obtain ⟨ad127, e127, hx127_0⟩ := Kd.at_int HR0.out (ji42) p127 q127; obtain rfl : ad119 = ad127 := (by injection e127); replace hx127_0 := (HB.out.cell (World.block_lt_of_cell? w _ hx127_0)).trans hx127_0; replace p127 := eq_true p127; replace q127 := eq_true q127) | ((with_reducible refine gate_store (t := 3) (p := 112) rfl ?_); (try (rw [drewN_self w51]; generalize hq_ : World.drewN w51 _ = w51; have n0_ := Aside0.mk (Kd.N_at hq_ HO_4.out); have n1_ := Aside0.mk (Kd.R_at hq_ HO_8.out); have n2_ := Aside0.mk (Kd.V_at hq_ HO125.out); have n3_ := Aside0.mk (blk_at hq_ BK111.out); have n4_ := Aside0.mk (blk_at hq_ BK126.out); have n5_ := Aside0.mk (below_at hq_ HB.out); clear hq_ HO_4 HO_8 HO125 BK111 BK126 HB; have HO_4 := n0_; have HO_8 := n1_; have HO125 := n2_; have BK111 := n3_; have BK126 := n4_; have HB := n5_; clear n0_ n1_ n2_ n3_ n4_ n5_)); refine store_event (t := 3) (p := 112) (v := ?vo_w54) (w1 := (w51.setCell ⟨gb126, 1, none⟩ (.int .i64 (rd l0 (ji42))))) ?hg ?ho ?hn ?hr ?_; (case ho => rfl); (case hg => rfl); (case hn => rfl); (case hr => first | (go_simp; done) | (go_simp; rfl)); intro w54 hw; have n0_ : Aside0 (Kd.N k40 40 w54 w.heap.size (fun k_ => (w.heap.size ≤ k_) ∧ k_ ≠ gb111 ∧ k_ ≠ gb126) u4 x4_3) := ⟨(by rw [hw]; exact (by (with_reducible repeat (first | apply Kd.N_alloc | apply Kd.N_drewN | apply Kd.N_drew)); exact Kd.N_mono (Kd.N_far (p := ⟨gb126, 1, none⟩) (Kd.N_mono HO_4.out (fun k_ hk => (⟨hk, hk.2.2⟩ : _ ∧ k_ ≠ gb126))) (fun _ hk => hk.2) (.int .i64 (rd l0 (ji42)))) (fun _ hk => ⟨hk.1.1, ⟨hk.1.2.1, hk.1.2.2⟩⟩)))⟩; have n1_ : Aside0 (Kd.R (Kd.int .i64) 3 w54 w.heap.size (fun k_ => (w.heap.size ≤ k_)) (.slice Ao23 x8_2.length co23) x8_2) := ⟨(by rw [hw]; exact (by (with_reducible repeat (first | apply Kd.R_alloc | apply Kd.R_drewN | apply Kd.R_drew)); exact Kd.R_mono (Kd.R_far (p := ⟨gb126, 1, none⟩) (Kd.R_types HO_8.out BK126.out (by decide)) (fun _ hk => hk.2) (.int .i64 (rd l0 (ji42)))) (fun _ hk => hk.1)))⟩; have n2_ : Aside0 (Kd.V (Kd.int .i64) 3 w54 w.heap.size (fun k_ => (w.heap.size ≤ k_) ∧ some k_ ≠ (u4 : Value).ownBlock ∧ k_ ≠ gb111 ∧ k_ ≠ gb126) (.slice A47 y121.length y121.length) y121) := ⟨(by rw [hw]; exact (by (with_reducible repeat (first | apply Kd.V_alloc | apply Kd.V_drewN | apply Kd.V_drew)); exact Kd.V_mono (Kd.V_far (p := ⟨gb126, 1, none⟩) (Kd.V_mono HO125.out (fun k_ hk => (⟨hk, hk.2.2.2⟩ : _ ∧ k_ ≠ gb126))) (fun _ hk => hk.2) (.int .i64 (rd l0 (ji42)))) (fun _ hk => ⟨hk.1.1, ⟨hk.1.2.1, ⟨hk.1.2.2.1, hk.1.2.2.2⟩⟩⟩)))⟩; have n3_ : Aside0 (w54.heap[gb111]? = some (.cells #[.int .i64 a1_0, .int .i64 a1_1] 26 (0, 0))) := ⟨(by rw [hw]; exact (by (with_reducible repeat (first | refine blk_drewN ?_ _ | refine blk_drew ?_ | refine blk_alloc ?_ _)); refine blk_far ?_ NB111_126.out _; (with_reducible repeat (first | refine blk_drewN ?_ _ | refine blk_drew ?_ | refine blk_alloc ?_ _)); exact BK111.out))⟩; have n4_ : Aside0 (w54.heap[gb126]? = some (.cells #[.slice A47 y121.length y121.length, .int .i64 (rd l0 (ji42))] 40 (0, 0))) := ⟨(by rw [hw]; exact (by (with_reducible repeat (first | refine blk_drewN ?_ _ | refine blk_drew ?_ | refine blk_alloc ?_ _)); refine blk_put (cs := #[.slice A47 y121.length y121.length, .int .i64 (wrap64 ((rd l0 x10_3) + a1_1))]) ?_ 1 _ rfl; (with_reducible repeat (first | refine blk_drewN ?_ _ | refine blk_drew ?_ | refine blk_alloc ?_ _)); exact BK126.out))⟩; have n5_ : Aside0 (Below w.heap.size w w54) := ⟨(by rw [hw]; exact (by repeat (first | (with_reducible first | exact HB.out | apply below_alloc | apply pw_below_drewN | apply below_drew1 | refine below_set ?_ GE111.out | refine below_set ?_ GE126.out) | exact HB.out)))⟩; clear hw; clear HO_4; clear HO_8; clear HO125; clear BK111; clear BK126; clear HB; have HO_4 := n0_; have HO_8 := n1_; have HO125 := n2_; have BK111 := n3_; have BK126 := n4_; have HB := n5_; clear n0_ n1_ n2_ n3_ n4_ n5_; have hcz55_0 : w54.cell? ⟨gb126, 0, none⟩ = some (.slice A47 y121.length y121.length) := (blk_cell BK126.out 0).trans rfl; have hcz55_1 : w54.cell? ⟨gb126, 1, none⟩ = some (.int .i64 (rd l0 (ji42))) := (blk_cell BK126.out 1).trans rfl; have hfz55_0 := blk_frozen BK126.out 0; have hfz55_1 := blk_frozen BK126.out 1) | ((with_reducible refine gate_builtin (b := .append) (xs := #[.tmp 113, .tmp 115]) rfl ?_); at_builtin; refine Kd.N_append k40 (w0 := w) w.heap.size rfl (.tmp 113) (.tmp 115) 27 40 (.agg #[(.slice none 0 0), (.int .i64 0)]) 32 rfl Try.underlying27 info40 rfl (by decide) (by omega) u4 x4_3 (⟨y121, rd l0 (ji42)⟩ : S40) [.slice A47 y121.length y121.length, .int .i64 (rd l0 (ji42))] (fun k_ => (w.heap.size ≤ k_) ∧ k_ ≠ gb111 ∧ k_ ≠ gb126) (fun k_ => ((fun k_ => (w.heap.size ≤ k_) ∧ k_ ≠ gb111 ∧ k_ ≠ gb126)) k_ ∧ some k_ ≠ (u4 : Value).ownBlock) rfl rfl ?aP (fun _ hk => hk) ?aF ?aO ?aB ?aS ?aL ?_; (case aP => exact (k40_mkF _ _ (⟨y121, rd l0 (ji42)⟩ : S40) (Kd.V_reads' (Kd.V_mono (ok' := (fun k_ => ((fun k_ => (w.heap.size ≤ k_) ∧ k_ ≠ gb111 ∧ k_ ≠ gb126)) k_ ∧ some k_ ≠ (u4 : Value).ownBlock)) (HO125.out) (fun k_ hk => ⟨⟨hk.1, ⟨hk.2.2.1, hk.2.2.2⟩⟩, hk.2.1⟩))).2.1 (Kd.V_F (Kd.V_mono (ok' := (fun k_ => ((fun k_ => (w.heap.size ≤ k_) ∧ k_ ≠ gb111 ∧ k_ ≠ gb126)) k_ ∧ some k_ ≠ (u4 : Value).ownBlock)) (HO125.out) (fun k_ hk => ⟨⟨hk.1, ⟨hk.2.2.1, hk.2.2.2⟩⟩, hk.2.1⟩))))); (case aB => exact (by repeat (first | (with_reducible first | exact HB.out | apply below_alloc | apply pw_below_drewN | apply below_drew1 | refine below_set ?_ GE111.out | refine below_set ?_ GE126.out) | exact HB.out))); (case aF => exact (fun k_ hk => ⟨(Nat.le_trans (below_size (by repeat (first | (with_reducible first | exact HB.out | apply below_alloc | apply pw_below_drewN | apply below_drew1 | refine below_set ?_ GE111.out | refine below_set ?_ GE126.out) | exact HB.out))) hk), Kd.freshB (g := gb111) (o := .cells #[.int .i64 a1_0, .int .i64 a1_1] 26 (0, 0)) (by (with_reducible repeat (first | refine blk_drewN ?_ _ | refine blk_drew ?_ | refine blk_alloc ?_ _)); exact BK111.out) k_ hk, Kd.freshB (g := gb126) (o := .cells #[.slice A47 y121.length y121.length, .int .i64 (rd l0 (ji42))] 40 (0, 0)) (by (with_reducible repeat (first | refine blk_drewN ?_ _ | refine blk_drew ?_ | refine blk_alloc ?_ _)); exact BK126.out) k_ hk⟩)); (case aO => exact (by (with_reducible repeat (first | apply Kd.N_alloc | apply Kd.N_drewN | apply Kd.N_drew)); exact HO_4.out)); (case aS => exact (below_size (by repeat (first | (with_reducible first | exact HB.out | apply below_alloc | apply pw_below_drewN | apply below_drew1 | refine below_set ?_ GE111.out | refine below_set ?_ GE126.out) | exact HB.out)))); (case aL => have := LMc45.out; omega); intro v129 w56 ho hb hg hat; rw [← Ny128.out] at ho; have n0_ := Aside0.mk (Kd.R_over' (by (with_reducible repeat (first | apply Kd.R_alloc | apply Kd.R_drewN | apply Kd.R_drew)); exact HO_8.out) (Kd.N_typed (by (with_reducible repeat (first | apply Kd.N_alloc | apply Kd.N_drewN | apply Kd.N_drew)); exact HO_4.out)) (by decide) hg); have n1_ := Aside0.mk (blk_grown (g := gb111) (o := .cells #[.int .i64 a1_0, .int .i64 a1_1] 26 (0, 0)) (by (with_reducible repeat (first | refine blk_drewN ?_ _ | refine blk_drew ?_ | refine blk_alloc ?_ _)); exact BK111.out) hg (Kd.N_ne HO_4.out BK111.out (by decide))); have n2_ := Aside0.mk (Kd.V_afterv (ok := (fun k_ => (w.heap.size ≤ k_) ∧ k_ ≠ gb111 ∧ k_ ≠ gb126)) (by (with_reducible repeat (first | apply Kd.V_alloc | apply Kd.V_drewN | apply Kd.V_drew)); exact Kd.V_mono HO125.out (fun _ hk => ⟨⟨hk.1, ⟨hk.2.2.1, hk.2.2.2⟩⟩, hk.2.1⟩)) hg hat); have n3_ := Aside0.mk (blk_grown (g := gb126) (o := .cells #[.slice A47 y121.length y121.length, .int .i64 (rd l0 (ji42))] 40 (0, 0)) (by (with_reducible repeat (first | refine blk_drewN ?_ _ | refine blk_drew ?_ | refine blk_alloc ?_ _)); exact BK126.out) hg (Kd.N_away HO_4.out (fun _ hk => hk.2.2))); have n4_ := Aside0.mk (hb); have n5_ := Aside0.mk (ho); clear HO_8; clear BK111; clear HO125; clear BK126; clear HB; clear HO_4; have HO_8 := n0_; have BK111 := n1_; have HO125 := n2_; have BK126 := n3_; have HB := n4_; have HO130 := n5_; clear n0_ n1_ n2_ n3_ n4_ n5_; clear ho hb hg hat))
                                                        repeat (go_quiet (fail); try go_wp2)
                                                        go_roundg k4
                                                        case measure => have := HK1.out; have := HK2.out; have := HK3.out; have := HK4.out; omega
                                                        case rel => exact ⟨(y128), (x10_4), (by first | rfl | (simp; done) | (simp [*]; done)), H', ⟨by have := HK1.out; have := HK2.out; have := HK3.out; have := HK4.out; omega⟩, ⟨by (try simp only [hl8_2]); (with_reducible repeat (first | apply Kd.N_alloc | apply Kd.N_drewN | apply Kd.N_drew)); exact Kd.N_mono HO130.out (fun _ hk => ⟨hk.1, hk.2.1⟩)⟩, ⟨by (try simp only [hl8_2]); (with_reducible repeat (first | apply Kd.R_alloc | apply Kd.R_drewN | apply Kd.R_drew)); exact HO_8.out⟩, ⟨by (try simp only [hl8_2]); (with_reducible repeat (first | refine blk_drewN ?_ _ | refine blk_drew ?_ | refine blk_alloc ?_ _)); exact BK111.out⟩, ⟨by repeat (first | (with_reducible first | exact HB.out | apply below_alloc | apply pw_below_drewN | apply below_drew1 | refine below_set ?_ GE111.out | refine below_set ?_ GE126.out) | exact HB.out)⟩⟩
                                                      · rw [if_neg c45] at H
                                                        exact absurd H (by simp)
                                                    · rw [if_neg c44] at H
                                                      exact absurd H (by simp)
                                                  · rw [if_neg c43] at H
                                                    exact absurd H (by simp)
                                                · rw [if_neg c41] at H
                                                  have c41b0 : ((y121.length : Int) == a1_0) = false := beq_eq_false_iff_ne.mpr c41
                                                  have c41b1 : ((y121.length : Int) != a1_0) = true := bne_iff_ne.mpr c41
                                                  by_cases c57 : x4_3.length < 4398046511104
                                                  · rw [if_pos c57] at H
                                                    have LMc57 := Aside0.mk c57
                                                    clear c57
                                                    obtain ⟨y131, hy131⟩ : ∃ y_ : List (S40), y_ = (x4_3 ++ [(⟨y121, (wrap64 ((rd l0 x10_3) + a1_1))⟩ : S40)]) := ⟨_, rfl⟩
                                                    replace H : (batch_Form.l2 k4 l0 y131 x8_2 x10_4 a1_0 a1_1) = some (r1, r2) := by first | (rw [hy131]; with_reducible exact H) | (have H2_ := (Option.bind_some _ _).symm.trans H; rw [hy131]; with_reducible exact H2_) | (have H2_ := (Option.bind_some _ _).symm.trans H; with_reducible exact H2_) | with_reducible exact H | (rw [hy131]; exact H) | exact H
                                                    have Ny131 := Aside0.mk hy131
                                                    clear hy131
                                                    have H' := Aside0.mk H
                                                    clear H
                                                    have hcz58_0 : wr.cell? ⟨gb111, 0, none⟩ = some (.int .i64 a1_0) := (blk_cell BK111.out 0).trans rfl
                                                    have hcz58_1 : wr.cell? ⟨gb111, 1, none⟩ = some (.int .i64 a1_1) := (blk_cell BK111.out 1).trans rfl
                                                    have hfz58_0 := blk_frozen BK111.out 0
                                                    have hfz58_1 := blk_frozen BK111.out 1
                                                    have p120 : 0 ≤ (x10_4 : Int) := of_decide_eq_true (by first | (with_reducible assumption) | assumption)
                                                    have q120 : x10_4 < (l0.length : Int) := of_decide_eq_true (by first | (with_reducible assumption) | assumption)
                                                    obtain ⟨ad120, e120, hx120_0⟩ := Kd.at_int HR0.out x10_4 p120 q120
                                                    obtain rfl : ad119 = ad120 := (by injection e120)
                                                    replace hx120_0 := (HB.out.cell (World.block_lt_of_cell? w _ hx120_0)).trans hx120_0
                                                    replace p120 := eq_true p120
                                                    replace q120 := eq_true q120
                                                    have q59 : (x10_4 : Int) ≤ ((x8_2.length : Int) : Int) := of_decide_eq_true (by first | (with_reducible assumption) | assumption)
                                                    obtain ⟨i059, hi059, _, hsz59, _⟩ := info_parts info3
                                                    have hroom59 : x8_2.length ≤ co23 := (Kd.R_reads' HO_8.out).2.1
                                                    have hC59 : Kd.F (Kd.int .i64) _ _ Ao23 x8_2.length x8_2 := (Kd.V_at (base := w.heap.size) (Kd.R_V (Kd.R_types (Kd.R_apart' (HO_8.out) (Kd.N_typed HO_4.out) (by decide)) BK111.out (by decide)))).2.2
                                                    have ql59 : (x10_3 : Int) ≤ (x10_4 : Int) := of_decide_eq_true (by first | (with_reducible assumption) | assumption)
                                                    have q059 : (0 : Int) ≤ (x10_3 : Int) := of_decide_eq_true (by first | (with_reducible assumption) | assumption)
                                                    have hcut59 := CutThree.cut_mid3 (P := Try.prog) 22 3 .i64 .i64 .i64 Try.underlying22 hi059 1 hsz59 Ao23 x8_2.length co23 x10_3 x10_4 q059 ql59 q59 hroom59
                                                    have hr59 := CutThree.F_mid3 (lo := (x10_3 : Int).toNat) (hi := (x10_4 : Int).toNat) hC59 (by omega) (by omega)
                                                    obtain ⟨A59, hA59⟩ : ∃ A1, A1 = (if (x10_4 : Int).toNat = (x10_3 : Int).toNat then Ao23 else (Ao23 : Option Addr).map (·.add ((x10_3 : Int).toNat * 1))) := ⟨_, rfl⟩
                                                    have hy59 : y121.length = (x10_4 : Int).toNat - (x10_3 : Int).toNat := (by rw [Ny121.out, List.length_drop, List.length_take] <;> omega)
                                                    rw [show ((x8_2).take (x10_4 : Int).toNat).drop (x10_3 : Int).toNat = y121 from Ny121.out.symm] at hr59
                                                    replace hr59 : Kd.F (Kd.int .i64) _ _ A59 y121.length y121 := (by rw [hA59]; exact hr59)
                                                    rw [← hy59, ← hA59] at hcut59
                                                    have HO125 := Aside0.mk (show Kd.V (Kd.int .i64) 3 _ w.heap.size _ (.slice A59 y121.length y121.length) y121 from Kd.V_mk (Nat.le_refl _) hr59)
                                                    have HC125 := Aside0.mk (show y121.length ≤ y121.length from Nat.le_refl _)
                                                    clear hr59 hC59 hroom59 hi059 hsz59
                                                    have KY59 := Aside0.mk hy59
                                                    have KA59 := Aside0.mk hA59
                                                    clear hy59 hA59
                                                    replace q59 := eq_true q59
                                                    go_wp2_with (first | ((with_reducible refine gate_dst (N := 13) rfl ?_); refine box_event ?hg (N := 13) ?hd (cs := #[.slice none 0 0, .int .i64 0]) (t := 40) ?hr ?_; (case hd => rfl); (case hg => rfl); (case hr => first | (go_simp; done) | (go_simp; rfl)); intro gb126 hg w60 hbox hb; have n0_ := Aside0.mk (Kd.N_below (Kd.N_elderB (by (with_reducible repeat (first | apply Kd.N_alloc | apply Kd.N_drewN | apply Kd.N_drew)); exact HO_4.out) gb126 (Nat.le_of_eq hg.symm)) hb); have n1_ := Aside0.mk (Kd.R_below (by (with_reducible repeat (first | apply Kd.R_alloc | apply Kd.R_drewN | apply Kd.R_drew)); exact HO_8.out) hb); have n2_ := Aside0.mk (Kd.V_below (Kd.V_elderB (by (with_reducible repeat (first | apply Kd.V_alloc | apply Kd.V_drewN | apply Kd.V_drew)); exact HO125.out) gb126 (Nat.le_of_eq hg.symm)) hb); have n3_ := Aside0.mk (blk_below (g := gb111) (o := .cells #[.int .i64 a1_0, .int .i64 a1_1] 26 (0, 0)) (by (with_reducible repeat (first | refine blk_drewN ?_ _ | refine blk_drew ?_ | refine blk_alloc ?_ _)); exact BK111.out) hb); have n4_ := Aside0.mk (below_step (by repeat (first | (with_reducible first | exact HB.out | apply below_alloc | apply pw_below_drewN | apply below_drew1 | refine below_set ?_ GE111.out) | exact HB.out)) hb); have n5_ := Aside0.mk (hbox); have n6_ := Aside0.mk ((by rw [hg]; exact (below_size (by repeat (first | (with_reducible first | exact HB.out | apply below_alloc | apply pw_below_drewN | apply below_drew1 | refine below_set ?_ GE111.out) | exact HB.out))) : w.heap.size ≤ gb126)); have n7_ := Aside0.mk ((by rw [hg]; exact (below_size (by repeat (first | (with_reducible first | exact HB.out | apply below_alloc | apply pw_below_drewN | apply below_drew1 | refine below_set ?_ GE111.out) | exact HB.out))) : w.heap.size ≤ gb126)); have n8_ := Aside0.mk ((by rw [hg]; exact Nat.ne_of_lt (blk_lt (g := gb111) (o := .cells #[.int .i64 a1_0, .int .i64 a1_1] 26 (0, 0)) (by (with_reducible repeat (first | refine blk_drewN ?_ _ | refine blk_drew ?_ | refine blk_alloc ?_ _)); exact BK111.out)) : gb111 ≠ gb126)); have n9_ := Aside0.mk ((by rw [hg]; exact Nat.ne_of_gt (blk_lt (g := gb111) (o := .cells #[.int .i64 a1_0, .int .i64 a1_1] 26 (0, 0)) (by (with_reducible repeat (first | refine blk_drewN ?_ _ | refine blk_drew ?_ | refine blk_alloc ?_ _)); exact BK111.out)) : gb126 ≠ gb111)); clear HO_4; clear HO_8; clear HO125; clear BK111; clear HB; have HO_4 := n0_; have HO_8 := n1_; have HO125 := n2_; have BK111 := n3_; have HB := n4_; have BK126 := n5_; have GW126 := n6_; have GE126 := n7_; have NB111_126 := n8_; have NB126_111 := n9_; clear n0_ n1_ n2_ n3_ n4_ n5_ n6_ n7_ n8_ n9_; clear hb hbox hg; have hnb61 := NB126_111.out; have hnc61 := NB111_126.out; have hcz62_0 : w60.cell? ⟨gb126, 0, none⟩ = some (.slice none 0 0) := (blk_cell BK126.out 0).trans rfl; have hcz62_1 : w60.cell? ⟨gb126, 1, none⟩ = some (.int .i64 0) := (blk_cell BK126.out 1).trans rfl; have hfz62_0 := blk_frozen BK126.out 0; have hfz62_1 := blk_frozen BK126.out 1) | ((with_reducible refine gate_store (t := 40) (p := 13) rfl ?_); (try (rw [drewN_self w60]; generalize hq_ : World.drewN w60 _ = w60; have n0_ := Aside0.mk (Kd.N_at hq_ HO_4.out); have n1_ := Aside0.mk (Kd.R_at hq_ HO_8.out); have n2_ := Aside0.mk (Kd.V_at hq_ HO125.out); have n3_ := Aside0.mk (blk_at hq_ BK111.out); have n4_ := Aside0.mk (blk_at hq_ BK126.out); have n5_ := Aside0.mk (below_at hq_ HB.out); clear hq_ HO_4 HO_8 HO125 BK111 BK126 HB; have HO_4 := n0_; have HO_8 := n1_; have HO125 := n2_; have BK111 := n3_; have BK126 := n4_; have HB := n5_; clear n0_ n1_ n2_ n3_ n4_ n5_)); refine store_event (t := 40) (p := 13) (v := ?vo_w63) (w1 := ((w60.setCell ⟨gb126, 0, none⟩ (.slice A59 y121.length y121.length)).setCell ⟨gb126, 1, none⟩ (.int .i64 (wrap64 ((rd l0 x10_3) + a1_1))))) ?hg ?ho ?hn ?hr ?_; (case ho => rfl); (case hg => rfl); (case hn => rfl); (case hr => first | (go_simp; done) | (go_simp; rfl)); intro w63 hw; have n0_ : Aside0 (Kd.N k40 40 w63 w.heap.size (fun k_ => (w.heap.size ≤ k_) ∧ k_ ≠ gb111 ∧ k_ ≠ gb126) u4 x4_3) := ⟨(by rw [hw]; exact (by (with_reducible repeat (first | apply Kd.N_alloc | apply Kd.N_drewN | apply Kd.N_drew)); exact Kd.N_mono (Kd.N_far (p := ⟨gb126, 1, none⟩) (Kd.N_far (p := ⟨gb126, 0, none⟩) (Kd.N_mono HO_4.out (fun k_ hk => (⟨hk, hk.2⟩ : _ ∧ k_ ≠ gb126))) (fun _ hk => hk.2) (.slice A59 y121.length y121.length)) (fun _ hk => hk.2) (.int .i64 (wrap64 ((rd l0 x10_3) + a1_1)))) (fun _ hk => ⟨hk.1.1.1, ⟨hk.1.1.2, hk.1.2⟩⟩)))⟩; have n1_ : Aside0 (Kd.R (Kd.int .i64) 3 w63 w.heap.size (fun k_ => (w.heap.size ≤ k_)) (.slice Ao23 x8_2.length co23) x8_2) := ⟨(by rw [hw]; exact (by (with_reducible repeat (first | apply Kd.R_alloc | apply Kd.R_drewN | apply Kd.R_drew)); exact Kd.R_mono (Kd.R_far (p := ⟨gb126, 1, none⟩) (Kd.R_far (p := ⟨gb126, 0, none⟩) (Kd.R_types HO_8.out BK126.out (by decide)) (fun _ hk => hk.2) (.slice A59 y121.length y121.length)) (fun _ hk => hk.2) (.int .i64 (wrap64 ((rd l0 x10_3) + a1_1)))) (fun _ hk => hk.1)))⟩; have n2_ : Aside0 (Kd.V (Kd.int .i64) 3 w63 w.heap.size (fun k_ => (w.heap.size ≤ k_) ∧ some k_ ≠ (u4 : Value).ownBlock ∧ k_ ≠ gb111 ∧ k_ ≠ gb126) (.slice A59 y121.length y121.length) y121) := ⟨(by rw [hw]; exact (by (with_reducible repeat (first | apply Kd.V_alloc | apply Kd.V_drewN | apply Kd.V_drew)); exact Kd.V_mono (Kd.V_far (p := ⟨gb126, 1, none⟩) (Kd.V_far (p := ⟨gb126, 0, none⟩) (Kd.V_mono HO125.out (fun k_ hk => (⟨hk, hk.2⟩ : _ ∧ k_ ≠ gb126))) (fun _ hk => hk.2) (.slice A59 y121.length y121.length)) (fun _ hk => hk.2) (.int .i64 (wrap64 ((rd l0 x10_3) + a1_1)))) (fun _ hk => ⟨hk.1.1.1.1, ⟨hk.1.1.1.2, ⟨hk.1.1.2, hk.1.2⟩⟩⟩)))⟩; have n3_ : Aside0 (w63.heap[gb111]? = some (.cells #[.int .i64 a1_0, .int .i64 a1_1] 26 (0, 0))) := ⟨(by rw [hw]; exact (by (with_reducible repeat (first | refine blk_drewN ?_ _ | refine blk_drew ?_ | refine blk_alloc ?_ _)); refine blk_far ?_ NB111_126.out _; (with_reducible repeat (first | refine blk_drewN ?_ _ | refine blk_drew ?_ | refine blk_alloc ?_ _)); refine blk_far ?_ NB111_126.out _; (with_reducible repeat (first | refine blk_drewN ?_ _ | refine blk_drew ?_ | refine blk_alloc ?_ _)); exact BK111.out))⟩; have n4_ : Aside0 (w63.heap[gb126]? = some (.cells #[.slice A59 y121.length y121.length, .int .i64 (wrap64 ((rd l0 x10_3) + a1_1))] 40 (0, 0))) := ⟨(by rw [hw]; exact (by (with_reducible repeat (first | refine blk_drewN ?_ _ | refine blk_drew ?_ | refine blk_alloc ?_ _)); refine blk_put (cs := #[.slice A59 y121.length y121.length, .int .i64 0]) ?_ 1 _ rfl; (with_reducible repeat (first | refine blk_drewN ?_ _ | refine blk_drew ?_ | refine blk_alloc ?_ _)); refine blk_put (cs := #[.slice none 0 0, .int .i64 0]) ?_ 0 _ rfl; (with_reducible repeat (first | refine blk_drewN ?_ _ | refine blk_drew ?_ | refine blk_alloc ?_ _)); exact BK126.out))⟩; have n5_ : Aside0 (Below w.heap.size w w63) := ⟨(by rw [hw]; exact (by repeat (first | (with_reducible first | exact HB.out | apply below_alloc | apply pw_below_drewN | apply below_drew1 | refine below_set ?_ GE111.out | refine below_set ?_ GE126.out) | exact HB.out)))⟩; clear hw; clear HO_4; clear HO_8; clear HO125; clear BK111; clear BK126; clear HB; have HO_4 := n0_; have HO_8 := n1_; have HO125 := n2_; have BK111 := n3_; have BK126 := n4_; have HB := n5_; clear n0_ n1_ n2_ n3_ n4_ n5_; have hcz64_0 : w63.cell? ⟨gb126, 0, none⟩ = some (.slice A59 y121.length y121.length) := (blk_cell BK126.out 0).trans rfl; have hcz64_1 : w63.cell? ⟨gb126, 1, none⟩ = some (.int .i64 (wrap64 ((rd l0 x10_3) + a1_1))) := (blk_cell BK126.out 1).trans rfl; have hfz64_0 := blk_frozen BK126.out 0; have hfz64_1 := blk_frozen BK126.out 1; have hcz65_0 : w63.cell? ⟨gb111, 0, none⟩ = some (.int .i64 a1_0) := (blk_cell BK111.out 0).trans rfl; have hcz65_1 : w63.cell? ⟨gb111, 1, none⟩ = some (.int .i64 a1_1) := (blk_cell BK111.out 1).trans rfl; have hfz65_0 := blk_frozen BK111.out 0; have hfz65_1 := blk_frozen BK111.out 1) | ((with_reducible refine gate_builtin (b := .append) (xs := #[.tmp 113, .tmp 115]) rfl ?_); at_builtin; refine Kd.N_append k40 (w0 := w) w.heap.size rfl (.tmp 113) (.tmp 115) 27 40 (.agg #[(.slice none 0 0), (.int .i64 0)]) 32 rfl Try.underlying27 info40 rfl (by decide) (by omega) u4 x4_3 (⟨y121, (wrap64 ((rd l0 x10_3) + a1_1))⟩ : S40) [.slice A59 y121.length y121.length, .int .i64 (wrap64 ((rd l0 x10_3) + a1_1))] (fun k_ => (w.heap.size ≤ k_) ∧ k_ ≠ gb111 ∧ k_ ≠ gb126) (fun k_ => ((fun k_ => (w.heap.size ≤ k_) ∧ k_ ≠ gb111 ∧ k_ ≠ gb126)) k_ ∧ some k_ ≠ (u4 : Value).ownBlock) rfl rfl ?aP (fun _ hk => hk) ?aF ?aO ?aB ?aS ?aL ?_; (case aP => exact (k40_mkF _ _ (⟨y121, (wrap64 ((rd l0 x10_3) + a1_1))⟩ : S40) (Kd.V_reads' (Kd.V_mono (ok' := (fun k_ => ((fun k_ => (w.heap.size ≤ k_) ∧ k_ ≠ gb111 ∧ k_ ≠ gb126)) k_ ∧ some k_ ≠ (u4 : Value).ownBlock)) (HO125.out) (fun k_ hk => ⟨⟨hk.1, ⟨hk.2.2.1, hk.2.2.2⟩⟩, hk.2.1⟩))).2.1 (Kd.V_F (Kd.V_mono (ok' := (fun k_ => ((fun k_ => (w.heap.size ≤ k_) ∧ k_ ≠ gb111 ∧ k_ ≠ gb126)) k_ ∧ some k_ ≠ (u4 : Value).ownBlock)) (HO125.out) (fun k_ hk => ⟨⟨hk.1, ⟨hk.2.2.1, hk.2.2.2⟩⟩, hk.2.1⟩))))); (case aB => exact (by repeat (first | (with_reducible first | exact HB.out | apply below_alloc | apply pw_below_drewN | apply below_drew1 | refine below_set ?_ GE111.out | refine below_set ?_ GE126.out) | exact HB.out))); (case aF => exact (fun k_ hk => ⟨(Nat.le_trans (below_size (by repeat (first | (with_reducible first | exact HB.out | apply below_alloc | apply pw_below_drewN | apply below_drew1 | refine below_set ?_ GE111.out | refine below_set ?_ GE126.out) | exact HB.out))) hk), Kd.freshB (g := gb111) (o := .cells #[.int .i64 a1_0, .int .i64 a1_1] 26 (0, 0)) (by (with_reducible repeat (first | refine blk_drewN ?_ _ | refine blk_drew ?_ | refine blk_alloc ?_ _)); exact BK111.out) k_ hk, Kd.freshB (g := gb126) (o := .cells #[.slice A59 y121.length y121.length, .int .i64 (wrap64 ((rd l0 x10_3) + a1_1))] 40 (0, 0)) (by (with_reducible repeat (first | refine blk_drewN ?_ _ | refine blk_drew ?_ | refine blk_alloc ?_ _)); exact BK126.out) k_ hk⟩)); (case aO => exact (by (with_reducible repeat (first | apply Kd.N_alloc | apply Kd.N_drewN | apply Kd.N_drew)); exact HO_4.out)); (case aS => exact (below_size (by repeat (first | (with_reducible first | exact HB.out | apply below_alloc | apply pw_below_drewN | apply below_drew1 | refine below_set ?_ GE111.out | refine below_set ?_ GE126.out) | exact HB.out)))); (case aL => have := LMc57.out; omega); intro v132 w66 ho hb hg hat; rw [← Ny131.out] at ho; have n0_ := Aside0.mk (Kd.R_over' (by (with_reducible repeat (first | apply Kd.R_alloc | apply Kd.R_drewN | apply Kd.R_drew)); exact HO_8.out) (Kd.N_typed (by (with_reducible repeat (first | apply Kd.N_alloc | apply Kd.N_drewN | apply Kd.N_drew)); exact HO_4.out)) (by decide) hg); have n1_ := Aside0.mk (blk_grown (g := gb111) (o := .cells #[.int .i64 a1_0, .int .i64 a1_1] 26 (0, 0)) (by (with_reducible repeat (first | refine blk_drewN ?_ _ | refine blk_drew ?_ | refine blk_alloc ?_ _)); exact BK111.out) hg (Kd.N_ne HO_4.out BK111.out (by decide))); have n2_ := Aside0.mk (Kd.V_afterv (ok := (fun k_ => (w.heap.size ≤ k_) ∧ k_ ≠ gb111 ∧ k_ ≠ gb126)) (by (with_reducible repeat (first | apply Kd.V_alloc | apply Kd.V_drewN | apply Kd.V_drew)); exact Kd.V_mono HO125.out (fun _ hk => ⟨⟨hk.1, ⟨hk.2.2.1, hk.2.2.2⟩⟩, hk.2.1⟩)) hg hat); have n3_ := Aside0.mk (blk_grown (g := gb126) (o := .cells #[.slice A59 y121.length y121.length, .int .i64 (wrap64 ((rd l0 x10_3) + a1_1))] 40 (0, 0)) (by (with_reducible repeat (first | refine blk_drewN ?_ _ | refine blk_drew ?_ | refine blk_alloc ?_ _)); exact BK126.out) hg (Kd.N_away HO_4.out (fun _ hk => hk.2.2))); have n4_ := Aside0.mk (hb); have n5_ := Aside0.mk (ho); clear HO_8; clear BK111; clear HO125; clear BK126; clear HB; clear HO_4; have HO_8 := n0_; have BK111 := n1_; have HO125 := n2_; have BK126 := n3_; have HB := n4_; have HO133 := n5_; clear n0_ n1_ n2_ n3_ n4_ n5_; clear ho hb hg hat))
                                                    repeat (go_quiet (fail); try go_wp2)
                                                    go_roundg k4
                                                    case measure => have := HK1.out; have := HK2.out; have := HK3.out; have := HK4.out; omega
                                                    case rel => exact ⟨(y131), (x10_4), (by first | rfl | (simp; done) | (simp [*]; done)), H', ⟨by have := HK1.out; have := HK2.out; have := HK3.out; have := HK4.out; omega⟩, ⟨by (try simp only [hl8_2]); (with_reducible repeat (first | apply Kd.N_alloc | apply Kd.N_drewN | apply Kd.N_drew)); exact Kd.N_mono HO133.out (fun _ hk => ⟨hk.1, hk.2.1⟩)⟩, ⟨by (try simp only [hl8_2]); (with_reducible repeat (first | apply Kd.R_alloc | apply Kd.R_drewN | apply Kd.R_drew)); exact HO_8.out⟩, ⟨by (try simp only [hl8_2]); (with_reducible repeat (first | refine blk_drewN ?_ _ | refine blk_drew ?_ | refine blk_alloc ?_ _)); exact BK111.out⟩, ⟨by repeat (first | (with_reducible first | exact HB.out | apply below_alloc | apply pw_below_drewN | apply below_drew1 | refine below_set ?_ GE111.out | refine below_set ?_ GE126.out) | exact HB.out)⟩⟩
                                                  · rw [if_neg c57] at H
                                                    exact absurd H (by simp)
                                              · rw [if_neg c40] at H
                                                exact absurd H (by simp)
                                            · rw [if_neg c39] at H
                                              exact absurd H (by simp)
                                          · rw [if_neg c38] at H
                                            exact absurd H (by simp)
                                      · rw [if_neg c35] at H
                                        exact absurd H (by simp)
                                    · rw [if_neg c34] at H
                                      have c34b0 : decide ((wrap64 (x10_4 - x10_3)) < a1_0) = false := decide_eq_false c34
                                      clear c34
                                      by_cases c67 : 0 ≤ x10_3
                                      · rw [if_pos c67] at H
                                        have c67b0 := eq_true c67
                                        have c67b1 : decide (0 ≤ x10_3) = true := decide_eq_true c67
                                        clear c67
                                        by_cases c68 : x10_3 ≤ x10_4
                                        · rw [if_pos c68] at H
                                          have c68b0 := eq_true c68
                                          have c68b1 : decide (x10_3 ≤ x10_4) = true := decide_eq_true c68
                                          clear c68
                                          by_cases c69 : x10_4 ≤ (x8_2.length : Int)
                                          · rw [if_pos c69] at H
                                            have c69b0 := eq_true c69
                                            have c69b1 : decide (x10_4 ≤ (x8_2.length : Int)) = true := decide_eq_true c69
                                            clear c69
                                            obtain ⟨y134, hy134⟩ : ∃ y_ : List Int, y_ = ((x8_2.take (x10_4 : Int).toNat).drop (x10_3 : Int).toNat) := ⟨_, rfl⟩
                                            replace H : (if (y134.length : Int) = a1_0 then (if 0 ≤ (wrap64 (x10_4 - 1)) then (if (wrap64 (x10_4 - 1)) < (l0.length : Int) then (if x4_3.length < 4398046511104 then (batch_Form.l2 k4 l0 (x4_3 ++ [(⟨y134, rd l0 (wrap64 (x10_4 - 1))⟩ : S40)]) x8_2 x10_4 a1_0 a1_1) else (none)) else (none)) else (none)) else (if x4_3.length < 4398046511104 then (batch_Form.l2 k4 l0 (x4_3 ++ [(⟨y134, (wrap64 ((rd l0 x10_3) + a1_1))⟩ : S40)]) x8_2 x10_4 a1_0 a1_1) else (none))) = some (r1, r2) := by first | (rw [hy134]; with_reducible exact H) | (have H2_ := (Option.bind_some _ _).symm.trans H; rw [hy134]; with_reducible exact H2_) | (have H2_ := (Option.bind_some _ _).symm.trans H; with_reducible exact H2_) | with_reducible exact H | (rw [hy134]; exact H) | exact H
                                            have Ny134 := Aside0.mk hy134
                                            clear hy134
                                            by_cases c70 : (y134.length : Int) = a1_0
                                            · rw [if_pos c70] at H
                                              have c70b0 : ((y134.length : Int) == a1_0) = true := beq_iff_eq.mpr c70
                                              have c70b1 : ((y134.length : Int) != a1_0) = false := bne_eq_false_iff_eq.mpr c70
                                              clear c70
                                              obtain ⟨ji71, hji71⟩ : ∃ j_ : Int, (wrap64 (x10_4 - 1)) = j_ := ⟨_, rfl⟩
                                              replace H : (if 0 ≤ (ji71) then (if (ji71) < (l0.length : Int) then (if x4_3.length < 4398046511104 then (batch_Form.l2 k4 l0 (x4_3 ++ [(⟨y134, rd l0 (ji71)⟩ : S40)]) x8_2 x10_4 a1_0 a1_1) else (none)) else (none)) else (none)) = some (r1, r2) := by first | (rw [hji71] at H; exact H) | (simp only [hji71] at H ⊢; exact H)
                                              have hji71w : (IntKind.i64.wrap (x10_4 - 1)) = ji71 := (i64_w _).trans hji71
                                              by_cases c72 : 0 ≤ (ji71)
                                              · rw [if_pos c72] at H
                                                have c72b0 : decide (0 ≤ (ji71)) = true := decide_eq_true c72
                                                clear c72
                                                by_cases c73 : (ji71) < (l0.length : Int)
                                                · rw [if_pos c73] at H
                                                  have c73b0 : decide ((ji71) < (l0.length : Int)) = true := decide_eq_true c73
                                                  clear c73
                                                  by_cases c74 : x4_3.length < 4398046511104
                                                  · rw [if_pos c74] at H
                                                    have LMc74 := Aside0.mk c74
                                                    clear c74
                                                    obtain ⟨y141, hy141⟩ : ∃ y_ : List (S40), y_ = (x4_3 ++ [(⟨y134, rd l0 (ji71)⟩ : S40)]) := ⟨_, rfl⟩
                                                    replace H : (batch_Form.l2 k4 l0 y141 x8_2 x10_4 a1_0 a1_1) = some (r1, r2) := by first | (rw [hy141]; with_reducible exact H) | (have H2_ := (Option.bind_some _ _).symm.trans H; rw [hy141]; with_reducible exact H2_) | (have H2_ := (Option.bind_some _ _).symm.trans H; with_reducible exact H2_) | with_reducible exact H | (rw [hy141]; exact H) | exact H
                                                    have Ny141 := Aside0.mk hy141
                                                    clear hy141
                                                    have H' := Aside0.mk H
                                                    clear H
                                                    have hcz75_0 : wr.cell? ⟨gb111, 0, none⟩ = some (.int .i64 a1_0) := (blk_cell BK111.out 0).trans rfl
                                                    have hcz75_1 : wr.cell? ⟨gb111, 1, none⟩ = some (.int .i64 a1_1) := (blk_cell BK111.out 1).trans rfl
                                                    have hfz75_0 := blk_frozen BK111.out 0
                                                    have hfz75_1 := blk_frozen BK111.out 1
                                                    have q76 : (x10_4 : Int) ≤ ((x8_2.length : Int) : Int) := of_decide_eq_true (by first | (with_reducible assumption) | assumption)
                                                    obtain ⟨i076, hi076, _, hsz76, _⟩ := info_parts info3
                                                    have hroom76 : x8_2.length ≤ co23 := (Kd.R_reads' HO_8.out).2.1
                                                    have hC76 : Kd.F (Kd.int .i64) _ _ Ao23 x8_2.length x8_2 := (Kd.V_at (base := w.heap.size) (Kd.R_V (Kd.R_types (Kd.R_apart' (HO_8.out) (Kd.N_typed HO_4.out) (by decide)) BK111.out (by decide)))).2.2
                                                    have ql76 : (x10_3 : Int) ≤ (x10_4 : Int) := of_decide_eq_true (by first | (with_reducible assumption) | assumption)
                                                    have q076 : (0 : Int) ≤ (x10_3 : Int) := of_decide_eq_true (by first | (with_reducible assumption) | assumption)
                                                    have hcut76 := CutThree.cut_mid3 (P := Try.prog) 22 3 .i64 .i64 .i64 Try.underlying22 hi076 1 hsz76 Ao23 x8_2.length co23 x10_3 x10_4 q076 ql76 q76 hroom76
                                                    have hr76 := CutThree.F_mid3 (lo := (x10_3 : Int).toNat) (hi := (x10_4 : Int).toNat) hC76 (by omega) (by omega)
                                                    obtain ⟨A76, hA76⟩ : ∃ A1, A1 = (if (x10_4 : Int).toNat = (x10_3 : Int).toNat then Ao23 else (Ao23 : Option Addr).map (·.add ((x10_3 : Int).toNat * 1))) := ⟨_, rfl⟩
                                                    have hy76 : y134.length = (x10_4 : Int).toNat - (x10_3 : Int).toNat := (by rw [Ny134.out, List.length_drop, List.length_take] <;> omega)
                                                    rw [show ((x8_2).take (x10_4 : Int).toNat).drop (x10_3 : Int).toNat = y134 from Ny134.out.symm] at hr76
                                                    replace hr76 : Kd.F (Kd.int .i64) _ _ A76 y134.length y134 := (by rw [hA76]; exact hr76)
                                                    rw [← hy76, ← hA76] at hcut76
                                                    have HO138 := Aside0.mk (show Kd.V (Kd.int .i64) 3 _ w.heap.size _ (.slice A76 y134.length y134.length) y134 from Kd.V_mk (Nat.le_refl _) hr76)
                                                    have HC138 := Aside0.mk (show y134.length ≤ y134.length from Nat.le_refl _)
                                                    clear hr76 hC76 hroom76 hi076 hsz76
                                                    have KY76 := Aside0.mk hy76
                                                    have KA76 := Aside0.mk hA76
                                                    clear hy76 hA76
                                                    replace q76 := eq_true q76
                                                    go_wp2_with (first | ((with_reducible refine gate_dst (N := 13) rfl ?_); refine box_event ?hg (N := 13) ?hd (cs := #[.slice none 0 0, .int .i64 0]) (t := 40) ?hr ?_; (case hd => rfl); (case hg => rfl); (case hr => first | (go_simp; done) | (go_simp; rfl)); intro gb139 hg w77 hbox hb; have n0_ := Aside0.mk (Kd.N_below (Kd.N_elderB (by (with_reducible repeat (first | apply Kd.N_alloc | apply Kd.N_drewN | apply Kd.N_drew)); exact HO_4.out) gb139 (Nat.le_of_eq hg.symm)) hb); have n1_ := Aside0.mk (Kd.R_below (by (with_reducible repeat (first | apply Kd.R_alloc | apply Kd.R_drewN | apply Kd.R_drew)); exact HO_8.out) hb); have n2_ := Aside0.mk (Kd.V_below (Kd.V_elderB (by (with_reducible repeat (first | apply Kd.V_alloc | apply Kd.V_drewN | apply Kd.V_drew)); exact HO138.out) gb139 (Nat.le_of_eq hg.symm)) hb); have n3_ := Aside0.mk (blk_below (g := gb111) (o := .cells #[.int .i64 a1_0, .int .i64 a1_1] 26 (0, 0)) (by (with_reducible repeat (first | refine blk_drewN ?_ _ | refine blk_drew ?_ | refine blk_alloc ?_ _)); exact BK111.out) hb); have n4_ := Aside0.mk (below_step (by repeat (first | (with_reducible first | exact HB.out | apply below_alloc | apply pw_below_drewN | apply below_drew1 | refine below_set ?_ GE111.out) | exact HB.out)) hb); have n5_ := Aside0.mk (hbox); have n6_ := Aside0.mk ((by rw [hg]; exact (below_size (by repeat (first | (with_reducible first | exact HB.out | apply below_alloc | apply pw_below_drewN | apply below_drew1 | refine below_set ?_ GE111.out) | exact HB.out))) : w.heap.size ≤ gb139)); have n7_ := Aside0.mk ((by rw [hg]; exact (below_size (by repeat (first | (with_reducible first | exact HB.out | apply below_alloc | apply pw_below_drewN | apply below_drew1 | refine below_set ?_ GE111.out) | exact HB.out))) : w.heap.size ≤ gb139)); have n8_ := Aside0.mk ((by rw [hg]; exact Nat.ne_of_lt (blk_lt (g := gb111) (o := .cells #[.int .i64 a1_0, .int .i64 a1_1] 26 (0, 0)) (by (with_reducible repeat (first | refine blk_drewN ?_ _ | refine blk_drew ?_ | refine blk_alloc ?_ _)); exact BK111.out)) : gb111 ≠ gb139)); have n9_ := Aside0.mk ((by rw [hg]; exact Nat.ne_of_gt (blk_lt (g := gb111) (o := .cells #[.int .i64 a1_0, .int .i64 a1_1] 26 (0, 0)) (by (with_reducible repeat (first | refine blk_drewN ?_ _ | refine blk_drew ?_ | refine blk_alloc ?_ _)); exact BK111.out)) : gb139 ≠ gb111)); clear HO_4; clear HO_8; clear HO138; clear BK111; clear HB; have HO_4 := n0_; have HO_8 := n1_; have HO138 := n2_; have BK111 := n3_; have HB := n4_; have BK139 := n5_; have GW139 := n6_; have GE139 := n7_; have NB111_139 := n8_; have NB139_111 := n9_; clear n0_ n1_ n2_ n3_ n4_ n5_ n6_ n7_ n8_ n9_; clear hb hbox hg; have hnb78 := NB139_111.out; have hnc78 := NB111_139.out; have hcz79_0 : w77.cell? ⟨gb139, 0, none⟩ = some (.slice none 0 0) := (blk_cell BK139.out 0).trans rfl; have hcz79_1 : w77.cell? ⟨gb139, 1, none⟩ = some (.int .i64 0) := (blk_cell BK139.out 1).trans rfl; have hfz79_0 := blk_frozen BK139.out 0; have hfz79_1 := blk_frozen BK139.out 1) | ((with_reducible refine gate_store (t := 40) (p := 13) rfl ?_); (try (rw [drewN_self w77]; generalize hq_ : World.drewN w77 _ = w77; have n0_ := Aside0.mk (Kd.N_at hq_ HO_4.out); have n1_ := Aside0.mk (Kd.R_at hq_ HO_8.out); have n2_ := Aside0.mk (Kd.V_at hq_ HO138.out); have n3_ := Aside0.mk (blk_at hq_ BK111.out); have n4_ := Aside0.mk (blk_at hq_ BK139.out); have n5_ := Aside0.mk (below_at hq_ HB.out); clear hq_ HO_4 HO_8 HO138 BK111 BK139 HB; have HO_4 := n0_; have HO_8 := n1_; have HO138 := n2_; have BK111 := n3_; have BK139 := n4_; have HB := n5_; clear n0_ n1_ n2_ n3_ n4_ n5_)); refine store_event (t := 40) (p := 13) (v := ?vo_w80) (w1 := ((w77.setCell ⟨gb139, 0, none⟩ (.slice A76 y134.length y134.length)).setCell ⟨gb139, 1, none⟩ (.int .i64 (wrap64 ((rd l0 x10_3) + a1_1))))) ?hg ?ho ?hn ?hr ?_; (case ho => rfl); (case hg => rfl); (case hn => rfl); (case hr => first | (go_simp; done) | (go_simp; rfl)); intro w80 hw; have n0_ : Aside0 (Kd.N k40 40 w80 w.heap.size (fun k_ => (w.heap.size ≤ k_) ∧ k_ ≠ gb111 ∧ k_ ≠ gb139) u4 x4_3) := ⟨(by rw [hw]; exact (by (with_reducible repeat (first | apply Kd.N_alloc | apply Kd.N_drewN | apply Kd.N_drew)); exact Kd.N_mono (Kd.N_far (p := ⟨gb139, 1, none⟩) (Kd.N_far (p := ⟨gb139, 0, none⟩) (Kd.N_mono HO_4.out (fun k_ hk => (⟨hk, hk.2⟩ : _ ∧ k_ ≠ gb139))) (fun _ hk => hk.2) (.slice A76 y134.length y134.length)) (fun _ hk => hk.2) (.int .i64 (wrap64 ((rd l0 x10_3) + a1_1)))) (fun _ hk => ⟨hk.1.1.1, ⟨hk.1.1.2, hk.1.2⟩⟩)))⟩; have n1_ : Aside0 (Kd.R (Kd.int .i64) 3 w80 w.heap.size (fun k_ => (w.heap.size ≤ k_)) (.slice Ao23 x8_2.length co23) x8_2) := ⟨(by rw [hw]; exact (by (with_reducible repeat (first | apply Kd.R_alloc | apply Kd.R_drewN | apply Kd.R_drew)); exact Kd.R_mono (Kd.R_far (p := ⟨gb139, 1, none⟩) (Kd.R_far (p := ⟨gb139, 0, none⟩) (Kd.R_types HO_8.out BK139.out (by decide)) (fun _ hk => hk.2) (.slice A76 y134.length y134.length)) (fun _ hk => hk.2) (.int .i64 (wrap64 ((rd l0 x10_3) + a1_1)))) (fun _ hk => hk.1)))⟩; have n2_ : Aside0 (Kd.V (Kd.int .i64) 3 w80 w.heap.size (fun k_ => (w.heap.size ≤ k_) ∧ some k_ ≠ (u4 : Value).ownBlock ∧ k_ ≠ gb111 ∧ k_ ≠ gb139) (.slice A76 y134.length y134.length) y134) := ⟨(by rw [hw]; exact (by (with_reducible repeat (first | apply Kd.V_alloc | apply Kd.V_drewN | apply Kd.V_drew)); exact Kd.V_mono (Kd.V_far (p := ⟨gb139, 1, none⟩) (Kd.V_far (p := ⟨gb139, 0, none⟩) (Kd.V_mono HO138.out (fun k_ hk => (⟨hk, hk.2⟩ : _ ∧ k_ ≠ gb139))) (fun _ hk => hk.2) (.slice A76 y134.length y134.length)) (fun _ hk => hk.2) (.int .i64 (wrap64 ((rd l0 x10_3) + a1_1)))) (fun _ hk => ⟨hk.1.1.1.1, ⟨hk.1.1.1.2, ⟨hk.1.1.2, hk.1.2⟩⟩⟩)))⟩; have n3_ : Aside0 (w80.heap[gb111]? = some (.cells #[.int .i64 a1_0, .int .i64 a1_1] 26 (0, 0))) := ⟨(by rw [hw]; exact (by (with_reducible repeat (first | refine blk_drewN ?_ _ | refine blk_drew ?_ | refine blk_alloc ?_ _)); refine blk_far ?_ NB111_139.out _; (with_reducible repeat (first | refine blk_drewN ?_ _ | refine blk_drew ?_ | refine blk_alloc ?_ _)); refine blk_far ?_ NB111_139.out _; (with_reducible repeat (first | refine blk_drewN ?_ _ | refine blk_drew ?_ | refine blk_alloc ?_ _)); exact BK111.out))⟩; have n4_ : Aside0 (w80.heap[gb139]? = some (.cells #[.slice A76 y134.length y134.length, .int .i64 (wrap64 ((rd l0 x10_3) + a1_1))] 40 (0, 0))) := ⟨(by rw [hw]; exact (by (with_reducible repeat (first | refine blk_drewN ?_ _ | refine blk_drew ?_ | refine blk_alloc ?_ _)); refine blk_put (cs := #[.slice A76 y134.length y134.length, .int .i64 0]) ?_ 1 _ rfl; (with_reducible repeat (first | refine blk_drewN ?_ _ | refine blk_drew ?_ | refine blk_alloc ?_ _)); refine blk_put (cs := #[.slice none 0 0, .int .i64 0]) ?_ 0 _ rfl; (with_reducible repeat (first | refine blk_drewN ?_ _ | refine blk_drew ?_ | refine blk_alloc ?_ _)); exact BK139.out))⟩; have n5_ : Aside0 (Below w.heap.size w w80) := ⟨(by rw [hw]; exact (by repeat (first | (with_reducible first | exact HB.out | apply below_alloc | apply pw_below_drewN | apply below_drew1 | refine below_set ?_ GE111.out | refine below_set ?_ GE139.out) | exact HB.out)))⟩; clear hw; clear HO_4; clear HO_8; clear HO138; clear BK111; clear BK139; clear HB; have HO_4 := n0_; have HO_8 := n1_; have HO138 := n2_; have BK111 := n3_; have BK139 := n4_; have HB := n5_; clear n0_ n1_ n2_ n3_ n4_ n5_; have hcz81_0 : w80.cell? ⟨gb139, 0, none⟩ = some (.slice A76 y134.length y134.length) := (blk_cell BK139.out 0).trans rfl; have hcz81_1 : w80.cell? ⟨gb139, 1, none⟩ = some (.int .i64 (wrap64 ((rd l0 x10_3) + a1_1))) := (blk_cell BK139.out 1).trans rfl; have hfz81_0 := blk_frozen BK139.out 0; have hfz81_1 := blk_frozen BK139.out 1; have hcz82_0 : w80.cell? ⟨gb111, 0, none⟩ = some (.int .i64 a1_0) := (blk_cell BK111.out 0).trans rfl; have hcz82_1 : w80.cell? ⟨gb111, 1, none⟩ = some (.int .i64 a1_1) := (blk_cell BK111.out 1).trans rfl; have hfz82_0 := blk_frozen BK111.out 0; have hfz82_1 := blk_frozen BK111.out 1; have p140 : 0 ≤ ((ji71) : Int) := of_decide_eq_true (by first | (with_reducible assumption) | assumption); have q140 : (ji71) < (l0.length : Int) := of_decide_eq_true (by first | (with_reducible assumption) | assumption); obtain ⟨ad140, e140, hx140_0⟩ := Kd.at_int HR0.out (ji71) p140 q140; obtain rfl : ad119 = ad140 := (by injection e140); replace hx140_0 := (HB.out.cell (World.block_lt_of_cell? w _ hx140_0)).trans hx140_0; replace p140 := eq_true p140; replace q140 := eq_true q140) | ((with_reducible refine gate_store (t := 3) (p := 112) rfl ?_); (try (rw [drewN_self w80]; generalize hq_ : World.drewN w80 _ = w80; have n0_ := Aside0.mk (Kd.N_at hq_ HO_4.out); have n1_ := Aside0.mk (Kd.R_at hq_ HO_8.out); have n2_ := Aside0.mk (Kd.V_at hq_ HO138.out); have n3_ := Aside0.mk (blk_at hq_ BK111.out); have n4_ := Aside0.mk (blk_at hq_ BK139.out); have n5_ := Aside0.mk (below_at hq_ HB.out); clear hq_ HO_4 HO_8 HO138 BK111 BK139 HB; have HO_4 := n0_; have HO_8 := n1_; have HO138 := n2_; have BK111 := n3_; have BK139 := n4_; have HB := n5_; clear n0_ n1_ n2_ n3_ n4_ n5_)); refine store_event (t := 3) (p := 112) (v := ?vo_w83) (w1 := (w80.setCell ⟨gb139, 1, none⟩ (.int .i64 (rd l0 (ji71))))) ?hg ?ho ?hn ?hr ?_; (case ho => rfl); (case hg => rfl); (case hn => rfl); (case hr => first | (go_simp; done) | (go_simp; rfl)); intro w83 hw; have n0_ : Aside0 (Kd.N k40 40 w83 w.heap.size (fun k_ => (w.heap.size ≤ k_) ∧ k_ ≠ gb111 ∧ k_ ≠ gb139) u4 x4_3) := ⟨(by rw [hw]; exact (by (with_reducible repeat (first | apply Kd.N_alloc | apply Kd.N_drewN | apply Kd.N_drew)); exact Kd.N_mono (Kd.N_far (p := ⟨gb139, 1, none⟩) (Kd.N_mono HO_4.out (fun k_ hk => (⟨hk, hk.2.2⟩ : _ ∧ k_ ≠ gb139))) (fun _ hk => hk.2) (.int .i64 (rd l0 (ji71)))) (fun _ hk => ⟨hk.1.1, ⟨hk.1.2.1, hk.1.2.2⟩⟩)))⟩; have n1_ : Aside0 (Kd.R (Kd.int .i64) 3 w83 w.heap.size (fun k_ => (w.heap.size ≤ k_)) (.slice Ao23 x8_2.length co23) x8_2) := ⟨(by rw [hw]; exact (by (with_reducible repeat (first | apply Kd.R_alloc | apply Kd.R_drewN | apply Kd.R_drew)); exact Kd.R_mono (Kd.R_far (p := ⟨gb139, 1, none⟩) (Kd.R_types HO_8.out BK139.out (by decide)) (fun _ hk => hk.2) (.int .i64 (rd l0 (ji71)))) (fun _ hk => hk.1)))⟩; have n2_ : Aside0 (Kd.V (Kd.int .i64) 3 w83 w.heap.size (fun k_ => (w.heap.size ≤ k_) ∧ some k_ ≠ (u4 : Value).ownBlock ∧ k_ ≠ gb111 ∧ k_ ≠ gb139) (.slice A76 y134.length y134.length) y134) := ⟨(by rw [hw]; exact (by (with_reducible repeat (first | apply Kd.V_alloc | apply Kd.V_drewN | apply Kd.V_drew)); exact Kd.V_mono (Kd.V_far (p := ⟨gb139, 1, none⟩) (Kd.V_mono HO138.out (fun k_ hk => (⟨hk, hk.2.2.2⟩ : _ ∧ k_ ≠ gb139))) (fun _ hk => hk.2) (.int .i64 (rd l0 (ji71)))) (fun _ hk => ⟨hk.1.1, ⟨hk.1.2.1, ⟨hk.1.2.2.1, hk.1.2.2.2⟩⟩⟩)))⟩; have n3_ : Aside0 (w83.heap[gb111]? = some (.cells #[.int .i64 a1_0, .int .i64 a1_1] 26 (0, 0))) := ⟨(by rw [hw]; exact (by (with_reducible repeat (first | refine blk_drewN ?_ _ | refine blk_drew ?_ | refine blk_alloc ?_ _)); refine blk_far ?_ NB111_139.out _; (with_reducible repeat (first | refine blk_drewN ?_ _ | refine blk_drew ?_ | refine blk_alloc ?_ _)); exact BK111.out))⟩; have n4_ : Aside0 (w83.heap[gb139]? = some (.cells #[.slice A76 y134.length y134.length, .int .i64 (rd l0 (ji71))] 40 (0, 0))) := ⟨(by rw [hw]; exact (by (with_reducible repeat (first | refine blk_drewN ?_ _ | refine blk_drew ?_ | refine blk_alloc ?_ _)); refine blk_put (cs := #[.slice A76 y134.length y134.length, .int .i64 (wrap64 ((rd l0 x10_3) + a1_1))]) ?_ 1 _ rfl; (with_reducible repeat (first | refine blk_drewN ?_ _ | refine blk_drew ?_ | refine blk_alloc ?_ _)); exact BK139.out))⟩; have n5_ : Aside0 (Below w.heap.size w w83) := ⟨(by rw [hw]; exact (by repeat (first | (with_reducible first | exact HB.out | apply below_alloc | apply pw_below_drewN | apply below_drew1 | refine below_set ?_ GE111.out | refine below_set ?_ GE139.out) | exact HB.out)))⟩; clear hw; clear HO_4; clear HO_8; clear HO138; clear BK111; clear BK139; clear HB; have HO_4 := n0_; have HO_8 := n1_; have HO138 := n2_; have BK111 := n3_; have BK139 := n4_; have HB := n5_; clear n0_ n1_ n2_ n3_ n4_ n5_; have hcz84_0 : w83.cell? ⟨gb139, 0, none⟩ = some (.slice A76 y134.length y134.length) := (blk_cell BK139.out 0).trans rfl; have hcz84_1 : w83.cell? ⟨gb139, 1, none⟩ = some (.int .i64 (rd l0 (ji71))) := (blk_cell BK139.out 1).trans rfl; have hfz84_0 := blk_frozen BK139.out 0; have hfz84_1 := blk_frozen BK139.out 1) | ((with_reducible refine gate_builtin (b := .append) (xs := #[.tmp 113, .tmp 115]) rfl ?_); at_builtin; refine Kd.N_append k40 (w0 := w) w.heap.size rfl (.tmp 113) (.tmp 115) 27 40 (.agg #[(.slice none 0 0), (.int .i64 0)]) 32 rfl Try.underlying27 info40 rfl (by decide) (by omega) u4 x4_3 (⟨y134, rd l0 (ji71)⟩ : S40) [.slice A76 y134.length y134.length, .int .i64 (rd l0 (ji71))] (fun k_ => (w.heap.size ≤ k_) ∧ k_ ≠ gb111 ∧ k_ ≠ gb139) (fun k_ => ((fun k_ => (w.heap.size ≤ k_) ∧ k_ ≠ gb111 ∧ k_ ≠ gb139)) k_ ∧ some k_ ≠ (u4 : Value).ownBlock) rfl rfl ?aP (fun _ hk => hk) ?aF ?aO ?aB ?aS ?aL ?_; (case aP => exact (k40_mkF _ _ (⟨y134, rd l0 (ji71)⟩ : S40) (Kd.V_reads' (Kd.V_mono (ok' := (fun k_ => ((fun k_ => (w.heap.size ≤ k_) ∧ k_ ≠ gb111 ∧ k_ ≠ gb139)) k_ ∧ some k_ ≠ (u4 : Value).ownBlock)) (HO138.out) (fun k_ hk => ⟨⟨hk.1, ⟨hk.2.2.1, hk.2.2.2⟩⟩, hk.2.1⟩))).2.1 (Kd.V_F (Kd.V_mono (ok' := (fun k_ => ((fun k_ => (w.heap.size ≤ k_) ∧ k_ ≠ gb111 ∧ k_ ≠ gb139)) k_ ∧ some k_ ≠ (u4 : Value).ownBlock)) (HO138.out) (fun k_ hk => ⟨⟨hk.1, ⟨hk.2.2.1, hk.2.2.2⟩⟩, hk.2.1⟩))))); (case aB => exact (by repeat (first | (with_reducible first | exact HB.out | apply below_alloc | apply pw_below_drewN | apply below_drew1 | refine below_set ?_ GE111.out | refine below_set ?_ GE139.out) | exact HB.out))); (case aF => exact (fun k_ hk => ⟨(Nat.le_trans (below_size (by repeat (first | (with_reducible first | exact HB.out | apply below_alloc | apply pw_below_drewN | apply below_drew1 | refine below_set ?_ GE111.out | refine below_set ?_ GE139.out) | exact HB.out))) hk), Kd.freshB (g := gb111) (o := .cells #[.int .i64 a1_0, .int .i64 a1_1] 26 (0, 0)) (by (with_reducible repeat (first | refine blk_drewN ?_ _ | refine blk_drew ?_ | refine blk_alloc ?_ _)); exact BK111.out) k_ hk, Kd.freshB (g := gb139) (o := .cells #[.slice A76 y134.length y134.length, .int .i64 (rd l0 (ji71))] 40 (0, 0)) (by (with_reducible repeat (first | refine blk_drewN ?_ _ | refine blk_drew ?_ | refine blk_alloc ?_ _)); exact BK139.out) k_ hk⟩)); (case aO => exact (by (with_reducible repeat (first | apply Kd.N_alloc | apply Kd.N_drewN | apply Kd.N_drew)); exact HO_4.out)); (case aS => exact (below_size (by repeat (first | (with_reducible first | exact HB.out | apply below_alloc | apply pw_below_drewN | apply below_drew1 | refine below_set ?_ GE111.out | refine below_set ?_ GE139.out) | exact HB.out)))); (case aL => have := LMc74.out; omega); intro v142 w85 ho hb hg hat; rw [← Ny141.out] at ho; have n0_ := Aside0.mk (Kd.R_over' (by (with_reducible repeat (first | apply Kd.R_alloc | apply Kd.R_drewN | apply Kd.R_drew)); exact HO_8.out) (Kd.N_typed (by (with_reducible repeat (first | apply Kd.N_alloc | apply Kd.N_drewN | apply Kd.N_drew)); exact HO_4.out)) (by decide) hg); have n1_ := Aside0.mk (blk_grown (g := gb111) (o := .cells #[.int .i64 a1_0, .int .i64 a1_1] 26 (0, 0)) (by (with_reducible repeat (first | refine blk_drewN ?_ _ | refine blk_drew ?_ | refine blk_alloc ?_ _)); exact BK111.out) hg (Kd.N_ne HO_4.out BK111.out (by decide))); have n2_ := Aside0.mk (Kd.V_afterv (ok := (fun k_ => (w.heap.size ≤ k_) ∧ k_ ≠ gb111 ∧ k_ ≠ gb139)) (by (with_reducible repeat (first | apply Kd.V_alloc | apply Kd.V_drewN | apply Kd.V_drew)); exact Kd.V_mono HO138.out (fun _ hk => ⟨⟨hk.1, ⟨hk.2.2.1, hk.2.2.2⟩⟩, hk.2.1⟩)) hg hat); have n3_ := Aside0.mk (blk_grown (g := gb139) (o := .cells #[.slice A76 y134.length y134.length, .int .i64 (rd l0 (ji71))] 40 (0, 0)) (by (with_reducible repeat (first | refine blk_drewN ?_ _ | refine blk_drew ?_ | refine blk_alloc ?_ _)); exact BK139.out) hg (Kd.N_away HO_4.out (fun _ hk => hk.2.2))); have n4_ := Aside0.mk (hb); have n5_ := Aside0.mk (ho); clear HO_8; clear BK111; clear HO138; clear BK139; clear HB; clear HO_4; have HO_8 := n0_; have BK111 := n1_; have HO138 := n2_; have BK139 := n3_; have HB := n4_; have HO143 := n5_; clear n0_ n1_ n2_ n3_ n4_ n5_; clear ho hb hg hat))
                                                    repeat (go_quiet (fail); try go_wp2)
                                                    go_roundg k4
                                                    case measure => have := HK1.out; have := HK2.out; have := HK3.out; have := HK4.out; omega
                                                    case rel => exact ⟨(y141), (x10_4), (by first | rfl | (simp; done) | (simp [*]; done)), H', ⟨by have := HK1.out; have := HK2.out; have := HK3.out; have := HK4.out; omega⟩, ⟨by (try simp only [hl8_2]); (with_reducible repeat (first | apply Kd.N_alloc | apply Kd.N_drewN | apply Kd.N_drew)); exact Kd.N_mono HO143.out (fun _ hk => ⟨hk.1, hk.2.1⟩)⟩, ⟨by (try simp only [hl8_2]); (with_reducible repeat (first | apply Kd.R_alloc | apply Kd.R_drewN | apply Kd.R_drew)); exact HO_8.out⟩, ⟨by (try simp only [hl8_2]); (with_reducible repeat (first | refine blk_drewN ?_ _ | refine blk_drew ?_ | refine blk_alloc ?_ _)); exact BK111.out⟩, ⟨by repeat (first | (with_reducible first | exact HB.out | apply below_alloc | apply pw_below_drewN | apply below_drew1 | refine below_set ?_ GE111.out | refine below_set ?_ GE139.out) | exact HB.out)⟩⟩
                                                  · rw [if_neg c74] at H
                                                    exact absurd H (by simp)
                                                · rw [if_neg c73] at H
                                                  exact absurd H (by simp)
                                              · rw [if_neg c72] at H
                                                exact absurd H (by simp)
                                            · rw [if_neg c70] at H
                                              have c70b0 : ((y134.length : Int) == a1_0) = false := beq_eq_false_iff_ne.mpr c70
                                              have c70b1 : ((y134.length : Int) != a1_0) = true := bne_iff_ne.mpr c70
                                              by_cases c86 : x4_3.length < 4398046511104
                                              · rw [if_pos c86] at H
                                                have LMc86 := Aside0.mk c86
                                                clear c86
                                                obtain ⟨y144, hy144⟩ : ∃ y_ : List (S40), y_ = (x4_3 ++ [(⟨y134, (wrap64 ((rd l0 x10_3) + a1_1))⟩ : S40)]) := ⟨_, rfl⟩
                                                replace H : (batch_Form.l2 k4 l0 y144 x8_2 x10_4 a1_0 a1_1) = some (r1, r2) := by first | (rw [hy144]; with_reducible exact H) | (have H2_ := (Option.bind_some _ _).symm.trans H; rw [hy144]; with_reducible exact H2_) | (have H2_ := (Option.bind_some _ _).symm.trans H; with_reducible exact H2_) | with_reducible exact H | (rw [hy144]; exact H) | exact H
                                                have Ny144 := Aside0.mk hy144
                                                clear hy144
                                                have H' := Aside0.mk H
                                                clear H
                                                have hcz87_0 : wr.cell? ⟨gb111, 0, none⟩ = some (.int .i64 a1_0) := (blk_cell BK111.out 0).trans rfl
                                                have hcz87_1 : wr.cell? ⟨gb111, 1, none⟩ = some (.int .i64 a1_1) := (blk_cell BK111.out 1).trans rfl
                                                have hfz87_0 := blk_frozen BK111.out 0
                                                have hfz87_1 := blk_frozen BK111.out 1
                                                have q88 : (x10_4 : Int) ≤ ((x8_2.length : Int) : Int) := of_decide_eq_true (by first | (with_reducible assumption) | assumption)
                                                obtain ⟨i088, hi088, _, hsz88, _⟩ := info_parts info3
                                                have hroom88 : x8_2.length ≤ co23 := (Kd.R_reads' HO_8.out).2.1
                                                have hC88 : Kd.F (Kd.int .i64) _ _ Ao23 x8_2.length x8_2 := (Kd.V_at (base := w.heap.size) (Kd.R_V (Kd.R_types (Kd.R_apart' (HO_8.out) (Kd.N_typed HO_4.out) (by decide)) BK111.out (by decide)))).2.2
                                                have ql88 : (x10_3 : Int) ≤ (x10_4 : Int) := of_decide_eq_true (by first | (with_reducible assumption) | assumption)
                                                have q088 : (0 : Int) ≤ (x10_3 : Int) := of_decide_eq_true (by first | (with_reducible assumption) | assumption)
                                                have hcut88 := CutThree.cut_mid3 (P := Try.prog) 22 3 .i64 .i64 .i64 Try.underlying22 hi088 1 hsz88 Ao23 x8_2.length co23 x10_3 x10_4 q088 ql88 q88 hroom88
                                                have hr88 := CutThree.F_mid3 (lo := (x10_3 : Int).toNat) (hi := (x10_4 : Int).toNat) hC88 (by omega) (by omega)
                                                obtain ⟨A88, hA88⟩ : ∃ A1, A1 = (if (x10_4 : Int).toNat = (x10_3 : Int).toNat then Ao23 else (Ao23 : Option Addr).map (·.add ((x10_3 : Int).toNat * 1))) := ⟨_, rfl⟩
                                                have hy88 : y134.length = (x10_4 : Int).toNat - (x10_3 : Int).toNat := (by rw [Ny134.out, List.length_drop, List.length_take] <;> omega)
                                                rw [show ((x8_2).take (x10_4 : Int).toNat).drop (x10_3 : Int).toNat = y134 from Ny134.out.symm] at hr88
                                                replace hr88 : Kd.F (Kd.int .i64) _ _ A88 y134.length y134 := (by rw [hA88]; exact hr88)
                                                rw [← hy88, ← hA88] at hcut88
                                                have HO138 := Aside0.mk (show Kd.V (Kd.int .i64) 3 _ w.heap.size _ (.slice A88 y134.length y134.length) y134 from Kd.V_mk (Nat.le_refl _) hr88)
                                                have HC138 := Aside0.mk (show y134.length ≤ y134.length from Nat.le_refl _)
                                                clear hr88 hC88 hroom88 hi088 hsz88
                                                have KY88 := Aside0.mk hy88
                                                have KA88 := Aside0.mk hA88
                                                clear hy88 hA88
                                                replace q88 := eq_true q88
                                                go_wp2_with (first | ((with_reducible refine gate_dst (N := 13) rfl ?_); refine box_event ?hg (N := 13) ?hd (cs := #[.slice none 0 0, .int .i64 0]) (t := 40) ?hr ?_; (case hd => rfl); (case hg => rfl); (case hr => first | (go_simp; done) | (go_simp; rfl)); intro gb139 hg w89 hbox hb; have n0_ := Aside0.mk (Kd.N_below (Kd.N_elderB (by (with_reducible repeat (first | apply Kd.N_alloc | apply Kd.N_drewN | apply Kd.N_drew)); exact HO_4.out) gb139 (Nat.le_of_eq hg.symm)) hb); have n1_ := Aside0.mk (Kd.R_below (by (with_reducible repeat (first | apply Kd.R_alloc | apply Kd.R_drewN | apply Kd.R_drew)); exact HO_8.out) hb); have n2_ := Aside0.mk (Kd.V_below (Kd.V_elderB (by (with_reducible repeat (first | apply Kd.V_alloc | apply Kd.V_drewN | apply Kd.V_drew)); exact HO138.out) gb139 (Nat.le_of_eq hg.symm)) hb); have n3_ := Aside0.mk (blk_below (g := gb111) (o := .cells #[.int .i64 a1_0, .int .i64 a1_1] 26 (0, 0)) (by (with_reducible repeat (first | refine blk_drewN ?_ _ | refine blk_drew ?_ | refine blk_alloc ?_ _)); exact BK111.out) hb); have n4_ := Aside0.mk (below_step (by repeat (first | (with_reducible first | exact HB.out | apply below_alloc | apply pw_below_drewN | apply below_drew1 | refine below_set ?_ GE111.out) | exact HB.out)) hb); have n5_ := Aside0.mk (hbox); have n6_ := Aside0.mk ((by rw [hg]; exact (below_size (by repeat (first | (with_reducible first | exact HB.out | apply below_alloc | apply pw_below_drewN | apply below_drew1 | refine below_set ?_ GE111.out) | exact HB.out))) : w.heap.size ≤ gb139)); have n7_ := Aside0.mk ((by rw [hg]; exact (below_size (by repeat (first | (with_reducible first | exact HB.out | apply below_alloc | apply pw_below_drewN | apply below_drew1 | refine below_set ?_ GE111.out) | exact HB.out))) : w.heap.size ≤ gb139)); have n8_ := Aside0.mk ((by rw [hg]; exact Nat.ne_of_lt (blk_lt (g := gb111) (o := .cells #[.int .i64 a1_0, .int .i64 a1_1] 26 (0, 0)) (by (with_reducible repeat (first | refine blk_drewN ?_ _ | refine blk_drew ?_ | refine blk_alloc ?_ _)); exact BK111.out)) : gb111 ≠ gb139)); have n9_ := Aside0.mk ((by rw [hg]; exact Nat.ne_of_gt (blk_lt (g := gb111) (o := .cells #[.int .i64 a1_0, .int .i64 a1_1] 26 (0, 0)) (by (with_reducible repeat (first | refine blk_drewN ?_ _ | refine blk_drew ?_ | refine blk_alloc ?_ _)); exact BK111.out)) : gb139 ≠ gb111)); clear HO_4; clear HO_8; clear HO138; clear BK111; clear HB; have HO_4 := n0_; have HO_8 := n1_; have HO138 := n2_; have BK111 := n3_; have HB := n4_; have BK139 := n5_; have GW139 := n6_; have GE139 := n7_; have NB111_139 := n8_; have NB139_111 := n9_; clear n0_ n1_ n2_ n3_ n4_ n5_ n6_ n7_ n8_ n9_; clear hb hbox hg; have hnb90 := NB139_111.out; have hnc90 := NB111_139.out; have hcz91_0 : w89.cell? ⟨gb139, 0, none⟩ = some (.slice none 0 0) := (blk_cell BK139.out 0).trans rfl; have hcz91_1 : w89.cell? ⟨gb139, 1, none⟩ = some (.int .i64 0) := (blk_cell BK139.out 1).trans rfl; have hfz91_0 := blk_frozen BK139.out 0; have hfz91_1 := blk_frozen BK139.out 1) | ((with_reducible refine gate_store (t := 40) (p := 13) rfl ?_); (try (rw [drewN_self w89]; generalize hq_ : World.drewN w89 _ = w89; have n0_ := Aside0.mk (Kd.N_at hq_ HO_4.out); have n1_ := Aside0.mk (Kd.R_at hq_ HO_8.out); have n2_ := Aside0.mk (Kd.V_at hq_ HO138.out); have n3_ := Aside0.mk (blk_at hq_ BK111.out); have n4_ := Aside0.mk (blk_at hq_ BK139.out); have n5_ := Aside0.mk (below_at hq_ HB.out); clear hq_ HO_4 HO_8 HO138 BK111 BK139 HB; have HO_4 := n0_; have HO_8 := n1_; have HO138 := n2_; have BK111 := n3_; have BK139 := n4_; have HB := n5_; clear n0_ n1_ n2_ n3_ n4_ n5_)); refine store_event (t := 40) (p := 13) (v := ?vo_w92) (w1 := ((w89.setCell ⟨gb139, 0, none⟩ (.slice A88 y134.length y134.length)).setCell ⟨gb139, 1, none⟩ (.int .i64 (wrap64 ((rd l0 x10_3) + a1_1))))) ?hg ?ho ?hn ?hr ?_; (case ho => rfl); (case hg => rfl); (case hn => rfl); (case hr => first | (go_simp; done) | (go_simp; rfl)); intro w92 hw; have n0_ : Aside0 (Kd.N k40 40 w92 w.heap.size (fun k_ => (w.heap.size ≤ k_) ∧ k_ ≠ gb111 ∧ k_ ≠ gb139) u4 x4_3) := ⟨(by rw [hw]; exact (by (with_reducible repeat (first | apply Kd.N_alloc | apply Kd.N_drewN | apply Kd.N_drew)); exact Kd.N_mono (Kd.N_far (p := ⟨gb139, 1, none⟩) (Kd.N_far (p := ⟨gb139, 0, none⟩) (Kd.N_mono HO_4.out (fun k_ hk => (⟨hk, hk.2⟩ : _ ∧ k_ ≠ gb139))) (fun _ hk => hk.2) (.slice A88 y134.length y134.length)) (fun _ hk => hk.2) (.int .i64 (wrap64 ((rd l0 x10_3) + a1_1)))) (fun _ hk => ⟨hk.1.1.1, ⟨hk.1.1.2, hk.1.2⟩⟩)))⟩; have n1_ : Aside0 (Kd.R (Kd.int .i64) 3 w92 w.heap.size (fun k_ => (w.heap.size ≤ k_)) (.slice Ao23 x8_2.length co23) x8_2) := ⟨(by rw [hw]; exact (by (with_reducible repeat (first | apply Kd.R_alloc | apply Kd.R_drewN | apply Kd.R_drew)); exact Kd.R_mono (Kd.R_far (p := ⟨gb139, 1, none⟩) (Kd.R_far (p := ⟨gb139, 0, none⟩) (Kd.R_types HO_8.out BK139.out (by decide)) (fun _ hk => hk.2) (.slice A88 y134.length y134.length)) (fun _ hk => hk.2) (.int .i64 (wrap64 ((rd l0 x10_3) + a1_1)))) (fun _ hk => hk.1)))⟩; have n2_ : Aside0 (Kd.V (Kd.int .i64) 3 w92 w.heap.size (fun k_ => (w.heap.size ≤ k_) ∧ some k_ ≠ (u4 : Value).ownBlock ∧ k_ ≠ gb111 ∧ k_ ≠ gb139) (.slice A88 y134.length y134.length) y134) := ⟨(by rw [hw]; exact (by (with_reducible repeat (first | apply Kd.V_alloc | apply Kd.V_drewN | apply Kd.V_drew)); exact Kd.V_mono (Kd.V_far (p := ⟨gb139, 1, none⟩) (Kd.V_far (p := ⟨gb139, 0, none⟩) (Kd.V_mono HO138.out (fun k_ hk => (⟨hk, hk.2⟩ : _ ∧ k_ ≠ gb139))) (fun _ hk => hk.2) (.slice A88 y134.length y134.length)) (fun _ hk => hk.2) (.int .i64 (wrap64 ((rd l0 x10_3) + a1_1)))) (fun _ hk => ⟨hk.1.1.1.1, ⟨hk.1.1.1.2, ⟨hk.1.1.2, hk.1.2⟩⟩⟩)))⟩; have n3_ : Aside0 (w92.heap[gb111]? = some (.cells #[.int .i64 a1_0, .int .i64 a1_1] 26 (0, 0))) := ⟨(by rw [hw]; exact (by (with_reducible repeat (first | refine blk_drewN ?_ _ | refine blk_drew ?_ | refine blk_alloc ?_ _)); refine blk_far ?_ NB111_139.out _; (with_reducible repeat (first | refine blk_drewN ?_ _ | refine blk_drew ?_ | refine blk_alloc ?_ _)); refine blk_far ?_ NB111_139.out _; (with_reducible repeat (first | refine blk_drewN ?_ _ | refine blk_drew ?_ | refine blk_alloc ?_ _)); exact BK111.out))⟩; have n4_ : Aside0 (w92.heap[gb139]? = some (.cells #[.slice A88 y134.length y134.length, .int .i64 (wrap64 ((rd l0 x10_3) + a1_1))] 40 (0, 0))) := ⟨(by rw [hw]; exact (by (with_reducible repeat (first | refine blk_drewN ?_ _ | refine blk_drew ?_ | refine blk_alloc ?_ _)); refine blk_put (cs := #[.slice A88 y134.length y134.length, .int .i64 0]) ?_ 1 _ rfl; (with_reducible repeat (first | refine blk_drewN ?_ _ | refine blk_drew ?_ | refine blk_alloc ?_ _)); refine blk_put (cs := #[.slice none 0 0, .int .i64 0]) ?_ 0 _ rfl; (with_reducible repeat (first | refine blk_drewN ?_ _ | refine blk_drew ?_ | refine blk_alloc ?_ _)); exact BK139.out))⟩; have n5_ : Aside0 (Below w.heap.size w w92) := ⟨(by rw [hw]; exact (by repeat (first | (with_reducible first | exact HB.out | apply below_alloc | apply pw_below_drewN | apply below_drew1 | refine below_set ?_ GE111.out | refine below_set ?_ GE139.out) | exact HB.out)))⟩; clear hw; clear HO_4; clear HO_8; clear HO138; clear BK111; clear BK139; clear HB; have HO_4 := n0_; have HO_8 := n1_; have HO138 := n2_; have BK111 := n3_; have BK139 := n4_; have HB := n5_; clear n0_ n1_ n2_ n3_ n4_ n5_; have hcz93_0 : w92.cell? ⟨gb139, 0, none⟩ = some (.slice A88 y134.length y134.length) := (blk_cell BK139.out 0).trans rfl; have hcz93_1 : w92.cell? ⟨gb139, 1, none⟩ = some (.int .i64 (wrap64 ((rd l0 x10_3) + a1_1))) := (blk_cell BK139.out 1).trans rfl; have hfz93_0 := blk_frozen BK139.out 0; have hfz93_1 := blk_frozen BK139.out 1; have hcz94_0 : w92.cell? ⟨gb111, 0, none⟩ = some (.int .i64 a1_0) := (blk_cell BK111.out 0).trans rfl; have hcz94_1 : w92.cell? ⟨gb111, 1, none⟩ = some (.int .i64 a1_1) := (blk_cell BK111.out 1).trans rfl; have hfz94_0 := blk_frozen BK111.out 0; have hfz94_1 := blk_frozen BK111.out 1) | ((with_reducible refine gate_builtin (b := .append) (xs := #[.tmp 113, .tmp 115]) rfl ?_); at_builtin; refine Kd.N_append k40 (w0 := w) w.heap.size rfl (.tmp 113) (.tmp 115) 27 40 (.agg #[(.slice none 0 0), (.int .i64 0)]) 32 rfl Try.underlying27 info40 rfl (by decide) (by omega) u4 x4_3 (⟨y134, (wrap64 ((rd l0 x10_3) + a1_1))⟩ : S40) [.slice A88 y134.length y134.length, .int .i64 (wrap64 ((rd l0 x10_3) + a1_1))] (fun k_ => (w.heap.size ≤ k_) ∧ k_ ≠ gb111 ∧ k_ ≠ gb139) (fun k_ => ((fun k_ => (w.heap.size ≤ k_) ∧ k_ ≠ gb111 ∧ k_ ≠ gb139)) k_ ∧ some k_ ≠ (u4 : Value).ownBlock) rfl rfl ?aP (fun _ hk => hk) ?aF ?aO ?aB ?aS ?aL ?_; (case aP => exact (k40_mkF _ _ (⟨y134, (wrap64 ((rd l0 x10_3) + a1_1))⟩ : S40) (Kd.V_reads' (Kd.V_mono (ok' := (fun k_ => ((fun k_ => (w.heap.size ≤ k_) ∧ k_ ≠ gb111 ∧ k_ ≠ gb139)) k_ ∧ some k_ ≠ (u4 : Value).ownBlock)) (HO138.out) (fun k_ hk => ⟨⟨hk.1, ⟨hk.2.2.1, hk.2.2.2⟩⟩, hk.2.1⟩))).2.1 (Kd.V_F (Kd.V_mono (ok' := (fun k_ => ((fun k_ => (w.heap.size ≤ k_) ∧ k_ ≠ gb111 ∧ k_ ≠ gb139)) k_ ∧ some k_ ≠ (u4 : Value).ownBlock)) (HO138.out) (fun k_ hk => ⟨⟨hk.1, ⟨hk.2.2.1, hk.2.2.2⟩⟩, hk.2.1⟩))))); (case aB => exact (by repeat (first | (with_reducible first | exact HB.out | apply below_alloc | apply pw_below_drewN | apply below_drew1 | refine below_set ?_ GE111.out | refine below_set ?_ GE139.out) | exact HB.out))); (case aF => exact (fun k_ hk => ⟨(Nat.le_trans (below_size (by repeat (first | (with_reducible first | exact HB.out | apply below_alloc | apply pw_below_drewN | apply below_drew1 | refine below_set ?_ GE111.out | refine below_set ?_ GE139.out) | exact HB.out))) hk), Kd.freshB (g := gb111) (o := .cells #[.int .i64 a1_0, .int .i64 a1_1] 26 (0, 0)) (by (with_reducible repeat (first | refine blk_drewN ?_ _ | refine blk_drew ?_ | refine blk_alloc ?_ _)); exact BK111.out) k_ hk, Kd.freshB (g := gb139) (o := .cells #[.slice A88 y134.length y134.length, .int .i64 (wrap64 ((rd l0 x10_3) + a1_1))] 40 (0, 0)) (by (with_reducible repeat (first | refine blk_drewN ?_ _ | refine blk_drew ?_ | refine blk_alloc ?_ _)); exact BK139.out) k_ hk⟩)); (case aO => exact (by (with_reducible repeat (first | apply Kd.N_alloc | apply Kd.N_drewN | apply Kd.N_drew)); exact HO_4.out)); (case aS => exact (below_size (by repeat (first | (with_reducible first | exact HB.out | apply below_alloc | apply pw_below_drewN | apply below_drew1 | refine below_set ?_ GE111.out | refine below_set ?_ GE139.out) | exact HB.out)))); (case aL => have := LMc86.out; omega); intro v145 w95 ho hb hg hat; rw [← Ny144.out] at ho; have n0_ := Aside0.mk (Kd.R_over' (by (with_reducible repeat (first | apply Kd.R_alloc | apply Kd.R_drewN | apply Kd.R_drew)); exact HO_8.out) (Kd.N_typed (by (with_reducible repeat (first | apply Kd.N_alloc | apply Kd.N_drewN | apply Kd.N_drew)); exact HO_4.out)) (by decide) hg); have n1_ := Aside0.mk (blk_grown (g := gb111) (o := .cells #[.int .i64 a1_0, .int .i64 a1_1] 26 (0, 0)) (by (with_reducible repeat (first | refine blk_drewN ?_ _ | refine blk_drew ?_ | refine blk_alloc ?_ _)); exact BK111.out) hg (Kd.N_ne HO_4.out BK111.out (by decide))); have n2_ := Aside0.mk (Kd.V_afterv (ok := (fun k_ => (w.heap.size ≤ k_) ∧ k_ ≠ gb111 ∧ k_ ≠ gb139)) (by (with_reducible repeat (first | apply Kd.V_alloc | apply Kd.V_drewN | apply Kd.V_drew)); exact Kd.V_mono HO138.out (fun _ hk => ⟨⟨hk.1, ⟨hk.2.2.1, hk.2.2.2⟩⟩, hk.2.1⟩)) hg hat); have n3_ := Aside0.mk (blk_grown (g := gb139) (o := .cells #[.slice A88 y134.length y134.length, .int .i64 (wrap64 ((rd l0 x10_3) + a1_1))] 40 (0, 0)) (by (with_reducible repeat (first | refine blk_drewN ?_ _ | refine blk_drew ?_ | refine blk_alloc ?_ _)); exact BK139.out) hg (Kd.N_away HO_4.out (fun _ hk => hk.2.2))); have n4_ := Aside0.mk (hb); have n5_ := Aside0.mk (ho); clear HO_8; clear BK111; clear HO138; clear BK139; clear HB; clear HO_4; have HO_8 := n0_; have BK111 := n1_; have HO138 := n2_; have BK139 := n3_; have HB := n4_; have HO146 := n5_; clear n0_ n1_ n2_ n3_ n4_ n5_; clear ho hb hg hat))
                                                repeat (go_quiet (fail); try go_wp2)
                                                go_roundg k4
                                                case measure => have := HK1.out; have := HK2.out; have := HK3.out; have := HK4.out; omega
                                                case rel => exact ⟨(y144), (x10_4), (by first | rfl | (simp; done) | (simp [*]; done)), H', ⟨by have := HK1.out; have := HK2.out; have := HK3.out; have := HK4.out; omega⟩, ⟨by (try simp only [hl8_2]); (with_reducible repeat (first | apply Kd.N_alloc | apply Kd.N_drewN | apply Kd.N_drew)); exact Kd.N_mono HO146.out (fun _ hk => ⟨hk.1, hk.2.1⟩)⟩, ⟨by (try simp only [hl8_2]); (with_reducible repeat (first | apply Kd.R_alloc | apply Kd.R_drewN | apply Kd.R_drew)); exact HO_8.out⟩, ⟨by (try simp only [hl8_2]); (with_reducible repeat (first | refine blk_drewN ?_ _ | refine blk_drew ?_ | refine blk_alloc ?_ _)); exact BK111.out⟩, ⟨by repeat (first | (with_reducible first | exact HB.out | apply below_alloc | apply pw_below_drewN | apply below_drew1 | refine below_set ?_ GE111.out | refine below_set ?_ GE139.out) | exact HB.out)⟩⟩
                                              · rw [if_neg c86] at H
                                                exact absurd H (by simp)
                                          · rw [if_neg c69] at H
                                            exact absurd H (by simp)
                                        · rw [if_neg c68] at H
                                          exact absurd H (by simp)
                                      · rw [if_neg c67] at H
                                        exact absurd H (by simp)
                                  · rw [if_neg c33] at H
                                    have c33b0 : decide (x10_4 < (l0.length : Int)) = false := decide_eq_false c33
                                    clear c33
                                    by_cases c96 : 0 ≤ x10_3
                                    · rw [if_pos c96] at H
                                      have c96b0 := eq_true c96
                                      have c96b1 : decide (0 ≤ x10_3) = true := decide_eq_true c96
                                      clear c96
                                      by_cases c97 : x10_3 ≤ x10_4
                                      · rw [if_pos c97] at H
                                        have c97b0 := eq_true c97
                                        have c97b1 : decide (x10_3 ≤ x10_4) = true := decide_eq_true c97
                                        clear c97
                                        by_cases c98 : x10_4 ≤ (x8_2.length : Int)
                                        · rw [if_pos c98] at H
                                          have c98b0 := eq_true c98
                                          have c98b1 : decide (x10_4 ≤ (x8_2.length : Int)) = true := decide_eq_true c98
                                          clear c98
                                          obtain ⟨y147, hy147⟩ : ∃ y_ : List Int, y_ = ((x8_2.take (x10_4 : Int).toNat).drop (x10_3 : Int).toNat) := ⟨_, rfl⟩
                                          replace H : (if (y147.length : Int) = a1_0 then (if 0 ≤ (wrap64 (x10_4 - 1)) then (if (wrap64 (x10_4 - 1)) < (l0.length : Int) then (if x4_3.length < 4398046511104 then (batch_Form.l2 k4 l0 (x4_3 ++ [(⟨y147, rd l0 (wrap64 (x10_4 - 1))⟩ : S40)]) x8_2 x10_4 a1_0 a1_1) else (none)) else (none)) else (none)) else (if x4_3.length < 4398046511104 then (batch_Form.l2 k4 l0 (x4_3 ++ [(⟨y147, (wrap64 ((rd l0 x10_3) + a1_1))⟩ : S40)]) x8_2 x10_4 a1_0 a1_1) else (none))) = some (r1, r2) := by first | (rw [hy147]; with_reducible exact H) | (have H2_ := (Option.bind_some _ _).symm.trans H; rw [hy147]; with_reducible exact H2_) | (have H2_ := (Option.bind_some _ _).symm.trans H; with_reducible exact H2_) | with_reducible exact H | (rw [hy147]; exact H) | exact H
                                          have Ny147 := Aside0.mk hy147
                                          clear hy147
                                          by_cases c99 : (y147.length : Int) = a1_0
                                          · rw [if_pos c99] at H
                                            have c99b0 : ((y147.length : Int) == a1_0) = true := beq_iff_eq.mpr c99
                                            have c99b1 : ((y147.length : Int) != a1_0) = false := bne_eq_false_iff_eq.mpr c99
                                            clear c99
                                            obtain ⟨ji100, hji100⟩ : ∃ j_ : Int, (wrap64 (x10_4 - 1)) = j_ := ⟨_, rfl⟩
                                            replace H : (if 0 ≤ (ji100) then (if (ji100) < (l0.length : Int) then (if x4_3.length < 4398046511104 then (batch_Form.l2 k4 l0 (x4_3 ++ [(⟨y147, rd l0 (ji100)⟩ : S40)]) x8_2 x10_4 a1_0 a1_1) else (none)) else (none)) else (none)) = some (r1, r2) := by first | (rw [hji100] at H; exact H) | (simp only [hji100] at H ⊢; exact H)
                                            have hji100w : (IntKind.i64.wrap (x10_4 - 1)) = ji100 := (i64_w _).trans hji100
                                            by_cases c101 : 0 ≤ (ji100)
                                            · rw [if_pos c101] at H
                                              have c101b0 : decide (0 ≤ (ji100)) = true := decide_eq_true c101
                                              clear c101
                                              by_cases c102 : (ji100) < (l0.length : Int)
                                              · rw [if_pos c102] at H
                                                have c102b0 : decide ((ji100) < (l0.length : Int)) = true := decide_eq_true c102
                                                clear c102
                                                by_cases c103 : x4_3.length < 4398046511104
                                                · rw [if_pos c103] at H
                                                  have LMc103 := Aside0.mk c103
                                                  clear c103
                                                  obtain ⟨y154, hy154⟩ : ∃ y_ : List (S40), y_ = (x4_3 ++ [(⟨y147, rd l0 (ji100)⟩ : S40)]) := ⟨_, rfl⟩
                                                  replace H : (batch_Form.l2 k4 l0 y154 x8_2 x10_4 a1_0 a1_1) = some (r1, r2) := by first | (rw [hy154]; with_reducible exact H) | (have H2_ := (Option.bind_some _ _).symm.trans H; rw [hy154]; with_reducible exact H2_) | (have H2_ := (Option.bind_some _ _).symm.trans H; with_reducible exact H2_) | with_reducible exact H | (rw [hy154]; exact H) | exact H
                                                  have Ny154 := Aside0.mk hy154
                                                  clear hy154
                                                  have H' := Aside0.mk H
                                                  clear H
                                                  have q104 : (x10_4 : Int) ≤ ((x8_2.length : Int) : Int) := of_decide_eq_true (by first | (with_reducible assumption) | assumption)
                                                  obtain ⟨i0104, hi0104, _, hsz104, _⟩ := info_parts info3
                                                  have hroom104 : x8_2.length ≤ co23 := (Kd.R_reads' HO_8.out).2.1
                                                  have hC104 : Kd.F (Kd.int .i64) _ _ Ao23 x8_2.length x8_2 := (Kd.V_at (base := w.heap.size) (Kd.R_V (Kd.R_types (Kd.R_apart' (HO_8.out) (Kd.N_typed HO_4.out) (by decide)) BK111.out (by decide)))).2.2
                                                  have ql104 : (x10_3 : Int) ≤ (x10_4 : Int) := of_decide_eq_true (by first | (with_reducible assumption) | assumption)
                                                  have q0104 : (0 : Int) ≤ (x10_3 : Int) := of_decide_eq_true (by first | (with_reducible assumption) | assumption)
                                                  have hcut104 := CutThree.cut_mid3 (P := Try.prog) 22 3 .i64 .i64 .i64 Try.underlying22 hi0104 1 hsz104 Ao23 x8_2.length co23 x10_3 x10_4 q0104 ql104 q104 hroom104
                                                  have hr104 := CutThree.F_mid3 (lo := (x10_3 : Int).toNat) (hi := (x10_4 : Int).toNat) hC104 (by omega) (by omega)
                                                  obtain ⟨A104, hA104⟩ : ∃ A1, A1 = (if (x10_4 : Int).toNat = (x10_3 : Int).toNat then Ao23 else (Ao23 : Option Addr).map (·.add ((x10_3 : Int).toNat * 1))) := ⟨_, rfl⟩
                                                  have hy104 : y147.length = (x10_4 : Int).toNat - (x10_3 : Int).toNat := (by rw [Ny147.out, List.length_drop, List.length_take] <;> omega)
                                                  rw [show ((x8_2).take (x10_4 : Int).toNat).drop (x10_3 : Int).toNat = y147 from Ny147.out.symm] at hr104
                                                  replace hr104 : Kd.F (Kd.int .i64) _ _ A104 y147.length y147 := (by rw [hA104]; exact hr104)
                                                  rw [← hy104, ← hA104] at hcut104
                                                  have HO151 := Aside0.mk (show Kd.V (Kd.int .i64) 3 _ w.heap.size _ (.slice A104 y147.length y147.length) y147 from Kd.V_mk (Nat.le_refl _) hr104)
                                                  have HC151 := Aside0.mk (show y147.length ≤ y147.length from Nat.le_refl _)
                                                  clear hr104 hC104 hroom104 hi0104 hsz104
                                                  have KY104 := Aside0.mk hy104
                                                  have KA104 := Aside0.mk hA104
                                                  clear hy104 hA104
                                                  replace q104 := eq_true q104
                                                  go_wp2_with (first | ((with_reducible refine gate_dst (N := 13) rfl ?_); refine box_event ?hg (N := 13) ?hd (cs := #[.slice none 0 0, .int .i64 0]) (t := 40) ?hr ?_; (case hd => rfl); (case hg => rfl); (case hr => first | (go_simp; done) | (go_simp; rfl)); intro gb152 hg w105 hbox hb; have n0_ := Aside0.mk (Kd.N_below (Kd.N_elderB (by (with_reducible repeat (first | apply Kd.N_alloc | apply Kd.N_drewN | apply Kd.N_drew)); exact HO_4.out) gb152 (Nat.le_of_eq hg.symm)) hb); have n1_ := Aside0.mk (Kd.R_below (by (with_reducible repeat (first | apply Kd.R_alloc | apply Kd.R_drewN | apply Kd.R_drew)); exact HO_8.out) hb); have n2_ := Aside0.mk (Kd.V_below (Kd.V_elderB (by (with_reducible repeat (first | apply Kd.V_alloc | apply Kd.V_drewN | apply Kd.V_drew)); exact HO151.out) gb152 (Nat.le_of_eq hg.symm)) hb); have n3_ := Aside0.mk (blk_below (g := gb111) (o := .cells #[.int .i64 a1_0, .int .i64 a1_1] 26 (0, 0)) (by (with_reducible repeat (first | refine blk_drewN ?_ _ | refine blk_drew ?_ | refine blk_alloc ?_ _)); exact BK111.out) hb); have n4_ := Aside0.mk (below_step (by repeat (first | (with_reducible first | exact HB.out | apply below_alloc | apply pw_below_drewN | apply below_drew1 | refine below_set ?_ GE111.out) | exact HB.out)) hb); have n5_ := Aside0.mk (hbox); have n6_ := Aside0.mk ((by rw [hg]; exact (below_size (by repeat (first | (with_reducible first | exact HB.out | apply below_alloc | apply pw_below_drewN | apply below_drew1 | refine below_set ?_ GE111.out) | exact HB.out))) : w.heap.size ≤ gb152)); have n7_ := Aside0.mk ((by rw [hg]; exact (below_size (by repeat (first | (with_reducible first | exact HB.out | apply below_alloc | apply pw_below_drewN | apply below_drew1 | refine below_set ?_ GE111.out) | exact HB.out))) : w.heap.size ≤ gb152)); have n8_ := Aside0.mk ((by rw [hg]; exact Nat.ne_of_lt (blk_lt (g := gb111) (o := .cells #[.int .i64 a1_0, .int .i64 a1_1] 26 (0, 0)) (by (with_reducible repeat (first | refine blk_drewN ?_ _ | refine blk_drew ?_ | refine blk_alloc ?_ _)); exact BK111.out)) : gb111 ≠ gb152)); have n9_ := Aside0.mk ((by rw [hg]; exact Nat.ne_of_gt (blk_lt (g := gb111) (o := .cells #[.int .i64 a1_0, .int .i64 a1_1] 26 (0, 0)) (by (with_reducible repeat (first | refine blk_drewN ?_ _ | refine blk_drew ?_ | refine blk_alloc ?_ _)); exact BK111.out)) : gb152 ≠ gb111)); clear HO_4; clear HO_8; clear HO151; clear BK111; clear HB; have HO_4 := n0_; have HO_8 := n1_; have HO151 := n2_; have BK111 := n3_; have HB := n4_; have BK152 := n5_; have GW152 := n6_; have GE152 := n7_; have NB111_152 := n8_; have NB152_111 := n9_; clear n0_ n1_ n2_ n3_ n4_ n5_ n6_ n7_ n8_ n9_; clear hb hbox hg; have hnb106 := NB152_111.out; have hnc106 := NB111_152.out; have hcz107_0 : w105.cell? ⟨gb152, 0, none⟩ = some (.slice none 0 0) := (blk_cell BK152.out 0).trans rfl; have hcz107_1 : w105.cell? ⟨gb152, 1, none⟩ = some (.int .i64 0) := (blk_cell BK152.out 1).trans rfl; have hfz107_0 := blk_frozen BK152.out 0; have hfz107_1 := blk_frozen BK152.out 1) | ((with_reducible refine gate_store (t := 40) (p := 13) rfl ?_); (try (rw [drewN_self w105]; generalize hq_ : World.drewN w105 _ = w105; have n0_ := Aside0.mk (Kd.N_at hq_ HO_4.out); have n1_ := Aside0.mk (Kd.R_at hq_ HO_8.out); have n2_ := Aside0.mk (Kd.V_at hq_ HO151.out); have n3_ := Aside0.mk (blk_at hq_ BK111.out); have n4_ := Aside0.mk (blk_at hq_ BK152.out); have n5_ := Aside0.mk (below_at hq_ HB.out); clear hq_ HO_4 HO_8 HO151 BK111 BK152 HB; have HO_4 := n0_; have HO_8 := n1_; have HO151 := n2_; have BK111 := n3_; have BK152 := n4_; have HB := n5_; clear n0_ n1_ n2_ n3_ n4_ n5_)); refine store_event (t := 40) (p := 13) (v := ?vo_w108) (w1 := ((w105.setCell ⟨gb152, 0, none⟩ (.slice A104 y147.length y147.length)).setCell ⟨gb152, 1, none⟩ (.int .i64 (wrap64 ((rd l0 x10_3) + a1_1))))) ?hg ?ho ?hn ?hr ?_; (case ho => rfl); (case hg => rfl); (case hn => rfl); (case hr => first | (go_simp; done) | (go_simp; rfl)); intro w108 hw; have n0_ : Aside0 (Kd.N k40 40 w108 w.heap.size (fun k_ => (w.heap.size ≤ k_) ∧ k_ ≠ gb111 ∧ k_ ≠ gb152) u4 x4_3) := ⟨(by rw [hw]; exact (by (with_reducible repeat (first | apply Kd.N_alloc | apply Kd.N_drewN | apply Kd.N_drew)); exact Kd.N_mono (Kd.N_far (p := ⟨gb152, 1, none⟩) (Kd.N_far (p := ⟨gb152, 0, none⟩) (Kd.N_mono HO_4.out (fun k_ hk => (⟨hk, hk.2⟩ : _ ∧ k_ ≠ gb152))) (fun _ hk => hk.2) (.slice A104 y147.length y147.length)) (fun _ hk => hk.2) (.int .i64 (wrap64 ((rd l0 x10_3) + a1_1)))) (fun _ hk => ⟨hk.1.1.1, ⟨hk.1.1.2, hk.1.2⟩⟩)))⟩; have n1_ : Aside0 (Kd.R (Kd.int .i64) 3 w108 w.heap.size (fun k_ => (w.heap.size ≤ k_)) (.slice Ao23 x8_2.length co23) x8_2) := ⟨(by rw [hw]; exact (by (with_reducible repeat (first | apply Kd.R_alloc | apply Kd.R_drewN | apply Kd.R_drew)); exact Kd.R_mono (Kd.R_far (p := ⟨gb152, 1, none⟩) (Kd.R_far (p := ⟨gb152, 0, none⟩) (Kd.R_types HO_8.out BK152.out (by decide)) (fun _ hk => hk.2) (.slice A104 y147.length y147.length)) (fun _ hk => hk.2) (.int .i64 (wrap64 ((rd l0 x10_3) + a1_1)))) (fun _ hk => hk.1)))⟩; have n2_ : Aside0 (Kd.V (Kd.int .i64) 3 w108 w.heap.size (fun k_ => (w.heap.size ≤ k_) ∧ some k_ ≠ (u4 : Value).ownBlock ∧ k_ ≠ gb111 ∧ k_ ≠ gb152) (.slice A104 y147.length y147.length) y147) := ⟨(by rw [hw]; exact (by (with_reducible repeat (first | apply Kd.V_alloc | apply Kd.V_drewN | apply Kd.V_drew)); exact Kd.V_mono (Kd.V_far (p := ⟨gb152, 1, none⟩) (Kd.V_far (p := ⟨gb152, 0, none⟩) (Kd.V_mono HO151.out (fun k_ hk => (⟨hk, hk.2⟩ : _ ∧ k_ ≠ gb152))) (fun _ hk => hk.2) (.slice A104 y147.length y147.length)) (fun _ hk => hk.2) (.int .i64 (wrap64 ((rd l0 x10_3) + a1_1)))) (fun _ hk => ⟨hk.1.1.1.1, ⟨hk.1.1.1.2, ⟨hk.1.1.2, hk.1.2⟩⟩⟩)))⟩; have n3_ : Aside0 (w108.heap[gb111]? = some (.cells #[.int .i64 a1_0, .int .i64 a1_1] 26 (0, 0))) := ⟨(by rw [hw]; exact (by (with_reducible repeat (first | refine blk_drewN ?_ _ | refine blk_drew ?_ | refine blk_alloc ?_ _)); refine blk_far ?_ NB111_152.out _; (with_reducible repeat (first | refine blk_drewN ?_ _ | refine blk_drew ?_ | refine blk_alloc ?_ _)); refine blk_far ?_ NB111_152.out _; (with_reducible repeat (first | refine blk_drewN ?_ _ | refine blk_drew ?_ | refine blk_alloc ?_ _)); exact BK111.out))⟩; have n4_ : Aside0 (w108.heap[gb152]? = some (.cells #[.slice A104 y147.length y147.length, .int .i64 (wrap64 ((rd l0 x10_3) + a1_1))] 40 (0, 0))) := ⟨(by rw [hw]; exact (by (with_reducible repeat (first | refine blk_drewN ?_ _ | refine blk_drew ?_ | refine blk_alloc ?_ _)); refine blk_put (cs := #[.slice A104 y147.length y147.length, .int .i64 0]) ?_ 1 _ rfl; (with_reducible repeat (first | refine blk_drewN ?_ _ | refine blk_drew ?_ | refine blk_alloc ?_ _)); refine blk_put (cs := #[.slice none 0 0, .int .i64 0]) ?_ 0 _ rfl; (with_reducible repeat (first | refine blk_drewN ?_ _ | refine blk_drew ?_ | refine blk_alloc ?_ _)); exact BK152.out))⟩; have n5_ : Aside0 (Below w.heap.size w w108) := ⟨(by rw [hw]; exact (by repeat (first | (with_reducible first | exact HB.out | apply below_alloc | apply pw_below_drewN | apply below_drew1 | refine below_set ?_ GE111.out | refine below_set ?_ GE152.out) | exact HB.out)))⟩; clear hw; clear HO_4; clear HO_8; clear HO151; clear BK111; clear BK152; clear HB; have HO_4 := n0_; have HO_8 := n1_; have HO151 := n2_; have BK111 := n3_; have BK152 := n4_; have HB := n5_; clear n0_ n1_ n2_ n3_ n4_ n5_; have hcz109_0 : w108.cell? ⟨gb152, 0, none⟩ = some (.slice A104 y147.length y147.length) := (blk_cell BK152.out 0).trans rfl; have hcz109_1 : w108.cell? ⟨gb152, 1, none⟩ = some (.int .i64 (wrap64 ((rd l0 x10_3) + a1_1))) := (blk_cell BK152.out 1).trans rfl; have hfz109_0 := blk_frozen BK152.out 0; have hfz109_1 := blk_frozen BK152.out 1; have hcz110_0 : w108.cell? ⟨gb111, 0, none⟩ = some (.int .i64 a1_0) := (blk_cell BK111.out 0).trans rfl; have hcz110_1 : w108.cell? ⟨gb111, 1, none⟩ = some (.int .i64 a1_1) := (blk_cell BK111.out 1).trans rfl; have hfz110_0 := blk_frozen BK111.out 0; have hfz110_1 := blk_frozen BK111.out 1; have p153 : 0 ≤ ((ji100) : Int) := of_decide_eq_true (by first | (with_reducible assumption) | assumption); have q153 : (ji100) < (l0.length : Int) := of_decide_eq_true (by first | (with_reducible assumption) | assumption); obtain ⟨ad153, e153, hx153_0⟩ := Kd.at_int HR0.out (ji100) p153 q153; obtain rfl : ad119 = ad153 := (by injection e153); replace hx153_0 := (HB.out.cell (World.block_lt_of_cell? w _ hx153_0)).trans hx153_0; replace p153 := eq_true p153; replace q153 := eq_true q153) | ((with_reducible refine gate_store (t := 3) (p := 112) rfl ?_); (try (rw [drewN_self w108]; generalize hq_ : World.drewN w108 _ = w108; have n0_ := Aside0.mk (Kd.N_at hq_ HO_4.out); have n1_ := Aside0.mk (Kd.R_at hq_ HO_8.out); have n2_ := Aside0.mk (Kd.V_at hq_ HO151.out); have n3_ := Aside0.mk (blk_at hq_ BK111.out); have n4_ := Aside0.mk (blk_at hq_ BK152.out); have n5_ := Aside0.mk (below_at hq_ HB.out); clear hq_ HO_4 HO_8 HO151 BK111 BK152 HB; have HO_4 := n0_; have HO_8 := n1_; have HO151 := n2_; have BK111 := n3_; have BK152 := n4_; have HB := n5_; clear n0_ n1_ n2_ n3_ n4_ n5_)); refine store_event (t := 3) (p := 112) (v := ?vo_w111) (w1 := (w108.setCell ⟨gb152, 1, none⟩ (.int .i64 (rd l0 (ji100))))) ?hg ?ho ?hn ?hr ?_; (case ho => rfl); (case hg => rfl); (case hn => rfl); (case hr => first | (go_simp; done) | (go_simp; rfl)); intro w111 hw; have n0_ : Aside0 (Kd.N k40 40 w111 w.heap.size (fun k_ => (w.heap.size ≤ k_) ∧ k_ ≠ gb111 ∧ k_ ≠ gb152) u4 x4_3) := ⟨(by rw [hw]; exact (by (with_reducible repeat (first | apply Kd.N_alloc | apply Kd.N_drewN | apply Kd.N_drew)); exact Kd.N_mono (Kd.N_far (p := ⟨gb152, 1, none⟩) (Kd.N_mono HO_4.out (fun k_ hk => (⟨hk, hk.2.2⟩ : _ ∧ k_ ≠ gb152))) (fun _ hk => hk.2) (.int .i64 (rd l0 (ji100)))) (fun _ hk => ⟨hk.1.1, ⟨hk.1.2.1, hk.1.2.2⟩⟩)))⟩; have n1_ : Aside0 (Kd.R (Kd.int .i64) 3 w111 w.heap.size (fun k_ => (w.heap.size ≤ k_)) (.slice Ao23 x8_2.length co23) x8_2) := ⟨(by rw [hw]; exact (by (with_reducible repeat (first | apply Kd.R_alloc | apply Kd.R_drewN | apply Kd.R_drew)); exact Kd.R_mono (Kd.R_far (p := ⟨gb152, 1, none⟩) (Kd.R_types HO_8.out BK152.out (by decide)) (fun _ hk => hk.2) (.int .i64 (rd l0 (ji100)))) (fun _ hk => hk.1)))⟩; have n2_ : Aside0 (Kd.V (Kd.int .i64) 3 w111 w.heap.size (fun k_ => (w.heap.size ≤ k_) ∧ some k_ ≠ (u4 : Value).ownBlock ∧ k_ ≠ gb111 ∧ k_ ≠ gb152) (.slice A104 y147.length y147.length) y147) := ⟨(by rw [hw]; exact (by (with_reducible repeat (first | apply Kd.V_alloc | apply Kd.V_drewN | apply Kd.V_drew)); exact Kd.V_mono (Kd.V_far (p := ⟨gb152, 1, none⟩) (Kd.V_mono HO151.out (fun k_ hk => (⟨hk, hk.2.2.2⟩ : _ ∧ k_ ≠ gb152))) (fun _ hk => hk.2) (.int .i64 (rd l0 (ji100)))) (fun _ hk => ⟨hk.1.1, ⟨hk.1.2.1, ⟨hk.1.2.2.1, hk.1.2.2.2⟩⟩⟩)))⟩; have n3_ : Aside0 (w111.heap[gb111]? = some (.cells #[.int .i64 a1_0, .int .i64 a1_1] 26 (0, 0))) := ⟨(by rw [hw]; exact (by (with_reducible repeat (first | refine blk_drewN ?_ _ | refine blk_drew ?_ | refine blk_alloc ?_ _)); refine blk_far ?_ NB111_152.out _; (with_reducible repeat (first | refine blk_drewN ?_ _ | refine blk_drew ?_ | refine blk_alloc ?_ _)); exact BK111.out))⟩; have n4_ : Aside0 (w111.heap[gb152]? = some (.cells #[.slice A104 y147.length y147.length, .int .i64 (rd l0 (ji100))] 40 (0, 0))) := ⟨(by rw [hw]; exact (by (with_reducible repeat (first | refine blk_drewN ?_ _ | refine blk_drew ?_ | refine blk_alloc ?_ _)); refine blk_put (cs := #[.slice A104 y147.length y147.length, .int .i64 (wrap64 ((rd l0 x10_3) + a1_1))]) ?_ 1 _ rfl; (with_reducible repeat (first | refine blk_drewN ?_ _ | refine blk_drew ?_ | refine blk_alloc ?_ _)); exact BK152.out))⟩; have n5_ : Aside0 (Below w.heap.size w w111) := ⟨(by rw [hw]; exact (by repeat (first | (with_reducible first | exact HB.out | apply below_alloc | apply pw_below_drewN | apply below_drew1 | refine below_set ?_ GE111.out | refine below_set ?_ GE152.out) | exact HB.out)))⟩; clear hw; clear HO_4; clear HO_8; clear HO151; clear BK111; clear BK152; clear HB; have HO_4 := n0_; have HO_8 := n1_; have HO151 := n2_; have BK111 := n3_; have BK152 := n4_; have HB := n5_; clear n0_ n1_ n2_ n3_ n4_ n5_; have hcz112_0 : w111.cell? ⟨gb152, 0, none⟩ = some (.slice A104 y147.length y147.length) := (blk_cell BK152.out 0).trans rfl; have hcz112_1 : w111.cell? ⟨gb152, 1, none⟩ = some (.int .i64 (rd l0 (ji100))) := (blk_cell BK152.out 1).trans rfl; have hfz112_0 := blk_frozen BK152.out 0; have hfz112_1 := blk_frozen BK152.out 1) | ((with_reducible refine gate_builtin (b := .append) (xs := #[.tmp 113, .tmp 115]) rfl ?_); at_builtin; refine Kd.N_append k40 (w0 := w) w.heap.size rfl (.tmp 113) (.tmp 115) 27 40 (.agg #[(.slice none 0 0), (.int .i64 0)]) 32 rfl Try.underlying27 info40 rfl (by decide) (by omega) u4 x4_3 (⟨y147, rd l0 (ji100)⟩ : S40) [.slice A104 y147.length y147.length, .int .i64 (rd l0 (ji100))] (fun k_ => (w.heap.size ≤ k_) ∧ k_ ≠ gb111 ∧ k_ ≠ gb152) (fun k_ => ((fun k_ => (w.heap.size ≤ k_) ∧ k_ ≠ gb111 ∧ k_ ≠ gb152)) k_ ∧ some k_ ≠ (u4 : Value).ownBlock) rfl rfl ?aP (fun _ hk => hk) ?aF ?aO ?aB ?aS ?aL ?_; (case aP => exact (k40_mkF _ _ (⟨y147, rd l0 (ji100)⟩ : S40) (Kd.V_reads' (Kd.V_mono (ok' := (fun k_ => ((fun k_ => (w.heap.size ≤ k_) ∧ k_ ≠ gb111 ∧ k_ ≠ gb152)) k_ ∧ some k_ ≠ (u4 : Value).ownBlock)) (HO151.out) (fun k_ hk => ⟨⟨hk.1, ⟨hk.2.2.1, hk.2.2.2⟩⟩, hk.2.1⟩))).2.1 (Kd.V_F (Kd.V_mono (ok' := (fun k_ => ((fun k_ => (w.heap.size ≤ k_) ∧ k_ ≠ gb111 ∧ k_ ≠ gb152)) k_ ∧ some k_ ≠ (u4 : Value).ownBlock)) (HO151.out) (fun k_ hk => ⟨⟨hk.1, ⟨hk.2.2.1, hk.2.2.2⟩⟩, hk.2.1⟩))))); (case aB => exact (by repeat (first | (with_reducible first | exact HB.out | apply below_alloc | apply pw_below_drewN | apply below_drew1 | refine below_set ?_ GE111.out | refine below_set ?_ GE152.out) | exact HB.out))); (case aF => exact (fun k_ hk => ⟨(Nat.le_trans (below_size (by repeat (first | (with_reducible first | exact HB.out | apply below_alloc | apply pw_below_drewN | apply below_drew1 | refine below_set ?_ GE111.out | refine below_set ?_ GE152.out) | exact HB.out))) hk), Kd.freshB (g := gb111) (o := .cells #[.int .i64 a1_0, .int .i64 a1_1] 26 (0, 0)) (by (with_reducible repeat (first | refine blk_drewN ?_ _ | refine blk_drew ?_ | refine blk_alloc ?_ _)); exact BK111.out) k_ hk, Kd.freshB (g := gb152) (o := .cells #[.slice A104 y147.length y147.length, .int .i64 (rd l0 (ji100))] 40 (0, 0)) (by (with_reducible repeat (first | refine blk_drewN ?_ _ | refine blk_drew ?_ | refine blk_alloc ?_ _)); exact BK152.out) k_ hk⟩)); (case aO => exact (by (with_reducible repeat (first | apply Kd.N_alloc | apply Kd.N_drewN | apply Kd.N_drew)); exact HO_4.out)); (case aS => exact (below_size (by repeat (first | (with_reducible first | exact HB.out | apply below_alloc | apply pw_below_drewN | apply below_drew1 | refine below_set ?_ GE111.out | refine below_set ?_ GE152.out) | exact HB.out)))); (case aL => have := LMc103.out; omega); intro v155 w113 ho hb hg hat; rw [← Ny154.out] at ho; have n0_ := Aside0.mk (Kd.R_over' (by (with_reducible repeat (first | apply Kd.R_alloc | apply Kd.R_drewN | apply Kd.R_drew)); exact HO_8.out) (Kd.N_typed (by (with_reducible repeat (first | apply Kd.N_alloc | apply Kd.N_drewN | apply Kd.N_drew)); exact HO_4.out)) (by decide) hg); have n1_ := Aside0.mk (blk_grown (g := gb111) (o := .cells #[.int .i64 a1_0, .int .i64 a1_1] 26 (0, 0)) (by (with_reducible repeat (first | refine blk_drewN ?_ _ | refine blk_drew ?_ | refine blk_alloc ?_ _)); exact BK111.out) hg (Kd.N_ne HO_4.out BK111.out (by decide))); have n2_ := Aside0.mk (Kd.V_afterv (ok := (fun k_ => (w.heap.size ≤ k_) ∧ k_ ≠ gb111 ∧ k_ ≠ gb152)) (by (with_reducible repeat (first | apply Kd.V_alloc | apply Kd.V_drewN | apply Kd.V_drew)); exact Kd.V_mono HO151.out (fun _ hk => ⟨⟨hk.1, ⟨hk.2.2.1, hk.2.2.2⟩⟩, hk.2.1⟩)) hg hat); have n3_ := Aside0.mk (blk_grown (g := gb152) (o := .cells #[.slice A104 y147.length y147.length, .int .i64 (rd l0 (ji100))] 40 (0, 0)) (by (with_reducible repeat (first | refine blk_drewN ?_ _ | refine blk_drew ?_ | refine blk_alloc ?_ _)); exact BK152.out) hg (Kd.N_away HO_4.out (fun _ hk => hk.2.2))); have n4_ := Aside0.mk (hb); have n5_ := Aside0.mk (ho); clear HO_8; clear BK111; clear HO151; clear BK152; clear HB; clear HO_4; have HO_8 := n0_; have BK111 := n1_; have HO151 := n2_; have BK152 := n3_; have HB := n4_; have HO156 := n5_; clear n0_ n1_ n2_ n3_ n4_ n5_; clear ho hb hg hat))
                                                  repeat (go_quiet (fail); try go_wp2)
                                                  go_roundg k4
                                                  case measure => have := HK1.out; have := HK2.out; have := HK3.out; have := HK4.out; omega
                                                  case rel => exact ⟨(y154), (x10_4), (by first | rfl | (simp; done) | (simp [*]; done)), H', ⟨by have := HK1.out; have := HK2.out; have := HK3.out; have := HK4.out; omega⟩, ⟨by (try simp only [hl8_2]); (with_reducible repeat (first | apply Kd.N_alloc | apply Kd.N_drewN | apply Kd.N_drew)); exact Kd.N_mono HO156.out (fun _ hk => ⟨hk.1, hk.2.1⟩)⟩, ⟨by (try simp only [hl8_2]); (with_reducible repeat (first | apply Kd.R_alloc | apply Kd.R_drewN | apply Kd.R_drew)); exact HO_8.out⟩, ⟨by (try simp only [hl8_2]); (with_reducible repeat (first | refine blk_drewN ?_ _ | refine blk_drew ?_ | refine blk_alloc ?_ _)); exact BK111.out⟩, ⟨by repeat (first | (with_reducible first | exact HB.out | apply below_alloc | apply pw_below_drewN | apply below_drew1 | refine below_set ?_ GE111.out | refine below_set ?_ GE152.out) | exact HB.out)⟩⟩
                                                · rw [if_neg c103] at H
                                                  exact absurd H (by simp)
                                              · rw [if_neg c102] at H
                                                exact absurd H (by simp)
                                            · rw [if_neg c101] at H
                                              exact absurd H (by simp)
                                          · rw [if_neg c99] at H
                                            have c99b0 : ((y147.length : Int) == a1_0) = false := beq_eq_false_iff_ne.mpr c99
                                            have c99b1 : ((y147.length : Int) != a1_0) = true := bne_iff_ne.mpr c99
                                            by_cases c114 : x4_3.length < 4398046511104
                                            · rw [if_pos c114] at H
                                              have LMc114 := Aside0.mk c114
                                              clear c114
                                              obtain ⟨y157, hy157⟩ : ∃ y_ : List (S40), y_ = (x4_3 ++ [(⟨y147, (wrap64 ((rd l0 x10_3) + a1_1))⟩ : S40)]) := ⟨_, rfl⟩
                                              replace H : (batch_Form.l2 k4 l0 y157 x8_2 x10_4 a1_0 a1_1) = some (r1, r2) := by first | (rw [hy157]; with_reducible exact H) | (have H2_ := (Option.bind_some _ _).symm.trans H; rw [hy157]; with_reducible exact H2_) | (have H2_ := (Option.bind_some _ _).symm.trans H; with_reducible exact H2_) | with_reducible exact H | (rw [hy157]; exact H) | exact H
                                              have Ny157 := Aside0.mk hy157
                                              clear hy157
                                              have H' := Aside0.mk H
                                              clear H
                                              have q115 : (x10_4 : Int) ≤ ((x8_2.length : Int) : Int) := of_decide_eq_true (by first | (with_reducible assumption) | assumption)
                                              obtain ⟨i0115, hi0115, _, hsz115, _⟩ := info_parts info3
                                              have hroom115 : x8_2.length ≤ co23 := (Kd.R_reads' HO_8.out).2.1
                                              have hC115 : Kd.F (Kd.int .i64) _ _ Ao23 x8_2.length x8_2 := (Kd.V_at (base := w.heap.size) (Kd.R_V (Kd.R_types (Kd.R_apart' (HO_8.out) (Kd.N_typed HO_4.out) (by decide)) BK111.out (by decide)))).2.2
                                              have ql115 : (x10_3 : Int) ≤ (x10_4 : Int) := of_decide_eq_true (by first | (with_reducible assumption) | assumption)
                                              have q0115 : (0 : Int) ≤ (x10_3 : Int) := of_decide_eq_true (by first | (with_reducible assumption) | assumption)
                                              have hcut115 := CutThree.cut_mid3 (P := Try.prog) 22 3 .i64 .i64 .i64 Try.underlying22 hi0115 1 hsz115 Ao23 x8_2.length co23 x10_3 x10_4 q0115 ql115 q115 hroom115
                                              have hr115 := CutThree.F_mid3 (lo := (x10_3 : Int).toNat) (hi := (x10_4 : Int).toNat) hC115 (by omega) (by omega)
                                              obtain ⟨A115, hA115⟩ : ∃ A1, A1 = (if (x10_4 : Int).toNat = (x10_3 : Int).toNat then Ao23 else (Ao23 : Option Addr).map (·.add ((x10_3 : Int).toNat * 1))) := ⟨_, rfl⟩
                                              have hy115 : y147.length = (x10_4 : Int).toNat - (x10_3 : Int).toNat := (by rw [Ny147.out, List.length_drop, List.length_take] <;> omega)
                                              rw [show ((x8_2).take (x10_4 : Int).toNat).drop (x10_3 : Int).toNat = y147 from Ny147.out.symm] at hr115
                                              replace hr115 : Kd.F (Kd.int .i64) _ _ A115 y147.length y147 := (by rw [hA115]; exact hr115)
                                              rw [← hy115, ← hA115] at hcut115
                                              have HO151 := Aside0.mk (show Kd.V (Kd.int .i64) 3 _ w.heap.size _ (.slice A115 y147.length y147.length) y147 from Kd.V_mk (Nat.le_refl _) hr115)
                                              have HC151 := Aside0.mk (show y147.length ≤ y147.length from Nat.le_refl _)
                                              clear hr115 hC115 hroom115 hi0115 hsz115
                                              have KY115 := Aside0.mk hy115
                                              have KA115 := Aside0.mk hA115
                                              clear hy115 hA115
                                              replace q115 := eq_true q115
                                              go_wp2_with (first | ((with_reducible refine gate_dst (N := 13) rfl ?_); refine box_event ?hg (N := 13) ?hd (cs := #[.slice none 0 0, .int .i64 0]) (t := 40) ?hr ?_; (case hd => rfl); (case hg => rfl); (case hr => first | (go_simp; done) | (go_simp; rfl)); intro gb152 hg w116 hbox hb; have n0_ := Aside0.mk (Kd.N_below (Kd.N_elderB (by (with_reducible repeat (first | apply Kd.N_alloc | apply Kd.N_drewN | apply Kd.N_drew)); exact HO_4.out) gb152 (Nat.le_of_eq hg.symm)) hb); have n1_ := Aside0.mk (Kd.R_below (by (with_reducible repeat (first | apply Kd.R_alloc | apply Kd.R_drewN | apply Kd.R_drew)); exact HO_8.out) hb); have n2_ := Aside0.mk (Kd.V_below (Kd.V_elderB (by (with_reducible repeat (first | apply Kd.V_alloc | apply Kd.V_drewN | apply Kd.V_drew)); exact HO151.out) gb152 (Nat.le_of_eq hg.symm)) hb); have n3_ := Aside0.mk (blk_below (g := gb111) (o := .cells #[.int .i64 a1_0, .int .i64 a1_1] 26 (0, 0)) (by (with_reducible repeat (first | refine blk_drewN ?_ _ | refine blk_drew ?_ | refine blk_alloc ?_ _)); exact BK111.out) hb); have n4_ := Aside0.mk (below_step (by repeat (first | (with_reducible first | exact HB.out | apply below_alloc | apply pw_below_drewN | apply below_drew1 | refine below_set ?_ GE111.out) | exact HB.out)) hb); have n5_ := Aside0.mk (hbox); have n6_ := Aside0.mk ((by rw [hg]; exact (below_size (by repeat (first | (with_reducible first | exact HB.out | apply below_alloc | apply pw_below_drewN | apply below_drew1 | refine below_set ?_ GE111.out) | exact HB.out))) : w.heap.size ≤ gb152)); have n7_ := Aside0.mk ((by rw [hg]; exact (below_size (by repeat (first | (with_reducible first | exact HB.out | apply below_alloc | apply pw_below_drewN | apply below_drew1 | refine below_set ?_ GE111.out) | exact HB.out))) : w.heap.size ≤ gb152)); have n8_ := Aside0.mk ((by rw [hg]; exact Nat.ne_of_lt (blk_lt (g := gb111) (o := .cells #[.int .i64 a1_0, .int .i64 a1_1] 26 (0, 0)) (by (with_reducible repeat (first | refine blk_drewN ?_ _ | refine blk_drew ?_ | refine blk_alloc ?_ _)); exact BK111.out)) : gb111 ≠ gb152)); have n9_ := Aside0.mk ((by rw [hg]; exact Nat.ne_of_gt (blk_lt (g := gb111) (o := .cells #[.int .i64 a1_0, .int .i64 a1_1] 26 (0, 0)) (by (with_reducible repeat (first | refine blk_drewN ?_ _ | refine blk_drew ?_ | refine blk_alloc ?_ _)); exact BK111.out)) : gb152 ≠ gb111)); clear HO_4; clear HO_8; clear HO151; clear BK111; clear HB; have HO_4 := n0_; have HO_8 := n1_; have HO151 := n2_; have BK111 := n3_; have HB := n4_; have BK152 := n5_; have GW152 := n6_; have GE152 := n7_; have NB111_152 := n8_; have NB152_111 := n9_; clear n0_ n1_ n2_ n3_ n4_ n5_ n6_ n7_ n8_ n9_; clear hb hbox hg; have hnb117 := NB152_111.out; have hnc117 := NB111_152.out; have hcz118_0 : w116.cell? ⟨gb152, 0, none⟩ = some (.slice none 0 0) := (blk_cell BK152.out 0).trans rfl; have hcz118_1 : w116.cell? ⟨gb152, 1, none⟩ = some (.int .i64 0) := (blk_cell BK152.out 1).trans rfl; have hfz118_0 := blk_frozen BK152.out 0; have hfz118_1 := blk_frozen BK152.out 1) | ((with_reducible refine gate_store (t := 40) (p := 13) rfl ?_); (try (rw [drewN_self w116]; generalize hq_ : World.drewN w116 _ = w116; have n0_ := Aside0.mk (Kd.N_at hq_ HO_4.out); have n1_ := Aside0.mk (Kd.R_at hq_ HO_8.out); have n2_ := Aside0.mk (Kd.V_at hq_ HO151.out); have n3_ := Aside0.mk (blk_at hq_ BK111.out); have n4_ := Aside0.mk (blk_at hq_ BK152.out); have n5_ := Aside0.mk (below_at hq_ HB.out); clear hq_ HO_4 HO_8 HO151 BK111 BK152 HB; have HO_4 := n0_; have HO_8 := n1_; have HO151 := n2_; have BK111 := n3_; have BK152 := n4_; have HB := n5_; clear n0_ n1_ n2_ n3_ n4_ n5_)); refine store_event (t := 40) (p := 13) (v := ?vo_w119) (w1 := ((w116.setCell ⟨gb152, 0, none⟩ (.slice A115 y147.length y147.length)).setCell ⟨gb152, 1, none⟩ (.int .i64 (wrap64 ((rd l0 x10_3) + a1_1))))) ?hg ?ho ?hn ?hr ?_; (case ho => rfl); (case hg => rfl); (case hn => rfl); (case hr => first | (go_simp; done) | (go_simp; rfl)); intro w119 hw; have n0_ : Aside0 (Kd.N k40 40 w119 w.heap.size (fun k_ => (w.heap.size ≤ k_) ∧ k_ ≠ gb111 ∧ k_ ≠ gb152) u4 x4_3) := ⟨(by rw [hw]; exact (by (with_reducible repeat (first | apply Kd.N_alloc | apply Kd.N_drewN | apply Kd.N_drew)); exact Kd.N_mono (Kd.N_far (p := ⟨gb152, 1, none⟩) (Kd.N_far (p := ⟨gb152, 0, none⟩) (Kd.N_mono HO_4.out (fun k_ hk => (⟨hk, hk.2⟩ : _ ∧ k_ ≠ gb152))) (fun _ hk => hk.2) (.slice A115 y147.length y147.length)) (fun _ hk => hk.2) (.int .i64 (wrap64 ((rd l0 x10_3) + a1_1)))) (fun _ hk => ⟨hk.1.1.1, ⟨hk.1.1.2, hk.1.2⟩⟩)))⟩; have n1_ : Aside0 (Kd.R (Kd.int .i64) 3 w119 w.heap.size (fun k_ => (w.heap.size ≤ k_)) (.slice Ao23 x8_2.length co23) x8_2) := ⟨(by rw [hw]; exact (by (with_reducible repeat (first | apply Kd.R_alloc | apply Kd.R_drewN | apply Kd.R_drew)); exact Kd.R_mono (Kd.R_far (p := ⟨gb152, 1, none⟩) (Kd.R_far (p := ⟨gb152, 0, none⟩) (Kd.R_types HO_8.out BK152.out (by decide)) (fun _ hk => hk.2) (.slice A115 y147.length y147.length)) (fun _ hk => hk.2) (.int .i64 (wrap64 ((rd l0 x10_3) + a1_1)))) (fun _ hk => hk.1)))⟩; have n2_ : Aside0 (Kd.V (Kd.int .i64) 3 w119 w.heap.size (fun k_ => (w.heap.size ≤ k_) ∧ some k_ ≠ (u4 : Value).ownBlock ∧ k_ ≠ gb111 ∧ k_ ≠ gb152) (.slice A115 y147.length y147.length) y147) := ⟨(by rw [hw]; exact (by (with_reducible repeat (first | apply Kd.V_alloc | apply Kd.V_drewN | apply Kd.V_drew)); exact Kd.V_mono (Kd.V_far (p := ⟨gb152, 1, none⟩) (Kd.V_far (p := ⟨gb152, 0, none⟩) (Kd.V_mono HO151.out (fun k_ hk => (⟨hk, hk.2⟩ : _ ∧ k_ ≠ gb152))) (fun _ hk => hk.2) (.slice A115 y147.length y147.length)) (fun _ hk => hk.2) (.int .i64 (wrap64 ((rd l0 x10_3) + a1_1)))) (fun _ hk => ⟨hk.1.1.1.1, ⟨hk.1.1.1.2, ⟨hk.1.1.2, hk.1.2⟩⟩⟩)))⟩; have n3_ : Aside0 (w119.heap[gb111]? = some (.cells #[.int .i64 a1_0, .int .i64 a1_1] 26 (0, 0))) := ⟨(by rw [hw]; exact (by (with_reducible repeat (first | refine blk_drewN ?_ _ | refine blk_drew ?_ | refine blk_alloc ?_ _)); refine blk_far ?_ NB111_152.out _; (with_reducible repeat (first | refine blk_drewN ?_ _ | refine blk_drew ?_ | refine blk_alloc ?_ _)); refine blk_far ?_ NB111_152.out _; (with_reducible repeat (first | refine blk_drewN ?_ _ | refine blk_drew ?_ | refine blk_alloc ?_ _)); exact BK111.out))⟩; have n4_ : Aside0 (w119.heap[gb152]? = some (.cells #[.slice A115 y147.length y147.length, .int .i64 (wrap64 ((rd l0 x10_3) + a1_1))] 40 (0, 0))) := ⟨(by rw [hw]; exact (by (with_reducible repeat (first | refine blk_drewN ?_ _ | refine blk_drew ?_ | refine blk_alloc ?_ _)); refine blk_put (cs := #[.slice A115 y147.length y147.length, .int .i64 0]) ?_ 1 _ rfl; (with_reducible repeat (first | refine blk_drewN ?_ _ | refine blk_drew ?_ | refine blk_alloc ?_ _)); refine blk_put (cs := #[.slice none 0 0, .int .i64 0]) ?_ 0 _ rfl; (with_reducible repeat (first | refine blk_drewN ?_ _ | refine blk_drew ?_ | refine blk_alloc ?_ _)); exact BK152.out))⟩; have n5_ : Aside0 (Below w.heap.size w w119) := ⟨(by rw [hw]; exact (by repeat (first | (with_reducible first | exact HB.out | apply below_alloc | apply pw_below_drewN | apply below_drew1 | refine below_set ?_ GE111.out | refine below_set ?_ GE152.out) | exact HB.out)))⟩; clear hw; clear HO_4; clear HO_8; clear HO151; clear BK111; clear BK152; clear HB; have HO_4 := n0_; have HO_8 := n1_; have HO151 := n2_; have BK111 := n3_; have BK152 := n4_; have HB := n5_; clear n0_ n1_ n2_ n3_ n4_ n5_; have hcz120_0 : w119.cell? ⟨gb152, 0, none⟩ = some (.slice A115 y147.length y147.length) := (blk_cell BK152.out 0).trans rfl; have hcz120_1 : w119.cell? ⟨gb152, 1, none⟩ = some (.int .i64 (wrap64 ((rd l0 x10_3) + a1_1))) := (blk_cell BK152.out 1).trans rfl; have hfz120_0 := blk_frozen BK152.out 0; have hfz120_1 := blk_frozen BK152.out 1; have hcz121_0 : w119.cell? ⟨gb111, 0, none⟩ = some (.int .i64 a1_0) := (blk_cell BK111.out 0).trans rfl; have hcz121_1 : w119.cell? ⟨gb111, 1, none⟩ = some (.int .i64 a1_1) := (blk_cell BK111.out 1).trans rfl; have hfz121_0 := blk_frozen BK111.out 0; have hfz121_1 := blk_frozen BK111.out 1) | ((with_reducible refine gate_builtin (b := .append) (xs := #[.tmp 113, .tmp 115]) rfl ?_); at_builtin; refine Kd.N_append k40 (w0 := w) w.heap.size rfl (.tmp 113) (.tmp 115) 27 40 (.agg #[(.slice none 0 0), (.int .i64 0)]) 32 rfl Try.underlying27 info40 rfl (by decide) (by omega) u4 x4_3 (⟨y147, (wrap64 ((rd l0 x10_3) + a1_1))⟩ : S40) [.slice A115 y147.length y147.length, .int .i64 (wrap64 ((rd l0 x10_3) + a1_1))] (fun k_ => (w.heap.size ≤ k_) ∧ k_ ≠ gb111 ∧ k_ ≠ gb152) (fun k_ => ((fun k_ => (w.heap.size ≤ k_) ∧ k_ ≠ gb111 ∧ k_ ≠ gb152)) k_ ∧ some k_ ≠ (u4 : Value).ownBlock) rfl rfl ?aP (fun _ hk => hk) ?aF ?aO ?aB ?aS ?aL ?_; (case aP => exact (k40_mkF _ _ (⟨y147, (wrap64 ((rd l0 x10_3) + a1_1))⟩ : S40) (Kd.V_reads' (Kd.V_mono (ok' := (fun k_ => ((fun k_ => (w.heap.size ≤ k_) ∧ k_ ≠ gb111 ∧ k_ ≠ gb152)) k_ ∧ some k_ ≠ (u4 : Value).ownBlock)) (HO151.out) (fun k_ hk => ⟨⟨hk.1, ⟨hk.2.2.1, hk.2.2.2⟩⟩, hk.2.1⟩))).2.1 (Kd.V_F (Kd.V_mono (ok' := (fun k_ => ((fun k_ => (w.heap.size ≤ k_) ∧ k_ ≠ gb111 ∧ k_ ≠ gb152)) k_ ∧ some k_ ≠ (u4 : Value).ownBlock)) (HO151.out) (fun k_ hk => ⟨⟨hk.1, ⟨hk.2.2.1, hk.2.2.2⟩⟩, hk.2.1⟩))))); (case aB => exact (by repeat (first | (with_reducible first | exact HB.out | apply below_alloc | apply pw_below_drewN | apply below_drew1 | refine below_set ?_ GE111.out | refine below_set ?_ GE152.out) | exact HB.out))); (case aF => exact (fun k_ hk => ⟨(Nat.le_trans (below_size (by repeat (first | (with_reducible first | exact HB.out | apply below_alloc | apply pw_below_drewN | apply below_drew1 | refine below_set ?_ GE111.out | refine below_set ?_ GE152.out) | exact HB.out))) hk), Kd.freshB (g := gb111) (o := .cells #[.int .i64 a1_0, .int .i64 a1_1] 26 (0, 0)) (by (with_reducible repeat (first | refine blk_drewN ?_ _ | refine blk_drew ?_ | refine blk_alloc ?_ _)); exact BK111.out) k_ hk, Kd.freshB (g := gb152) (o := .cells #[.slice A115 y147.length y147.length, .int .i64 (wrap64 ((rd l0 x10_3) + a1_1))] 40 (0, 0)) (by (with_reducible repeat (first | refine blk_drewN ?_ _ | refine blk_drew ?_ | refine blk_alloc ?_ _)); exact BK152.out) k_ hk⟩)); (case aO => exact (by (with_reducible repeat (first | apply Kd.N_alloc | apply Kd.N_drewN | apply Kd.N_drew)); exact HO_4.out)); (case aS => exact (below_size (by repeat (first | (with_reducible first | exact HB.out | apply below_alloc | apply pw_below_drewN | apply below_drew1 | refine below_set ?_ GE111.out | refine below_set ?_ GE152.out) | exact HB.out)))); (case aL => have := LMc114.out; omega); intro v158 w122 ho hb hg hat; rw [← Ny157.out] at ho; have n0_ := Aside0.mk (Kd.R_over' (by (with_reducible repeat (first | apply Kd.R_alloc | apply Kd.R_drewN | apply Kd.R_drew)); exact HO_8.out) (Kd.N_typed (by (with_reducible repeat (first | apply Kd.N_alloc | apply Kd.N_drewN | apply Kd.N_drew)); exact HO_4.out)) (by decide) hg); have n1_ := Aside0.mk (blk_grown (g := gb111) (o := .cells #[.int .i64 a1_0, .int .i64 a1_1] 26 (0, 0)) (by (with_reducible repeat (first | refine blk_drewN ?_ _ | refine blk_drew ?_ | refine blk_alloc ?_ _)); exact BK111.out) hg (Kd.N_ne HO_4.out BK111.out (by decide))); have n2_ := Aside0.mk (Kd.V_afterv (ok := (fun k_ => (w.heap.size ≤ k_) ∧ k_ ≠ gb111 ∧ k_ ≠ gb152)) (by (with_reducible repeat (first | apply Kd.V_alloc | apply Kd.V_drewN | apply Kd.V_drew)); exact Kd.V_mono HO151.out (fun _ hk => ⟨⟨hk.1, ⟨hk.2.2.1, hk.2.2.2⟩⟩, hk.2.1⟩)) hg hat); have n3_ := Aside0.mk (blk_grown (g := gb152) (o := .cells #[.slice A115 y147.length y147.length, .int .i64 (wrap64 ((rd l0 x10_3) + a1_1))] 40 (0, 0)) (by (with_reducible repeat (first | refine blk_drewN ?_ _ | refine blk_drew ?_ | refine blk_alloc ?_ _)); exact BK152.out) hg (Kd.N_away HO_4.out (fun _ hk => hk.2.2))); have n4_ := Aside0.mk (hb); have n5_ := Aside0.mk (ho); clear HO_8; clear BK111; clear HO151; clear BK152; clear HB; clear HO_4; have HO_8 := n0_; have BK111 := n1_; have HO151 := n2_; have BK152 := n3_; have HB := n4_; have HO159 := n5_; clear n0_ n1_ n2_ n3_ n4_ n5_; clear ho hb hg hat))
                                              repeat (go_quiet (fail); try go_wp2)
                                              go_roundg k4
                                              case measure => have := HK1.out; have := HK2.out; have := HK3.out; have := HK4.out; omega
                                              case rel => exact ⟨(y157), (x10_4), (by first | rfl | (simp; done) | (simp [*]; done)), H', ⟨by have := HK1.out; have := HK2.out; have := HK3.out; have := HK4.out; omega⟩, ⟨by (try simp only [hl8_2]); (with_reducible repeat (first | apply Kd.N_alloc | apply Kd.N_drewN | apply Kd.N_drew)); exact Kd.N_mono HO159.out (fun _ hk => ⟨hk.1, hk.2.1⟩)⟩, ⟨by (try simp only [hl8_2]); (with_reducible repeat (first | apply Kd.R_alloc | apply Kd.R_drewN | apply Kd.R_drew)); exact HO_8.out⟩, ⟨by (try simp only [hl8_2]); (with_reducible repeat (first | refine blk_drewN ?_ _ | refine blk_drew ?_ | refine blk_alloc ?_ _)); exact BK111.out⟩, ⟨by repeat (first | (with_reducible first | exact HB.out | apply below_alloc | apply pw_below_drewN | apply below_drew1 | refine below_set ?_ GE111.out | refine below_set ?_ GE152.out) | exact HB.out)⟩⟩
                                            · rw [if_neg c114] at H
                                              exact absurd H (by simp)
                                        · rw [if_neg c98] at H
                                          exact absurd H (by simp)
                                      · rw [if_neg c97] at H
                                        exact absurd H (by simp)
                                    · rw [if_neg c96] at H
                                      exact absurd H (by simp)
                            · rw [if_neg c31] at H
                              exact absurd H (by simp)
                          · rw [if_neg c30] at H
                            have c30b0 : decide (x10_3 < (l0.length : Int)) = false := decide_eq_false c30
                            clear c30
                            simp only [Option.some.injEq, Prod.mk.injEq] at H
                            obtain ⟨rfl, rfl⟩ := H
                            go_wp2
                            repeat (go_quiet (fail); try go_wp2)
                            go_ret2
                            exact ⟨_, by first | rfl | (simp [errW_none, errW_some] <;> rfl) | (simp [*, errW_none, errW_some] <;> rfl), by (with_reducible repeat (first | apply Kd.N_alloc | apply Kd.N_drewN | apply Kd.N_drew)); exact Kd.N_mono HO_4.out (fun _ hk => hk.1), by repeat (first | (with_reducible first | exact HB.out | apply below_alloc | apply pw_below_drewN | apply below_drew1 | refine below_set ?_ GE111.out) | exact HB.out)⟩
              · rw [if_neg c20] at H
                exact absurd H (by simp)
            · rw [if_neg c19] at H
              exact absurd H (by simp)
  · replace c4 := Bool.eq_false_iff.mpr c4
    subst c4
    have H1 : (some (([] : List (S40)), 1)) = some (r1, r2) := by rw [if_neg (show ¬ (false = true) by decide)] at H; exact H
    clear H
    have H := H1
    clear H1
    simp only [Option.some.injEq, Prod.mk.injEq] at H
    obtain ⟨rfl, rfl⟩ := H
    go_enter Try.func9, Try.ntmps9
    go_wp2_with (first | ((with_reducible refine gate_dst (N := 3) rfl ?_); refine box_event ?hg (N := 3) ?hd (cs := #[.int .i64 a1_0, .int .i64 a1_1]) (t := 26) ?hr ?_; (case hd => rfl); (case hg => rfl); (case hr => first | (go_simp; done) | (go_simp; rfl)); intro gb111 hg w123 hbox hb; have n0_ := Aside0.mk (below_step (by repeat (first | (with_reducible first | exact HB.out | apply below_alloc | apply pw_below_drewN | apply below_drew1) | exact HB.out)) hb); have n1_ := Aside0.mk (hbox); have n2_ := Aside0.mk ((by rw [hg]; exact (below_size (by repeat (first | (with_reducible first | exact HB.out | apply below_alloc | apply pw_below_drewN | apply below_drew1) | exact HB.out))) : w.heap.size ≤ gb111)); have n3_ := Aside0.mk ((by rw [hg]; exact (below_size (by repeat (first | (with_reducible first | exact HB.out | apply below_alloc | apply pw_below_drewN | apply below_drew1) | exact HB.out))) : w.heap.size ≤ gb111)); clear HB; have HB := n0_; have BK111 := n1_; have GW111 := n2_; have GE111 := n3_; clear n0_ n1_ n2_ n3_; clear hb hbox hg; have hcz124_0 : w123.cell? ⟨gb111, 0, none⟩ = some (.int .i64 a1_0) := (blk_cell BK111.out 0).trans rfl; have hcz124_1 : w123.cell? ⟨gb111, 1, none⟩ = some (.int .i64 a1_1) := (blk_cell BK111.out 1).trans rfl; have hfz124_0 := blk_frozen BK111.out 0; have hfz124_1 := blk_frozen BK111.out 1) | (go_at_call 14; (with_reducible refine (batch_Fine.calls a1_0 a1_1 false _ A3.out).mono ?_); rintro e w125 ⟨rfl, hb⟩; have n0_ := Aside0.mk (blk_below (g := gb111) (o := .cells #[.int .i64 a1_0, .int .i64 a1_1] 26 (0, 0)) (by (with_reducible repeat (first | refine blk_drewN ?_ _ | refine blk_drew ?_ | refine blk_alloc ?_ _)); exact BK111.out) hb); have n1_ := Aside0.mk (below_step (by repeat (first | (with_reducible first | exact HB.out | apply below_alloc | apply pw_below_drewN | apply below_drew1 | refine below_set ?_ GE111.out) | exact HB.out)) hb); clear BK111; clear HB; have BK111 := n0_; have HB := n1_; clear n0_ n1_; (try clear hb); (try clear hb2); (try clear hk); (try clear hi)))
    repeat (go_quiet (first | ((with_reducible refine gate_dst (N := 3) rfl ?_); refine box_event ?hg (N := 3) ?hd (cs := #[.int .i64 a1_0, .int .i64 a1_1]) (t := 26) ?hr ?_; (case hd => rfl); (case hg => rfl); (case hr => first | (go_simp; done) | (go_simp; rfl)); intro gb111 hg w123 hbox hb; have n0_ := Aside0.mk (below_step (by repeat (first | (with_reducible first | exact HB.out | apply below_alloc | apply pw_below_drewN | apply below_drew1) | exact HB.out)) hb); have n1_ := Aside0.mk (hbox); have n2_ := Aside0.mk ((by rw [hg]; exact (below_size (by repeat (first | (with_reducible first | exact HB.out | apply below_alloc | apply pw_below_drewN | apply below_drew1) | exact HB.out))) : w.heap.size ≤ gb111)); have n3_ := Aside0.mk ((by rw [hg]; exact (below_size (by repeat (first | (with_reducible first | exact HB.out | apply below_alloc | apply pw_below_drewN | apply below_drew1) | exact HB.out))) : w.heap.size ≤ gb111)); clear HB; have HB := n0_; have BK111 := n1_; have GW111 := n2_; have GE111 := n3_; clear n0_ n1_ n2_ n3_; clear hb hbox hg; have hcz124_0 : w123.cell? ⟨gb111, 0, none⟩ = some (.int .i64 a1_0) := (blk_cell BK111.out 0).trans rfl; have hcz124_1 : w123.cell? ⟨gb111, 1, none⟩ = some (.int .i64 a1_1) := (blk_cell BK111.out 1).trans rfl; have hfz124_0 := blk_frozen BK111.out 0; have hfz124_1 := blk_frozen BK111.out 1) | (go_at_call 14; (with_reducible refine (batch_Fine.calls a1_0 a1_1 false _ A3.out).mono ?_); rintro e w125 ⟨rfl, hb⟩; have n0_ := Aside0.mk (blk_below (g := gb111) (o := .cells #[.int .i64 a1_0, .int .i64 a1_1] 26 (0, 0)) (by (with_reducible repeat (first | refine blk_drewN ?_ _ | refine blk_drew ?_ | refine blk_alloc ?_ _)); exact BK111.out) hb); have n1_ := Aside0.mk (below_step (by repeat (first | (with_reducible first | exact HB.out | apply below_alloc | apply pw_below_drewN | apply below_drew1 | refine below_set ?_ GE111.out) | exact HB.out)) hb); clear BK111; clear HB; have BK111 := n0_; have HB := n1_; clear n0_ n1_; (try clear hb); (try clear hb2); (try clear hk); (try clear hi))); try go_wp2_with (first | ((with_reducible refine gate_dst (N := 3) rfl ?_); refine box_event ?hg (N := 3) ?hd (cs := #[.int .i64 a1_0, .int .i64 a1_1]) (t := 26) ?hr ?_; (case hd => rfl); (case hg => rfl); (case hr => first | (go_simp; done) | (go_simp; rfl)); intro gb111 hg w123 hbox hb; have n0_ := Aside0.mk (below_step (by repeat (first | (with_reducible first | exact HB.out | apply below_alloc | apply pw_below_drewN | apply below_drew1) | exact HB.out)) hb); have n1_ := Aside0.mk (hbox); have n2_ := Aside0.mk ((by rw [hg]; exact (below_size (by repeat (first | (with_reducible first | exact HB.out | apply below_alloc | apply pw_below_drewN | apply below_drew1) | exact HB.out))) : w.heap.size ≤ gb111)); have n3_ := Aside0.mk ((by rw [hg]; exact (below_size (by repeat (first | (with_reducible first | exact HB.out | apply below_alloc | apply pw_below_drewN | apply below_drew1) | exact HB.out))) : w.heap.size ≤ gb111)); clear HB; have HB := n0_; have BK111 := n1_; have GW111 := n2_; have GE111 := n3_; clear n0_ n1_ n2_ n3_; clear hb hbox hg; have hcz124_0 : w123.cell? ⟨gb111, 0, none⟩ = some (.int .i64 a1_0) := (blk_cell BK111.out 0).trans rfl; have hcz124_1 : w123.cell? ⟨gb111, 1, none⟩ = some (.int .i64 a1_1) := (blk_cell BK111.out 1).trans rfl; have hfz124_0 := blk_frozen BK111.out 0; have hfz124_1 := blk_frozen BK111.out 1) | (go_at_call 14; (with_reducible refine (batch_Fine.calls a1_0 a1_1 false _ A3.out).mono ?_); rintro e w125 ⟨rfl, hb⟩; have n0_ := Aside0.mk (blk_below (g := gb111) (o := .cells #[.int .i64 a1_0, .int .i64 a1_1] 26 (0, 0)) (by (with_reducible repeat (first | refine blk_drewN ?_ _ | refine blk_drew ?_ | refine blk_alloc ?_ _)); exact BK111.out) hb); have n1_ := Aside0.mk (below_step (by repeat (first | (with_reducible first | exact HB.out | apply below_alloc | apply pw_below_drewN | apply below_drew1 | refine below_set ?_ GE111.out) | exact HB.out)) hb); clear BK111; clear HB; have BK111 := n0_; have HB := n1_; clear n0_ n1_; (try clear hb); (try clear hb2); (try clear hk); (try clear hi))))
    go_ret2
    exact ⟨_, by first | rfl | (simp [errW_none, errW_some] <;> rfl) | (simp [*, errW_none, errW_some] <;> rfl), by first | exact Kd.S_nil _ _ _ _ _ | exact Kd.N_nil _ _ _ _ _ | exact Kd.V_nil _ _ _ _ _ | exact Kd.Q_nil _ _ _ _ _ | exact Kd.R_nil _ _ _ _ _, by repeat (first | (with_reducible first | exact HB.out | apply below_alloc | apply pw_below_drewN | apply below_drew1 | refine below_set ?_ GE111.out) | exact HB.out)⟩

end Go.Proofs.Ytoojcilbdeiodaa.QForms
