/- ServeFine: a part of the walk of that statement. No conditions. -/
import Derived.Test.YtcejlemdfadbdaaGreatQServex0
import Derived.Test.YtcejlemdfadbdaaGreatQServex1
import Derived.Test.YtcejlemdfadbdaaGreatQServex3
import Derived.Test.YtcejlemdfadbdaaGreatQServex4
import Derived.Test.YtcejlemdfadbdaaGreatQServek
namespace Go.Proofs.YtcejlemdfadbdaaGreat.QServe
open Go.RowKit Go.Proofs.YtcejlemdfadbdaaGreatW.PrintWords Go.Proofs.YtcejlemdfadbdaaGreatW.PrintLast Go.Proofs.YtcejlemdfadbdaaGreatW.PrintMore
attribute [local go_sem] max2_int min2_int max_two min_two max_three min_three max_four min_four   -- for this text's walks alone
set_option linter.unusedVariables false
set_option linter.unusedSimpArgs false

/-! ### abaculuslaw40_ServeFine: function 3 -/
mutual
def abaculuslaw40_ServeFine.j1 : Nat → Int → Int → Int → Int → Int → Int → Int → Int → ByteArray → List (S36) → Option (Bool)
  | 0, _, _, _, _, _, _, _, _, _, _ => none
  | k + 1, x0, x1, x2, x3, x156000, x156001, x156002, x156003, x156004, x156006 => (abaculushand_Pick.f x0 8).bind fun t169 => ((abaculushand_Pick.f x1 2147483648).bind fun t170 => ((abaculushand_Pick.f x2 2147483648).bind fun t171 => ((abaculushand_Pick.f x3 2147483648).bind fun t172 => ((abaculuslaw40_known.f k).bind fun t173 => (if t173 = true then ((serve_Fine.f k x156000 x156001 x156002 x156003 x156004 ([] : List Int) x156006).bind fun t174 => ((abaculusshelf_Fine.f k x156000 x156001 x156002 x156003 x156004 ([] : List Int) x156006).bind fun t175 => (if (t174 == t175) = true then ((serve_Fine.f k t169 t170 t171 t172 x156004 ([] : List Int) x156006).bind fun t176 => ((abaculusshelf_Fine.f k t169 t170 t171 t172 x156004 ([] : List Int) x156006).bind fun t177 => (some (t176 == t177)))) else (some false)))) else (some false))))))
def abaculuslaw40_ServeFine.l0 : Nat → Int → Int → Int → Int → Int → Int → Int → Bool → Int → Int → Int → Int → Int → ByteArray → List (S36) → Option (Bool)
  | 0, _, _, _, _, _, _, _, _, _, _, _, _, _, _, _ => none
  | k + 1, x0, x1, x2, x3, x5, x6, x7, x8, x20, x156000, x156001, x156002, x156003, x156004, x156006 => (abaculushand_Pick.f x7 24).bind fun t156 => (if x20 < t156 then ((abaculushand_Pick.f x6 3).bind fun t157 => ((frac_Of.f k t157).bind fun bt158 => (if x156006.length < 1954687338268 then (abaculuslaw40_ServeFine.l0 k x0 x1 x2 x3 x5 x6 x7 x8 (wrap64 (x20 + 1)) x156000 x156001 x156002 x156003 x156004 (x156006 ++ [(⟨x8, (⟨(⟨bt158.1, (⟨bt158.2.1⟩ : S29)⟩ : S31), (⟨bt158.2.2⟩ : S29)⟩ : S33), x5⟩ : S36)])) else (none)))) else (abaculuslaw40_ServeFine.j1 k x0 x1 x2 x3 x156000 x156001 x156002 x156003 x156004 x156006))
end
def abaculuslaw40_ServeFine.f (k : Nat) (a0 : Int) (a1 : Int) (a2 : Int) (a3 : Int) (a4 : ByteArray) (a5 : Int) (a6 : Int) (a7 : Int) (a8 : Bool) : Option (Bool) := if a0 = 4 then (abaculuslaw40_ServeFine.l0 k a0 a1 a2 a3 a5 a6 a7 a8 0 a0 a1 a2 a3 a4 ([] : List (S36))) else (abaculuslaw40_ServeFine.j1 k a0 a1 a2 a3 a0 a1 a2 a3 a4 ([] : List (S36)))
theorem abaculuslaw40_ServeFine.mono_l : ∀ k, (∀ y0 y1 y2 y3 y4 y5 y6 y7 y8 y9, LeO (abaculuslaw40_ServeFine.j1 k y0 y1 y2 y3 y4 y5 y6 y7 y8 y9) (abaculuslaw40_ServeFine.j1 (k + 1) y0 y1 y2 y3 y4 y5 y6 y7 y8 y9)) ∧ (∀ y0 y1 y2 y3 y4 y5 y6 y7 y8 y9 y10 y11 y12 y13 y14, LeO (abaculuslaw40_ServeFine.l0 k y0 y1 y2 y3 y4 y5 y6 y7 y8 y9 y10 y11 y12 y13 y14) (abaculuslaw40_ServeFine.l0 (k + 1) y0 y1 y2 y3 y4 y5 y6 y7 y8 y9 y10 y11 y12 y13 y14))
  | 0 => ⟨fun _ _ _ _ _ _ _ _ _ _ r h => by simp [abaculuslaw40_ServeFine.j1] at h, fun _ _ _ _ _ _ _ _ _ _ _ _ _ _ _ r h => by simp [abaculuslaw40_ServeFine.l0] at h⟩
  | k + 1 => by
    obtain ⟨ih0, ih1⟩ := abaculuslaw40_ServeFine.mono_l k
    refine ⟨?_, ?_⟩
    · intro y0 y1 y2 y3 y4 y5 y6 y7 y8 y9
      unfold abaculuslaw40_ServeFine.j1
      repeat' first
      | (with_reducible exact ih0 _ _ _ _ _ _ _ _ _ _)
      | (with_reducible exact ih1 _ _ _ _ _ _ _ _ _ _ _ _ _ _ _)
      | (with_reducible exact abaculuslaw40_known.mono _)
      | (with_reducible exact abaculusshelf_Fine.mono _ _ _ _ _ _ _ _)
      | (with_reducible exact frac_Of.mono _ _)
      | (with_reducible exact serve_Fine.mono _ _ _ _ _ _ _ _)
      | (with_reducible exact LeO.refl _)
      | (with_reducible exact LeO.none _)
      | (with_reducible refine LeO.ite ?_ ?_)
      | (with_reducible refine LeO.bind ?_ (fun _ => ?_))
      | exact ih0 _ _ _ _ _ _ _ _ _ _
      | exact ih1 _ _ _ _ _ _ _ _ _ _ _ _ _ _ _
      | exact abaculuslaw40_known.mono _
      | exact abaculusshelf_Fine.mono _ _ _ _ _ _ _ _
      | exact frac_Of.mono _ _
      | exact serve_Fine.mono _ _ _ _ _ _ _ _
      | exact LeO.none _
      | refine LeO.ite ?_ ?_
      | refine LeO.bind ?_ (fun _ => ?_)
    · intro y0 y1 y2 y3 y4 y5 y6 y7 y8 y9 y10 y11 y12 y13 y14
      unfold abaculuslaw40_ServeFine.l0
      repeat' first
      | (with_reducible exact ih0 _ _ _ _ _ _ _ _ _ _)
      | (with_reducible exact ih1 _ _ _ _ _ _ _ _ _ _ _ _ _ _ _)
      | (with_reducible exact abaculuslaw40_known.mono _)
      | (with_reducible exact abaculusshelf_Fine.mono _ _ _ _ _ _ _ _)
      | (with_reducible exact frac_Of.mono _ _)
      | (with_reducible exact serve_Fine.mono _ _ _ _ _ _ _ _)
      | (with_reducible exact LeO.refl _)
      | (with_reducible exact LeO.none _)
      | (with_reducible refine LeO.ite ?_ ?_)
      | (with_reducible refine LeO.bind ?_ (fun _ => ?_))
      | exact ih0 _ _ _ _ _ _ _ _ _ _
      | exact ih1 _ _ _ _ _ _ _ _ _ _ _ _ _ _ _
      | exact abaculuslaw40_known.mono _
      | exact abaculusshelf_Fine.mono _ _ _ _ _ _ _ _
      | exact frac_Of.mono _ _
      | exact serve_Fine.mono _ _ _ _ _ _ _ _
      | exact LeO.none _
      | refine LeO.ite ?_ ?_
      | refine LeO.bind ?_ (fun _ => ?_)
theorem abaculuslaw40_ServeFine.mono : ∀ a0 a1 a2 a3 a4 a5 a6 a7 a8 k, LeO (abaculuslaw40_ServeFine.f k a0 a1 a2 a3 a4 a5 a6 a7 a8) (abaculuslaw40_ServeFine.f (k + 1) a0 a1 a2 a3 a4 a5 a6 a7 a8) := by
  intro a0 a1 a2 a3 a4 a5 a6 a7 a8 k
  obtain ⟨ih0, ih1⟩ := abaculuslaw40_ServeFine.mono_l k
  unfold abaculuslaw40_ServeFine.f
  repeat' first
      | (with_reducible exact ih0 _ _ _ _ _ _ _ _ _ _)
      | (with_reducible exact ih1 _ _ _ _ _ _ _ _ _ _ _ _ _ _ _)
      | (with_reducible exact abaculuslaw40_known.mono _)
      | (with_reducible exact abaculusshelf_Fine.mono _ _ _ _ _ _ _ _)
      | (with_reducible exact frac_Of.mono _ _)
      | (with_reducible exact serve_Fine.mono _ _ _ _ _ _ _ _)
      | (with_reducible exact LeO.refl _)
      | (with_reducible exact LeO.none _)
      | (with_reducible refine LeO.ite ?_ ?_)
      | (with_reducible refine LeO.bind ?_ (fun _ => ?_))
      | exact ih0 _ _ _ _ _ _ _ _ _ _
      | exact ih1 _ _ _ _ _ _ _ _ _ _ _ _ _ _ _
      | exact abaculuslaw40_known.mono _
      | exact abaculusshelf_Fine.mono _ _ _ _ _ _ _ _
      | exact frac_Of.mono _ _
      | exact serve_Fine.mono _ _ _ _ _ _ _ _
      | exact LeO.none _
      | refine LeO.ite ?_ ?_
      | refine LeO.bind ?_ (fun _ => ?_)
def abaculuslaw40_ServeFine.T6 : Bool × List (List Nat × List Nat) := (true, [([], []), ([0], [0]), ([], []), ([], []), ([], []), ([4], [4]), ([5, 5], [5]), ([2, 3, 6], [2, 3, 6]), ([7], [7]), ([1, 8, 6], [1, 8]), ([0, 1, 2, 3, 4, 5, 6, 7, 8, 9], []), ([10, 9, 9, 0, 1, 2, 3, 4, 5, 6, 7, 8, 9], [9, 10])])
def abaculuslaw40_ServeFine.B6 : List Nat := [0, 1, 0, 0, 0, 16, 48, 124, 252, 511, 1023, 2047]
theorem abaculuslaw40_ServeFine.tab6 : rtab .any (opsOf Tryz.f3 6) = abaculuslaw40_ServeFine.T6 := by kernel_rfl
theorem abaculuslaw40_ServeFine.bits6 : waitsOk abaculuslaw40_ServeFine.T6.2 abaculuslaw40_ServeFine.B6 = true := by kernel_rfl
def abaculuslaw40_ServeFine.T9 : Bool × List (List Nat × List Nat) := (true, [([], []), ([0, 0], [0]), ([1], [1]), ([2, 1, 1], [1, 2]), ([1], [1]), ([4, 3, 1], [1, 4]), ([3, 5, 1], [1, 3, 5]), ([1, 6], [1, 6]), ([7, 5], [7]), ([8], [8]), ([9, 8, 8], [8, 9]), ([8], [8]), ([11, 10, 8], [8, 11]), ([10, 12, 8], [8, 10, 12]), ([8, 13], [8, 13]), ([14, 12, 0, 1, 2, 3, 4, 5, 6, 7, 8, 9, 10, 11, 12, 13, 14], [14])])
def abaculuslaw40_ServeFine.B9 : List Nat := [0, 1, 3, 7, 3, 31, 63, 127, 255, 511, 1023, 511, 4095, 8191, 16383, 32767]
theorem abaculuslaw40_ServeFine.tab9 : rtab .any (opsOf Tryz.f3 9) = abaculuslaw40_ServeFine.T9 := by kernel_rfl
theorem abaculuslaw40_ServeFine.bits9 : waitsOk abaculuslaw40_ServeFine.T9.2 abaculuslaw40_ServeFine.B9 = true := by kernel_rfl
set_option maxHeartbeats 8000000 in
set_option maxRecDepth 100000 in
theorem abaculuslaw40_ServeFine.calls (k : Nat) (a0 : Int) (a1 : Int) (a2 : Int) (a3 : Int) (a4 : ByteArray) (a5 : Int) (a6 : Int) (a7 : Int) (a8 : Bool) (r : Bool) (w : World) (hr0 : r = true) (h : abaculuslaw40_ServeFine.f k a0 a1 a2 a3 a4 a5 a6 a7 a8 = some r) :
    Calls Tryz.prog 3 #[.int .i64 a0, .int .i64 a1, .int .i64 a2, .int .i64 a3, .string a4, .int .i64 a5, .int .i64 a6, .int .i64 a7, .bool a8] w fun e w' => e = .returned (.bool r) ∧ Below w.heap.size w w' := by
  have hu25 := Tryz.underlying25
  have hu36 := Tryz.underlying36
  have HB := Aside0.mk (Below.refl w.heap.size w)
  have H : (if a0 = 4 then (abaculuslaw40_ServeFine.l0 k a0 a1 a2 a3 a5 a6 a7 a8 0 a0 a1 a2 a3 a4 ([] : List (S36))) else (abaculuslaw40_ServeFine.j1 k a0 a1 a2 a3 a0 a1 a2 a3 a4 ([] : List (S36)))) = some r := h
  clear h
  have HC10 := Aside0.mk H
  clear H
  go_enter Tryz.func3, Tryz.ntmps3
  go_upto_if 29 with (first | ((with_reducible refine gate_dst (N := 19) rfl ?_); refine box_event ?hg (N := 19) ?hd (cs := #[.int .i64 0, .int .i64 0, .int .i64 0, .int .i64 0, .string (⟨#[]⟩ : ByteArray), .slice none 0 0, .slice none 0 0]) (t := 25) ?hr ?_; (case hd => rfl); (case hg => rfl); (case hr => first | (go_simp; done) | (go_simp; rfl)); intro gb155 hg w11 hbox hb; have n0_ := Aside0.mk (below_step (by repeat (first | (with_reducible first | exact HB.out | apply below_alloc | apply pw_below_drewN | apply below_drew1) | exact HB.out)) hb); have n1_ := Aside0.mk (hbox); have n2_ := Aside0.mk ((by rw [hg]; exact (below_size (by repeat (first | (with_reducible first | exact HB.out | apply below_alloc | apply pw_below_drewN | apply below_drew1) | exact HB.out))) : w.heap.size ≤ gb155)); have n3_ := Aside0.mk ((by rw [hg]; exact (below_size (by repeat (first | (with_reducible first | exact HB.out | apply below_alloc | apply pw_below_drewN | apply below_drew1) | exact HB.out))) : w.heap.size ≤ gb155)); clear HB; have HB := n0_; have BK155 := n1_; have GW155 := n2_; have GE155 := n3_; clear n0_ n1_ n2_ n3_; clear hb hbox hg; have hcz12_0 : w11.cell? ⟨gb155, 0, none⟩ = some (.int .i64 0) := (blk_cell BK155.out 0).trans rfl; have hcz12_1 : w11.cell? ⟨gb155, 1, none⟩ = some (.int .i64 0) := (blk_cell BK155.out 1).trans rfl; have hcz12_2 : w11.cell? ⟨gb155, 2, none⟩ = some (.int .i64 0) := (blk_cell BK155.out 2).trans rfl; have hcz12_3 : w11.cell? ⟨gb155, 3, none⟩ = some (.int .i64 0) := (blk_cell BK155.out 3).trans rfl; have hcz12_4 : w11.cell? ⟨gb155, 4, none⟩ = some (.string (⟨#[]⟩ : ByteArray)) := (blk_cell BK155.out 4).trans rfl; have hcz12_5 : w11.cell? ⟨gb155, 5, none⟩ = some (.slice none 0 0) := (blk_cell BK155.out 5).trans rfl; have hcz12_6 : w11.cell? ⟨gb155, 6, none⟩ = some (.slice none 0 0) := (blk_cell BK155.out 6).trans rfl; have hfz12_0 := blk_frozen BK155.out 0; have hfz12_1 := blk_frozen BK155.out 1; have hfz12_2 := blk_frozen BK155.out 2; have hfz12_3 := blk_frozen BK155.out 3; have hfz12_4 := blk_frozen BK155.out 4; have hfz12_5 := blk_frozen BK155.out 5; have hfz12_6 := blk_frozen BK155.out 6))
  (try simp only [Act.put, List.setIfInBounds_toArray, List.set_cons_zero, List.set_cons_succ])
  go_cut [] (fun wc => ∃ (kq : Nat) (x156006_9 : List (S36)) (u156006 : Value), Aside0 (abaculuslaw40_ServeFine.j1 kq a0 a1 a2 a3 a0 a1 a2 a3 a4 x156006_9 = some r) ∧ Aside0 (kq ≤ k) ∧ Aside0 (Kd.N k36 36 wc w.heap.size (fun k_ => k_ ≠ gb155) u156006 x156006_9) ∧ Aside0 (wc.heap[gb155]? = some (.cells #[.int .i64 a0, .int .i64 a1, .int .i64 a2, .int .i64 a3, .string a4, (.slice none 0 0), u156006] 25 (0, 0))) ∧ Aside0 (Below w.heap.size w wc))
  case first =>
    have H := HC10.out
    clear HC10
    by_cases c13 : a0 = 4
    · rw [if_pos c13] at H
      have c13b0 : (a0 == 4) = true := beq_iff_eq.mpr c13
      have c13b1 : (a0 != 4) = false := bne_eq_false_iff_eq.mpr c13
      clear c13
      (first | rw [c13b0] | (simp only [i64_w, i32_w]; rw [c13b0]) | skip)
      have H' := Aside0.mk H
      clear H
      go_wp2
      go_loopg [20] k (fun kq v20 w' => ∃ (x20_1 : Int) (x156006_1 : List (S36)) (u156006 : Value), v20 = .int .i64 x20_1 ∧ Aside0 (abaculuslaw40_ServeFine.l0 kq a0 a1 a2 a3 a5 a6 a7 a8 x20_1 a0 a1 a2 a3 a4 x156006_1 = some r) ∧ Aside0 (kq ≤ k) ∧ Aside0 (Kd.N k36 36 w' w.heap.size (fun k_ => k_ ≠ gb155) u156006 x156006_1) ∧ Aside0 (w'.heap[gb155]? = some (.cells #[.int .i64 a0, .int .i64 a1, .int .i64 a2, .int .i64 a3, .string a4, (.slice none 0 0), u156006] 25 (0, 0))) ∧ Aside0 (Below w.heap.size w w'))
      case atStart => exact ⟨(0), (([] : List (S36))), (.slice none 0 0), (by first | rfl | (simp; done) | (simp [*]; done)), H', ⟨Nat.le_refl _⟩, ⟨by first | exact Kd.S_nil _ _ _ _ _ | exact Kd.N_nil _ _ _ _ _ | exact Kd.V_nil _ _ _ _ _ | exact Kd.Q_nil _ _ _ _ _ | exact Kd.R_nil _ _ _ _ _⟩, ⟨by (with_reducible repeat (first | refine blk_drewN ?_ _ | refine blk_drew ?_ | refine blk_alloc ?_ _)); refine blk_put (cs := #[.int .i64 a0, .int .i64 a1, .int .i64 a2, .int .i64 a3, .string a4, .slice none 0 0, .slice none 0 0]) ?_ 6 _ rfl; (with_reducible repeat (first | refine blk_drewN ?_ _ | refine blk_drew ?_ | refine blk_alloc ?_ _)); refine blk_put (cs := #[.int .i64 a0, .int .i64 a1, .int .i64 a2, .int .i64 a3, .string a4, .slice none 0 0, .slice none 0 0]) ?_ 5 _ rfl; (with_reducible repeat (first | refine blk_drewN ?_ _ | refine blk_drew ?_ | refine blk_alloc ?_ _)); refine blk_put (cs := #[.int .i64 a0, .int .i64 a1, .int .i64 a2, .int .i64 a3, .string (⟨#[]⟩ : ByteArray), .slice none 0 0, .slice none 0 0]) ?_ 4 _ rfl; (with_reducible repeat (first | refine blk_drewN ?_ _ | refine blk_drew ?_ | refine blk_alloc ?_ _)); refine blk_put (cs := #[.int .i64 a0, .int .i64 a1, .int .i64 a2, .int .i64 0, .string (⟨#[]⟩ : ByteArray), .slice none 0 0, .slice none 0 0]) ?_ 3 _ rfl; (with_reducible repeat (first | refine blk_drewN ?_ _ | refine blk_drew ?_ | refine blk_alloc ?_ _)); refine blk_put (cs := #[.int .i64 a0, .int .i64 a1, .int .i64 0, .int .i64 0, .string (⟨#[]⟩ : ByteArray), .slice none 0 0, .slice none 0 0]) ?_ 2 _ rfl; (with_reducible repeat (first | refine blk_drewN ?_ _ | refine blk_drew ?_ | refine blk_alloc ?_ _)); refine blk_put (cs := #[.int .i64 a0, .int .i64 0, .int .i64 0, .int .i64 0, .string (⟨#[]⟩ : ByteArray), .slice none 0 0, .slice none 0 0]) ?_ 1 _ rfl; (with_reducible repeat (first | refine blk_drewN ?_ _ | refine blk_drew ?_ | refine blk_alloc ?_ _)); refine blk_put (cs := #[.int .i64 0, .int .i64 0, .int .i64 0, .int .i64 0, .string (⟨#[]⟩ : ByteArray), .slice none 0 0, .slice none 0 0]) ?_ 0 _ rfl; (with_reducible repeat (first | refine blk_drewN ?_ _ | refine blk_drew ?_ | refine blk_alloc ?_ _)); exact BK155.out⟩, ⟨by repeat (first | (with_reducible first | exact HB.out | apply below_alloc | apply pw_below_drewN | apply below_drew1 | refine below_set ?_ GE155.out) | exact HB.out)⟩⟩
      case round =>
        clear H'
        try clear c1
        try clear p2
        try clear c3
        try clear c13
        try clear c13b0
        try clear c13b1
        try clear hcz12_0
        try clear hcz12_1
        try clear hcz12_2
        try clear hcz12_3
        try clear hcz12_4
        try clear hcz12_5
        try clear hcz12_6
        try clear hfz12_0
        try clear hfz12_1
        try clear hfz12_2
        try clear hfz12_3
        try clear hfz12_4
        try clear hfz12_5
        try clear hfz12_6
        obtain ⟨x20_1, x156006_1, u156006, rfl, HA, HK1, HO_156006, BK155, HB⟩ := hrel
        cases gk with
        | zero => exact absurd HA.out (by simp [abaculuslaw40_ServeFine.l0])
        | succ k1 =>
          have H := HA.out
          clear HA
          simp only [abaculuslaw40_ServeFine.l0] at H
          replace H := Option.bind_eq_some_iff.mp H
          obtain ⟨t156, A140, H⟩ := H
          replace H : (if x20_1 < t156 then ((abaculushand_Pick.f a6 3).bind fun t157 => ((frac_Of.f k1 t157).bind fun bt158 => (if x156006_1.length < 1954687338268 then (abaculuslaw40_ServeFine.l0 k1 a0 a1 a2 a3 a5 a6 a7 a8 (wrap64 (x20_1 + 1)) a0 a1 a2 a3 a4 (x156006_1 ++ [(⟨a8, (⟨(⟨bt158.1, (⟨bt158.2.1⟩ : S29)⟩ : S31), (⟨bt158.2.2⟩ : S29)⟩ : S33), a5⟩ : S36)])) else (none)))) else (abaculuslaw40_ServeFine.j1 k1 a0 a1 a2 a3 a0 a1 a2 a3 a4 x156006_1)) = some r := H
          have A14 := Aside0.mk A140
          clear A140
          by_cases c15 : x20_1 < t156
          · rw [if_pos c15] at H
            have c15b0 : decide (x20_1 < t156) = true := decide_eq_true c15
            clear c15
            replace H := Option.bind_eq_some_iff.mp H
            obtain ⟨t157, A160, H⟩ := H
            replace H : ((frac_Of.f k1 t157).bind fun bt158 => (if x156006_1.length < 1954687338268 then (abaculuslaw40_ServeFine.l0 k1 a0 a1 a2 a3 a5 a6 a7 a8 (wrap64 (x20_1 + 1)) a0 a1 a2 a3 a4 (x156006_1 ++ [(⟨a8, (⟨(⟨bt158.1, (⟨bt158.2.1⟩ : S29)⟩ : S31), (⟨bt158.2.2⟩ : S29)⟩ : S33), a5⟩ : S36)])) else (none))) = some r := H
            have A16 := Aside0.mk A160
            clear A160
            replace H := Option.bind_eq_some_iff.mp H
            obtain ⟨⟨t158, t159, t162⟩, A170, H⟩ := H
            replace H : (if x156006_1.length < 1954687338268 then (abaculuslaw40_ServeFine.l0 k1 a0 a1 a2 a3 a5 a6 a7 a8 (wrap64 (x20_1 + 1)) a0 a1 a2 a3 a4 (x156006_1 ++ [(⟨a8, (⟨(⟨t158, (⟨t159⟩ : S29)⟩ : S31), (⟨t162⟩ : S29)⟩ : S33), a5⟩ : S36)])) else (none)) = some r := H
            have A17 := Aside0.mk A170
            clear A170
            by_cases c18 : x156006_1.length < 1954687338268
            · rw [if_pos c18] at H
              have LMc18 := Aside0.mk c18
              clear c18
              obtain ⟨y165, hy165⟩ : ∃ y_ : List (S36), y_ = (x156006_1 ++ [(⟨a8, (⟨(⟨t158, (⟨t159⟩ : S29)⟩ : S31), (⟨t162⟩ : S29)⟩ : S33), a5⟩ : S36)]) := ⟨_, rfl⟩
              replace H : (abaculuslaw40_ServeFine.l0 k1 a0 a1 a2 a3 a5 a6 a7 a8 (wrap64 (x20_1 + 1)) a0 a1 a2 a3 a4 y165) = some r := by first | (rw [hy165]; with_reducible exact H) | (have H2_ := (Option.bind_some _ _).symm.trans H; rw [hy165]; with_reducible exact H2_) | (have H2_ := (Option.bind_some _ _).symm.trans H; with_reducible exact H2_) | with_reducible exact H | (rw [hy165]; exact H) | exact H
              have Ny165 := Aside0.mk hy165
              clear hy165
              have H' := Aside0.mk H
              clear H
              try go_wp2_with (first | ((with_reducible refine gate_callee (f := 4) rfl ?_); refine goesL_ (some 32) rfl rfl Tryz.func4 (by kernel_rfl) rfl #[.int .i64 a7, .int .i64 24] rfl (by (try simp only [List.map_toArray, List.map_cons, List.map_nil]); first | done | rfl | (simp only [List.length_drop, List.length_take]; rfl)) ?_; (with_reducible refine (abaculushand_Pick.calls a7 24 t156 _ A14.out).mono ?_); rintro e w' ⟨rfl, ⟨nd, rfl⟩⟩; refine ⟨_, rfl, ?_⟩; (try (rw [drewN_self wr]; generalize hq_ : World.drewN wr _ = wr; have n0_ : Aside0 (Kd.N k36 36 wr w.heap.size (fun k_ => k_ ≠ gb155) u156006 x156006_1) := ⟨by rw [← hq_]; exact (by (with_reducible repeat (first | apply Kd.N_alloc | apply Kd.N_drewN | apply Kd.N_drew)); exact HO_156006.out)⟩; have n1_ : Aside0 (wr.heap[gb155]? = some (.cells #[.int .i64 a0, .int .i64 a1, .int .i64 a2, .int .i64 a3, .string a4, .slice none 0 0, u156006] 25 (0, 0))) := ⟨by rw [← hq_]; exact (by (with_reducible repeat (first | refine blk_drewN ?_ _ | refine blk_drew ?_ | refine blk_alloc ?_ _)); exact BK155.out)⟩; have n2_ : Aside0 (Below w.heap.size w wr) := ⟨by rw [← hq_]; exact (by repeat (first | (with_reducible first | exact HB.out | apply below_alloc | apply pw_below_drewN | apply below_drew1 | refine below_set ?_ GE155.out) | exact HB.out))⟩; clear HO_156006 BK155 HB hq_; have HO_156006 := n0_; have BK155 := n1_; have HB := n2_; clear n0_ n1_ n2_))))
              have n0_ := Aside0.mk (Kd.N_drew HO_156006.out)
              have n1_ := Aside0.mk (blk_drew BK155.out)
              have n2_ := Aside0.mk (below_drew1 HB.out)
              clear HO_156006
              clear BK155
              clear HB
              have HO_156006 := n0_
              have BK155 := n1_
              have HB := n2_
              clear n0_ n1_ n2_
              refine start_ (n := 12) (S := fun w' => w'.cell? ⟨gb155, 0, none⟩ = some (.int .i64 a0) ∧ w'.cell? ⟨gb155, 1, none⟩ = some (.int .i64 a1) ∧ w'.cell? ⟨gb155, 2, none⟩ = some (.int .i64 a2) ∧ w'.cell? ⟨gb155, 3, none⟩ = some (.int .i64 a3) ∧ w'.cell? ⟨gb155, 4, none⟩ = some (.string a4) ∧ w'.cell? ⟨gb155, 5, none⟩ = some (.slice none 0 0) ∧ w'.cell? ⟨gb155, 6, none⟩ = some (u156006)) (ds := [11]) #[false, false, false, false, false, false, false, false, false, false, false, false] (by kernel_rfl) rfl rfl ⟨(blk_cell BK155.out 0).trans rfl, (blk_cell BK155.out 1).trans rfl, (blk_cell BK155.out 2).trans rfl, (blk_cell BK155.out 3).trans rfl, (blk_cell BK155.out 4).trans rfl, (blk_cell BK155.out 5).trans rfl, (blk_cell BK155.out 6).trans rfl⟩ (fun hHeld => ?_); refine with_tabW abaculuslaw40_ServeFine.tab6 abaculuslaw40_ServeFine.bits6 (fun HT_ HW_ => ?_)
              generalize wr.drew = w19 at HO_156006 BK155 HB hHeld ⊢
              refine pure_ (i := 0) (N := some 36) (v := ?_) (a' := ?_) #[true, false, false, false, false, false, false, false, false, false, false, false] rfl rfl (any_of HT_.out (by kernel_rfl)) (fun _ _ _ h => h) (Or.inl ⟨by rfl, ?_⟩) ?_ ?_
              rotate_left
              · intro w'
                go_simp
                with_reducible rfl
              rotate_left
              · simp only [Act.put, List.setIfInBounds_toArray, List.set_cons_zero, List.set_cons_succ, i64_w, i32_w]
                rfl
              refine pure_ (i := 2) (N := some 38) (v := ?_) (a' := ?_) #[true, false, true, false, false, false, false, false, false, false, false, false] rfl rfl (any_of HT_.out (by kernel_rfl)) (fun _ _ _ h => h) (Or.inl ⟨by rfl, ?_⟩) ?_ ?_
              rotate_left
              · intro w'
                go_simp
                with_reducible rfl
              rotate_left
              · simp only [Act.put, List.setIfInBounds_toArray, List.set_cons_zero, List.set_cons_succ, i64_w, i32_w]
                rfl
              refine pure_ (i := 3) (N := some 39) (v := ?_) (a' := ?_) #[true, false, true, true, false, false, false, false, false, false, false, false] rfl rfl (any_of HT_.out (by kernel_rfl)) (fun _ _ _ h => h) (Or.inl ⟨by rfl, ?_⟩) ?_ ?_
              rotate_left
              · intro w'
                go_simp
                with_reducible rfl
              rotate_left
              · simp only [Act.put, List.setIfInBounds_toArray, List.set_cons_zero, List.set_cons_succ, i64_w, i32_w]
                rfl
              refine pure_ (i := 4) (N := some 40) (v := ?_) (a' := ?_) #[true, false, true, true, true, false, false, false, false, false, false, false] rfl rfl (any_of HT_.out (by kernel_rfl)) (fun _ _ _ h => h) (Or.inl ⟨by rfl, ?_⟩) ?_ ?_
              rotate_left
              · intro w'
                go_simp
                with_reducible rfl
              rotate_left
              · simp only [Act.put, List.setIfInBounds_toArray, List.set_cons_zero, List.set_cons_succ, i64_w, i32_w]
                rfl
              refine take_ (i := 1) (N := some 37) (v := ?_) (a' := ?_) #[true, true, true, true, true, false, false, false, false, false, false, false] rfl rfl (take_ofW HT_.out HW_.out (by kernel_rfl)) (fun _ _ _ h => h) (Or.inl ⟨by rfl, ?_⟩) hHeld ?_ ?_
              rotate_left
              · rintro w' ⟨s0, s1, s2, s3, s4, s5, s6⟩
                go_simp
                with_reducible rfl
              rotate_left
              · simp only [Act.put, List.setIfInBounds_toArray, List.set_cons_zero, List.set_cons_succ, i64_w, i32_w]
                rfl
              refine one_ (i := 5) (N := some 41) #[true, true, true, true, true, true, false, false, false, false, false, false] rfl rfl (one_of HT_.out (by kernel_rfl)) (by decide) (fun K hK => ?_)
              refine goes_ Tryz.func4 (by kernel_rfl) rfl #[.int .i64 a6, .int .i64 3] (by rfl) rfl rfl (by (try simp only [List.map_toArray, List.map_cons, List.map_nil]); first | done | rfl | (simp only [List.length_drop, List.length_take]; rfl)) ?_
              with_reducible refine (abaculushand_Pick.calls a6 3 t157 _ A16.out).mono ?_
              rintro e w' ⟨rfl, ⟨nd, rfl⟩⟩
              refine ⟨_, rfl, ?_⟩
              refine hK.out _ _ ⟨(blk_cell BK155.out 0).trans rfl, (blk_cell BK155.out 1).trans rfl, (blk_cell BK155.out 2).trans rfl, (blk_cell BK155.out 3).trans rfl, (blk_cell BK155.out 4).trans rfl, (blk_cell BK155.out 5).trans rfl, (blk_cell BK155.out 6).trans rfl⟩ (fun hHeld => ?_)
              clear hK K
              refine norm_ (a' := ?_) ?_ ?_
              rotate_left
              · show Act.put _ (some 41) _ = _
                simp only [Act.put, List.setIfInBounds_toArray, List.set_cons_zero, List.set_cons_succ, i64_w, i32_w]
                rfl
              refine one_ (i := 6) (N := some 42) #[true, true, true, true, true, true, true, false, false, false, false, false] rfl rfl (one_of HT_.out (by kernel_rfl)) (by decide) (fun K hK => ?_)
              refine goes_ Tryz.func5 (by kernel_rfl) rfl #[.int .i64 t157] (by rfl) rfl rfl (by (try simp only [List.map_toArray, List.map_cons, List.map_nil]); first | done | rfl | (simp only [List.length_drop, List.length_take]; rfl)) ?_
              with_reducible refine (frac_Of.calls k1 t157 t158 t159 t162 _ A17.out).mono ?_
              rintro e w20 ⟨v160, v163, rfl, ho0, ho1, hb⟩
              refine ⟨_, rfl, ?_⟩
              have n0_ := Aside0.mk (Kd.N_elder' (by (with_reducible repeat (first | apply Kd.N_alloc | apply Kd.N_drewN | apply Kd.N_drew)); exact HO_156006.out) (Kd.R_base ho1) hb)
              have n1_ := Aside0.mk (Kd.V_lower (Kd.V_mono (ok' := fun k_ => some k_ ≠ (v163 : Value).ownBlock ∧ some k_ ≠ (u156006 : Value).ownBlock ∧ k_ ≠ gb155) ho0 (fun k_ hk_ => ⟨hk_.2, (Kd.fresh' (Kd.N_lt (by (with_reducible repeat (first | apply Kd.N_alloc | apply Kd.N_drewN | apply Kd.N_drew)); exact HO_156006.out)) k_ hk_.1), (Kd.freshB (g := gb155) (o := .cells #[.int .i64 a0, .int .i64 a1, .int .i64 a2, .int .i64 a3, .string a4, .slice none 0 0, u156006] 25 (0, 0)) (by (with_reducible repeat (first | refine blk_drewN ?_ _ | refine blk_drew ?_ | refine blk_alloc ?_ _)); exact BK155.out) k_ hk_.1)⟩)) (below_size (by repeat (first | (with_reducible first | exact HB.out | apply below_alloc | apply pw_below_drewN | apply below_drew1 | refine below_set ?_ GE155.out) | exact HB.out))))
              have n2_ := Aside0.mk (Kd.R_lower (Kd.R_mono (ok' := fun k_ => True) ho1 (fun _ hk_ => trivial)) (below_size (by repeat (first | (with_reducible first | exact HB.out | apply below_alloc | apply pw_below_drewN | apply below_drew1 | refine below_set ?_ GE155.out) | exact HB.out))))
              have n3_ := Aside0.mk (blk_below (g := gb155) (o := .cells #[.int .i64 a0, .int .i64 a1, .int .i64 a2, .int .i64 a3, .string a4, .slice none 0 0, u156006] 25 (0, 0)) (by (with_reducible repeat (first | refine blk_drewN ?_ _ | refine blk_drew ?_ | refine blk_alloc ?_ _)); exact BK155.out) hb)
              have n4_ := Aside0.mk (below_step (by repeat (first | (with_reducible first | exact HB.out | apply below_alloc | apply pw_below_drewN | apply below_drew1 | refine below_set ?_ GE155.out) | exact HB.out)) hb)
              clear HO_156006
              clear BK155
              clear HB
              have HO_156006 := n0_
              have HO161 := n1_
              have HO164 := n2_
              have BK155 := n3_
              have HB := n4_
              clear n0_ n1_ n2_ n3_ n4_
              (try clear hb)
              (try clear hb2)
              (try clear hk)
              (try clear hi)
              (try clear ho0)
              (try clear ho1)
              obtain ⟨Ao21, co21, eo21⟩ := Kd.R_slice HO164.out
              (first | subst eo21 | (injection eo21 with f1_ f2_ f3_; have f4_ := f1_.symm; have f5_ := f3_.symm; clear f1_ f2_ f3_; subst f4_; subst f5_))
              obtain ⟨Ao22, co22, eo22⟩ := Kd.V_slice HO161.out
              (first | subst eo22 | (injection eo22 with f1_ f2_ f3_; have f4_ := f1_.symm; have f5_ := f3_.symm; clear f1_ f2_ f3_; subst f4_; subst f5_))
              refine hK.out _ _ ⟨(blk_cell BK155.out 0).trans rfl, (blk_cell BK155.out 1).trans rfl, (blk_cell BK155.out 2).trans rfl, (blk_cell BK155.out 3).trans rfl, (blk_cell BK155.out 4).trans rfl, (blk_cell BK155.out 5).trans rfl, (blk_cell BK155.out 6).trans rfl⟩ (fun hHeld => ?_)
              clear hK K
              refine norm_ (a' := ?_) ?_ ?_
              rotate_left
              · show Act.put _ (some 42) _ = _
                simp only [Act.put, List.setIfInBounds_toArray, List.set_cons_zero, List.set_cons_succ, i64_w, i32_w]
                rfl
              refine pure_ (i := 7) (N := some 43) (v := ?_) (a' := ?_) #[true, true, true, true, true, true, true, true, false, false, false, false] rfl rfl (any_of HT_.out (by kernel_rfl)) (fun _ _ _ h => h) (Or.inl ⟨by rfl, ?_⟩) ?_ ?_
              rotate_left
              · intro w'
                go_simp
                with_reducible rfl
              rotate_left
              · simp only [Act.put, List.setIfInBounds_toArray, List.set_cons_zero, List.set_cons_succ, i64_w, i32_w]
                rfl
              refine one_ (i := 8) (N := some 44) #[true, true, true, true, true, true, true, true, true, false, false, false] rfl rfl (one_of HT_.out (by kernel_rfl)) (by decide) (fun K hK => ?_)
              refine value_ (w1 := ?_) (v := ?_) (by rfl) rfl ?_ ?_
              rotate_left 2
              · go_simp
                constructor
                · rfl
                · rfl
              refine hK.out _ _ ⟨(blk_cell (blk_alloc BK155.out _) 0).trans rfl, (blk_cell (blk_alloc BK155.out _) 1).trans rfl, (blk_cell (blk_alloc BK155.out _) 2).trans rfl, (blk_cell (blk_alloc BK155.out _) 3).trans rfl, (blk_cell (blk_alloc BK155.out _) 4).trans rfl, (blk_cell (blk_alloc BK155.out _) 5).trans rfl, (blk_cell (blk_alloc BK155.out _) 6).trans rfl⟩ (fun hHeld => ?_)
              clear hK K
              refine norm_ (a' := ?_) ?_ ?_
              rotate_left
              · show Act.put _ (some 44) _ = _
                simp only [Act.put, List.setIfInBounds_toArray, List.set_cons_zero, List.set_cons_succ, i64_w, i32_w]
                rfl
              refine one_ (i := 9) (N := some 45) #[true, true, true, true, true, true, true, true, true, true, false, false] rfl rfl (one_of HT_.out (by kernel_rfl)) (by decide) (fun K hK => ?_)
              refine Kd.N_append_step k36 (w0 := w) w.heap.size (by rfl) (.tmp 37) (.tmp 44) 23 36 (.agg #[(.bool false), (.bool false), (.slice none 0 0), (.slice none 0 0), (.int .i64 0)]) 72 rfl Tryz.underlying23 info36 rfl (by decide) (by omega) u156006 x156006_1 (⟨a8, (⟨(⟨t158, (⟨t159⟩ : S29)⟩ : S31), (⟨t162⟩ : S29)⟩ : S33), a5⟩ : S36) [.bool a8, .bool t158, .slice Ao22 t159.length co22, .slice Ao21 t162.length co21, .int .i64 a5] (fun k_ => k_ ≠ gb155) (fun k_ => ((fun k_ => k_ ≠ gb155)) k_ ∧ some k_ ≠ (u156006 : Value).ownBlock) rfl rfl ?aP (fun _ hk => hk) ?aF ?aO ?aB ?aS ?aL ?_
              (case aP => exact (k36_mkF _ _ (⟨a8, (⟨(⟨t158, (⟨t159⟩ : S29)⟩ : S31), (⟨t162⟩ : S29)⟩ : S33), a5⟩ : S36) (Kd.V_reads' (Kd.V_mono (ok' := (fun k_ => ((fun k_ => k_ ≠ gb155)) k_ ∧ some k_ ≠ (u156006 : Value).ownBlock)) (HO161.out) (fun k_ hk => ⟨hk.2.2, hk.2.1⟩))).2.1 (Kd.V_F (Kd.V_mono (ok' := (fun k_ => ((fun k_ => k_ ≠ gb155)) k_ ∧ some k_ ≠ (u156006 : Value).ownBlock)) (HO161.out) (fun k_ hk => ⟨hk.2.2, hk.2.1⟩))) (Kd.R_reads' (Kd.R_mono (ok' := (fun k_ => ((fun k_ => k_ ≠ gb155)) k_ ∧ some k_ ≠ (u156006 : Value).ownBlock)) (Kd.R_types (Kd.R_apart' (HO164.out) (Kd.N_typed HO_156006.out) (by decide)) BK155.out (by decide)) (fun k_ hk => ⟨hk.2, hk.1.2⟩))).2.1 (Kd.R_F (Kd.R_mono (ok' := (fun k_ => ((fun k_ => k_ ≠ gb155)) k_ ∧ some k_ ≠ (u156006 : Value).ownBlock)) (Kd.R_types (Kd.R_apart' (HO164.out) (Kd.N_typed HO_156006.out) (by decide)) BK155.out (by decide)) (fun k_ hk => ⟨hk.2, hk.1.2⟩)))))
              (case aB => exact (by repeat (first | (with_reducible first | exact HB.out | apply below_alloc | apply pw_below_drewN | apply below_drew1 | refine below_set ?_ GE155.out) | exact HB.out)))
              (case aF => exact (fun k_ hk => Kd.freshB (g := gb155) (o := .cells #[.int .i64 a0, .int .i64 a1, .int .i64 a2, .int .i64 a3, .string a4, .slice none 0 0, u156006] 25 (0, 0)) (by (with_reducible repeat (first | refine blk_drewN ?_ _ | refine blk_drew ?_ | refine blk_alloc ?_ _)); exact BK155.out) k_ hk))
              (case aO => exact (by (with_reducible repeat (first | apply Kd.N_alloc | apply Kd.N_drewN | apply Kd.N_drew)); exact Kd.N_mono HO_156006.out (fun _ hk => hk.1)))
              (case aS => exact (below_size (by repeat (first | (with_reducible first | exact HB.out | apply below_alloc | apply pw_below_drewN | apply below_drew1 | refine below_set ?_ GE155.out) | exact HB.out))))
              (case aL => have := LMc18.out; omega)
              intro v166 w23 ho hb hg hat
              rw [← Ny165.out] at ho
              have n0_ := Aside0.mk (blk_grown (g := gb155) (o := .cells #[.int .i64 a0, .int .i64 a1, .int .i64 a2, .int .i64 a3, .string a4, .slice none 0 0, u156006] 25 (0, 0)) (by (with_reducible repeat (first | refine blk_drewN ?_ _ | refine blk_drew ?_ | refine blk_alloc ?_ _)); exact BK155.out) hg (Kd.N_ne HO_156006.out BK155.out (by decide)))
              have n1_ := Aside0.mk (Kd.V_afterv (ok := (fun k_ => some k_ ≠ (.slice Ao21 t162.length co21 : Value).ownBlock ∧ k_ ≠ gb155)) (by (with_reducible repeat (first | apply Kd.V_alloc | apply Kd.V_drewN | apply Kd.V_drew)); exact Kd.V_mono HO161.out (fun _ hk => ⟨⟨hk.1, hk.2.2⟩, hk.2.1⟩)) hg hat)
              have n2_ := Aside0.mk (hb)
              have n3_ := Aside0.mk (ho)
              clear BK155
              clear HO161
              clear HB
              clear HO_156006
              clear HO164
              have BK155 := n0_
              have HO161 := n1_
              have HB := n2_
              have HO167 := n3_
              clear n0_ n1_ n2_ n3_
              clear ho hb hg hat
              obtain ⟨Ao24, co24, eo24⟩ := Kd.N_slice HO167.out
              (first | subst eo24 | (injection eo24 with f1_ f2_ f3_; have f4_ := f1_.symm; have f5_ := f3_.symm; clear f1_ f2_ f3_; subst f4_; subst f5_))
              refine hK.out _ _ ⟨(blk_cell BK155.out 0).trans rfl, (blk_cell BK155.out 1).trans rfl, (blk_cell BK155.out 2).trans rfl, (blk_cell BK155.out 3).trans rfl, (blk_cell BK155.out 4).trans rfl, (blk_cell BK155.out 5).trans rfl, (blk_cell BK155.out 6).trans rfl⟩ (fun hHeld => ?_)
              clear hK K
              refine norm_ (a' := ?_) ?_ ?_
              rotate_left
              · show Act.put _ (some 45) _ = _
                simp only [Act.put, List.setIfInBounds_toArray, List.set_cons_zero, List.set_cons_succ, i64_w, i32_w]
                rfl
              refine pure_ (i := 10) (N := some 46) (v := ?_) (a' := ?_) #[true, true, true, true, true, true, true, true, true, true, true, false] rfl rfl (any_of HT_.out (by kernel_rfl)) (fun _ _ _ h => h) (Or.inl ⟨by rfl, ?_⟩) ?_ ?_
              rotate_left
              · intro w'
                go_simp
                with_reducible rfl
              rotate_left
              · simp only [Act.put, List.setIfInBounds_toArray, List.set_cons_zero, List.set_cons_succ, i64_w, i32_w]
                rfl
              refine last_ (i := 11) (N := none) #[true, true, true, true, true, true, true, true, true, true, true, true] rfl rfl (one_of HT_.out (by kernel_rfl)) (by decide) (fun K hK => ?_)
              have hs25 : w23.cell? ⟨gb155, 6, none⟩ = some (u156006) := (blk_cell BK155.out 6).trans rfl
              have hfs25 := blk_frozen BK155.out 6
              refine skip_ (w1 := ?_) (by rfl) rfl ?_ ?_
              rotate_left
              · go_simp
                rfl
              refine hK.out _ _ ?_
              clear hK K
              refine done_ (done_of HT_.out (by kernel_rfl)) ?_
              try go_wp2
              go_roundg k1
              case measure => have := HK1.out; omega
              case rel => exact ⟨(wrap64 (x20_1 + 1)), (y165), (.slice Ao24 y165.length co24), (by first | rfl | (simp; done) | (simp [*]; done)), H', ⟨by have := HK1.out; omega⟩, ⟨by (with_reducible repeat (first | apply Kd.N_alloc | apply Kd.N_drewN | apply Kd.N_drew)); exact Kd.N_mono (Kd.N_far (p := ⟨gb155, 6, none⟩) (Kd.N_mono HO167.out (fun k_ hk => (⟨hk, hk⟩ : _ ∧ k_ ≠ gb155))) (fun _ hk => hk.2) (.slice Ao24 y165.length co24)) (fun _ hk => hk.1)⟩, ⟨by (with_reducible repeat (first | refine blk_drewN ?_ _ | refine blk_drew ?_ | refine blk_alloc ?_ _)); refine blk_put (cs := #[.int .i64 a0, .int .i64 a1, .int .i64 a2, .int .i64 a3, .string a4, .slice none 0 0, u156006]) ?_ 6 _ rfl; (with_reducible repeat (first | refine blk_drewN ?_ _ | refine blk_drew ?_ | refine blk_alloc ?_ _)); exact BK155.out⟩, ⟨by repeat (first | (with_reducible first | exact HB.out | apply below_alloc | apply pw_below_drewN | apply below_drew1 | refine below_set ?_ GE155.out) | exact HB.out)⟩⟩
            · rw [if_neg c18] at H
              exact absurd H (by simp)
          · rw [if_neg c15] at H
            have c15b0 : decide (x20_1 < t156) = false := decide_eq_false c15
            clear c15
            have H' := Aside0.mk H
            clear H
            go_wp2_with (first | ((with_reducible refine gate_callee (f := 4) rfl ?_); refine goesL_ (some 32) rfl rfl Tryz.func4 (by kernel_rfl) rfl #[.int .i64 a7, .int .i64 24] rfl (by (try simp only [List.map_toArray, List.map_cons, List.map_nil]); first | done | rfl | (simp only [List.length_drop, List.length_take]; rfl)) ?_; (with_reducible refine (abaculushand_Pick.calls a7 24 t156 _ A14.out).mono ?_); rintro e w' ⟨rfl, ⟨nd, rfl⟩⟩; refine ⟨_, rfl, ?_⟩))
            go_meet
            case rel => exact ⟨_, (x156006_1), (u156006), H', ⟨by have := HK1.out; first | omega | exact Nat.le_refl _⟩, ⟨by (with_reducible repeat (first | apply Kd.N_alloc | apply Kd.N_drewN | apply Kd.N_drew)); exact HO_156006.out⟩, ⟨by (with_reducible repeat (first | refine blk_drewN ?_ _ | refine blk_drew ?_ | refine blk_alloc ?_ _)); exact BK155.out⟩, ⟨by repeat (first | (with_reducible first | exact HB.out | apply below_alloc | apply pw_below_drewN | apply below_drew1 | refine below_set ?_ GE155.out) | exact HB.out)⟩⟩
    · rw [if_neg c13] at H
      have c13b0 : (a0 == 4) = false := beq_eq_false_iff_ne.mpr c13
      have c13b1 : (a0 != 4) = true := bne_iff_ne.mpr c13
      (first | rw [c13b0] | (simp only [i64_w, i32_w]; rw [c13b0]) | skip)
      have H' := Aside0.mk H
      clear H
      go_wp2
      go_meet
      case rel => exact ⟨_, (([] : List (S36))), (.slice none 0 0), H', ⟨by first | omega | exact Nat.le_refl _⟩, ⟨by first | exact Kd.S_nil _ _ _ _ _ | exact Kd.N_nil _ _ _ _ _ | exact Kd.V_nil _ _ _ _ _ | exact Kd.Q_nil _ _ _ _ _ | exact Kd.R_nil _ _ _ _ _⟩, ⟨by (with_reducible repeat (first | refine blk_drewN ?_ _ | refine blk_drew ?_ | refine blk_alloc ?_ _)); refine blk_put (cs := #[.int .i64 a0, .int .i64 a1, .int .i64 a2, .int .i64 a3, .string a4, .slice none 0 0, .slice none 0 0]) ?_ 6 _ rfl; (with_reducible repeat (first | refine blk_drewN ?_ _ | refine blk_drew ?_ | refine blk_alloc ?_ _)); refine blk_put (cs := #[.int .i64 a0, .int .i64 a1, .int .i64 a2, .int .i64 a3, .string a4, .slice none 0 0, .slice none 0 0]) ?_ 5 _ rfl; (with_reducible repeat (first | refine blk_drewN ?_ _ | refine blk_drew ?_ | refine blk_alloc ?_ _)); refine blk_put (cs := #[.int .i64 a0, .int .i64 a1, .int .i64 a2, .int .i64 a3, .string (⟨#[]⟩ : ByteArray), .slice none 0 0, .slice none 0 0]) ?_ 4 _ rfl; (with_reducible repeat (first | refine blk_drewN ?_ _ | refine blk_drew ?_ | refine blk_alloc ?_ _)); refine blk_put (cs := #[.int .i64 a0, .int .i64 a1, .int .i64 a2, .int .i64 0, .string (⟨#[]⟩ : ByteArray), .slice none 0 0, .slice none 0 0]) ?_ 3 _ rfl; (with_reducible repeat (first | refine blk_drewN ?_ _ | refine blk_drew ?_ | refine blk_alloc ?_ _)); refine blk_put (cs := #[.int .i64 a0, .int .i64 a1, .int .i64 0, .int .i64 0, .string (⟨#[]⟩ : ByteArray), .slice none 0 0, .slice none 0 0]) ?_ 2 _ rfl; (with_reducible repeat (first | refine blk_drewN ?_ _ | refine blk_drew ?_ | refine blk_alloc ?_ _)); refine blk_put (cs := #[.int .i64 a0, .int .i64 0, .int .i64 0, .int .i64 0, .string (⟨#[]⟩ : ByteArray), .slice none 0 0, .slice none 0 0]) ?_ 1 _ rfl; (with_reducible repeat (first | refine blk_drewN ?_ _ | refine blk_drew ?_ | refine blk_alloc ?_ _)); refine blk_put (cs := #[.int .i64 0, .int .i64 0, .int .i64 0, .int .i64 0, .string (⟨#[]⟩ : ByteArray), .slice none 0 0, .slice none 0 0]) ?_ 0 _ rfl; (with_reducible repeat (first | refine blk_drewN ?_ _ | refine blk_drew ?_ | refine blk_alloc ?_ _)); exact BK155.out⟩, ⟨by repeat (first | (with_reducible first | exact HB.out | apply below_alloc | apply pw_below_drewN | apply below_drew1 | refine below_set ?_ GE155.out) | exact HB.out)⟩⟩
  case rest =>
    clear HC10
    try clear c1
    try clear p2
    try clear c3
    try clear c4
    try clear c5
    try clear p6
    try clear c13
    try clear c13b0
    try clear c13b1
    try clear c15
    try clear c15b0
    try clear c18
    try clear hcz12_0
    try clear hcz12_1
    try clear hcz12_2
    try clear hcz12_3
    try clear hcz12_4
    try clear hcz12_5
    try clear hcz12_6
    try clear hfz12_0
    try clear hfz12_1
    try clear hfz12_2
    try clear hfz12_3
    try clear hfz12_4
    try clear hfz12_5
    try clear hfz12_6
    try clear p2
    obtain ⟨kq, x156006_9, u156006, HA, HJ9, HO_156006, BK155, HB⟩ := hcut
    cases kq with
    | zero => exact absurd HA.out (by simp [abaculuslaw40_ServeFine.j1])
    | succ kj9 =>
      have H := HA.out
      clear HA
      simp only [abaculuslaw40_ServeFine.j1] at H
      replace H := Option.bind_eq_some_iff.mp H
      obtain ⟨t169, A260, H⟩ := H
      replace H : ((abaculushand_Pick.f a1 2147483648).bind fun t170 => ((abaculushand_Pick.f a2 2147483648).bind fun t171 => ((abaculushand_Pick.f a3 2147483648).bind fun t172 => ((abaculuslaw40_known.f kj9).bind fun t173 => (if t173 = true then ((serve_Fine.f kj9 a0 a1 a2 a3 a4 ([] : List Int) x156006_9).bind fun t174 => ((abaculusshelf_Fine.f kj9 a0 a1 a2 a3 a4 ([] : List Int) x156006_9).bind fun t175 => (if (t174 == t175) = true then ((serve_Fine.f kj9 t169 t170 t171 t172 a4 ([] : List Int) x156006_9).bind fun t176 => ((abaculusshelf_Fine.f kj9 t169 t170 t171 t172 a4 ([] : List Int) x156006_9).bind fun t177 => (some (t176 == t177)))) else (some false)))) else (some false)))))) = some r := H
      have A26 := Aside0.mk A260
      clear A260
      replace H := Option.bind_eq_some_iff.mp H
      obtain ⟨t170, A270, H⟩ := H
      replace H : ((abaculushand_Pick.f a2 2147483648).bind fun t171 => ((abaculushand_Pick.f a3 2147483648).bind fun t172 => ((abaculuslaw40_known.f kj9).bind fun t173 => (if t173 = true then ((serve_Fine.f kj9 a0 a1 a2 a3 a4 ([] : List Int) x156006_9).bind fun t174 => ((abaculusshelf_Fine.f kj9 a0 a1 a2 a3 a4 ([] : List Int) x156006_9).bind fun t175 => (if (t174 == t175) = true then ((serve_Fine.f kj9 t169 t170 t171 t172 a4 ([] : List Int) x156006_9).bind fun t176 => ((abaculusshelf_Fine.f kj9 t169 t170 t171 t172 a4 ([] : List Int) x156006_9).bind fun t177 => (some (t176 == t177)))) else (some false)))) else (some false))))) = some r := H
      have A27 := Aside0.mk A270
      clear A270
      replace H := Option.bind_eq_some_iff.mp H
      obtain ⟨t171, A280, H⟩ := H
      replace H : ((abaculushand_Pick.f a3 2147483648).bind fun t172 => ((abaculuslaw40_known.f kj9).bind fun t173 => (if t173 = true then ((serve_Fine.f kj9 a0 a1 a2 a3 a4 ([] : List Int) x156006_9).bind fun t174 => ((abaculusshelf_Fine.f kj9 a0 a1 a2 a3 a4 ([] : List Int) x156006_9).bind fun t175 => (if (t174 == t175) = true then ((serve_Fine.f kj9 t169 t170 t171 t172 a4 ([] : List Int) x156006_9).bind fun t176 => ((abaculusshelf_Fine.f kj9 t169 t170 t171 t172 a4 ([] : List Int) x156006_9).bind fun t177 => (some (t176 == t177)))) else (some false)))) else (some false)))) = some r := H
      have A28 := Aside0.mk A280
      clear A280
      replace H := Option.bind_eq_some_iff.mp H
      obtain ⟨t172, A290, H⟩ := H
      replace H : ((abaculuslaw40_known.f kj9).bind fun t173 => (if t173 = true then ((serve_Fine.f kj9 a0 a1 a2 a3 a4 ([] : List Int) x156006_9).bind fun t174 => ((abaculusshelf_Fine.f kj9 a0 a1 a2 a3 a4 ([] : List Int) x156006_9).bind fun t175 => (if (t174 == t175) = true then ((serve_Fine.f kj9 t169 t170 t171 t172 a4 ([] : List Int) x156006_9).bind fun t176 => ((abaculusshelf_Fine.f kj9 t169 t170 t171 t172 a4 ([] : List Int) x156006_9).bind fun t177 => (some (t176 == t177)))) else (some false)))) else (some false))) = some r := H
      have A29 := Aside0.mk A290
      clear A290
      replace H := Option.bind_eq_some_iff.mp H
      obtain ⟨t173, A300, H⟩ := H
      replace H : (if t173 = true then ((serve_Fine.f kj9 a0 a1 a2 a3 a4 ([] : List Int) x156006_9).bind fun t174 => ((abaculusshelf_Fine.f kj9 a0 a1 a2 a3 a4 ([] : List Int) x156006_9).bind fun t175 => (if (t174 == t175) = true then ((serve_Fine.f kj9 t169 t170 t171 t172 a4 ([] : List Int) x156006_9).bind fun t176 => ((abaculusshelf_Fine.f kj9 t169 t170 t171 t172 a4 ([] : List Int) x156006_9).bind fun t177 => (some (t176 == t177)))) else (some false)))) else (some false)) = some r := H
      have A30 := Aside0.mk A300
      clear A300
      by_cases c31 : t173 = true
      · subst c31
        have H1 : ((serve_Fine.f kj9 a0 a1 a2 a3 a4 ([] : List Int) x156006_9).bind fun t174 => ((abaculusshelf_Fine.f kj9 a0 a1 a2 a3 a4 ([] : List Int) x156006_9).bind fun t175 => (if (t174 == t175) = true then ((serve_Fine.f kj9 t169 t170 t171 t172 a4 ([] : List Int) x156006_9).bind fun t176 => ((abaculusshelf_Fine.f kj9 t169 t170 t171 t172 a4 ([] : List Int) x156006_9).bind fun t177 => (some (t176 == t177)))) else (some false)))) = some r := by rw [if_pos rfl] at H; exact H
        clear H
        have H := H1
        clear H1
        replace H := Option.bind_eq_some_iff.mp H
        obtain ⟨t174, A320, H⟩ := H
        replace H : ((abaculusshelf_Fine.f kj9 a0 a1 a2 a3 a4 ([] : List Int) x156006_9).bind fun t175 => (if (t174 == t175) = true then ((serve_Fine.f kj9 t169 t170 t171 t172 a4 ([] : List Int) x156006_9).bind fun t176 => ((abaculusshelf_Fine.f kj9 t169 t170 t171 t172 a4 ([] : List Int) x156006_9).bind fun t177 => (some (t176 == t177)))) else (some false))) = some r := H
        have A32 := Aside0.mk A320
        clear A320
        replace H := Option.bind_eq_some_iff.mp H
        obtain ⟨t175, A330, H⟩ := H
        replace H : (if (t174 == t175) = true then ((serve_Fine.f kj9 t169 t170 t171 t172 a4 ([] : List Int) x156006_9).bind fun t176 => ((abaculusshelf_Fine.f kj9 t169 t170 t171 t172 a4 ([] : List Int) x156006_9).bind fun t177 => (some (t176 == t177)))) else (some false)) = some r := H
        have A33 := Aside0.mk A330
        clear A330
        by_cases c34 : (t174 == t175) = true
        · rw [if_pos c34] at H
          have c34b0 : (t174 == t175) = true := c34
          (try (have c34b1 : decide (t174 = t175) = true := by simpa using c34))
          (try (have c34b2 : (t174 == t175) = true := by simpa using c34))
          clear c34
          replace H := Option.bind_eq_some_iff.mp H
          obtain ⟨t176, A350, H⟩ := H
          replace H : ((abaculusshelf_Fine.f kj9 t169 t170 t171 t172 a4 ([] : List Int) x156006_9).bind fun t177 => (some (t176 == t177))) = some r := H
          have A35 := Aside0.mk A350
          clear A350
          replace H := Option.bind_eq_some_iff.mp H
          obtain ⟨t177, A360, H⟩ := H
          replace H : (some (t176 == t177)) = some r := H
          have A36 := Aside0.mk A360
          clear A360
          obtain rfl := Option.some.inj H
          have hcz37_0 : wc.cell? ⟨gb155, 0, none⟩ = some (.int .i64 a0) := (blk_cell BK155.out 0).trans rfl
          have hcz37_1 : wc.cell? ⟨gb155, 1, none⟩ = some (.int .i64 a1) := (blk_cell BK155.out 1).trans rfl
          have hcz37_2 : wc.cell? ⟨gb155, 2, none⟩ = some (.int .i64 a2) := (blk_cell BK155.out 2).trans rfl
          have hcz37_3 : wc.cell? ⟨gb155, 3, none⟩ = some (.int .i64 a3) := (blk_cell BK155.out 3).trans rfl
          have hcz37_4 : wc.cell? ⟨gb155, 4, none⟩ = some (.string a4) := (blk_cell BK155.out 4).trans rfl
          have hcz37_5 : wc.cell? ⟨gb155, 5, none⟩ = some (.slice none 0 0) := (blk_cell BK155.out 5).trans rfl
          have hcz37_6 : wc.cell? ⟨gb155, 6, none⟩ = some (u156006) := (blk_cell BK155.out 6).trans rfl
          have hfz37_0 := blk_frozen BK155.out 0
          have hfz37_1 := blk_frozen BK155.out 1
          have hfz37_2 := blk_frozen BK155.out 2
          have hfz37_3 := blk_frozen BK155.out 3
          have hfz37_4 := blk_frozen BK155.out 4
          have hfz37_5 := blk_frozen BK155.out 5
          have hfz37_6 := blk_frozen BK155.out 6
          try go_wp2_with (first | ((with_reducible refine gate_dst (N := 21) rfl ?_); refine box_event ?hg (N := 21) ?hd (cs := #[.int .i64 0, .int .i64 0, .int .i64 0, .int .i64 0, .string (⟨#[]⟩ : ByteArray), .slice none 0 0, .slice none 0 0]) (t := 25) ?hr ?_; (case hd => rfl); (case hg => rfl); (case hr => first | (go_simp; done) | (go_simp; rfl)); intro gb168 hg w38 hbox hb; have n0_ := Aside0.mk (Kd.N_below (Kd.N_elderB (by (with_reducible repeat (first | apply Kd.N_alloc | apply Kd.N_drewN | apply Kd.N_drew)); exact HO_156006.out) gb168 (Nat.le_of_eq hg.symm)) hb); have n1_ := Aside0.mk (blk_below (g := gb155) (o := .cells #[.int .i64 a0, .int .i64 a1, .int .i64 a2, .int .i64 a3, .string a4, .slice none 0 0, u156006] 25 (0, 0)) (by (with_reducible repeat (first | refine blk_drewN ?_ _ | refine blk_drew ?_ | refine blk_alloc ?_ _)); exact BK155.out) hb); have n2_ := Aside0.mk (below_step (by repeat (first | (with_reducible first | exact HB.out | apply below_alloc | apply pw_below_drewN | apply below_drew1 | refine below_set ?_ GE155.out) | exact HB.out)) hb); have n3_ := Aside0.mk (hbox); have n4_ := Aside0.mk ((by rw [hg]; exact (below_size (by repeat (first | (with_reducible first | exact HB.out | apply below_alloc | apply pw_below_drewN | apply below_drew1 | refine below_set ?_ GE155.out) | exact HB.out))) : w.heap.size ≤ gb168)); have n5_ := Aside0.mk ((by rw [hg]; exact (below_size (by repeat (first | (with_reducible first | exact HB.out | apply below_alloc | apply pw_below_drewN | apply below_drew1 | refine below_set ?_ GE155.out) | exact HB.out))) : w.heap.size ≤ gb168)); have n6_ := Aside0.mk ((by rw [hg]; exact Nat.ne_of_lt (blk_lt (g := gb155) (o := .cells #[.int .i64 a0, .int .i64 a1, .int .i64 a2, .int .i64 a3, .string a4, .slice none 0 0, u156006] 25 (0, 0)) (by (with_reducible repeat (first | refine blk_drewN ?_ _ | refine blk_drew ?_ | refine blk_alloc ?_ _)); exact BK155.out)) : gb155 ≠ gb168)); have n7_ := Aside0.mk ((by rw [hg]; exact Nat.ne_of_gt (blk_lt (g := gb155) (o := .cells #[.int .i64 a0, .int .i64 a1, .int .i64 a2, .int .i64 a3, .string a4, .slice none 0 0, u156006] 25 (0, 0)) (by (with_reducible repeat (first | refine blk_drewN ?_ _ | refine blk_drew ?_ | refine blk_alloc ?_ _)); exact BK155.out)) : gb168 ≠ gb155)); clear HO_156006; clear BK155; clear HB; have HO_156006 := n0_; have BK155 := n1_; have HB := n2_; have BK168 := n3_; have GW168 := n4_; have GE168 := n5_; have NB155_168 := n6_; have NB168_155 := n7_; clear n0_ n1_ n2_ n3_ n4_ n5_ n6_ n7_; clear hb hbox hg; have hnb39 := NB168_155.out; have hnc39 := NB155_168.out; have hcz40_0 : w38.cell? ⟨gb168, 0, none⟩ = some (.int .i64 0) := (blk_cell BK168.out 0).trans rfl; have hcz40_1 : w38.cell? ⟨gb168, 1, none⟩ = some (.int .i64 0) := (blk_cell BK168.out 1).trans rfl; have hcz40_2 : w38.cell? ⟨gb168, 2, none⟩ = some (.int .i64 0) := (blk_cell BK168.out 2).trans rfl; have hcz40_3 : w38.cell? ⟨gb168, 3, none⟩ = some (.int .i64 0) := (blk_cell BK168.out 3).trans rfl; have hcz40_4 : w38.cell? ⟨gb168, 4, none⟩ = some (.string (⟨#[]⟩ : ByteArray)) := (blk_cell BK168.out 4).trans rfl; have hcz40_5 : w38.cell? ⟨gb168, 5, none⟩ = some (.slice none 0 0) := (blk_cell BK168.out 5).trans rfl; have hcz40_6 : w38.cell? ⟨gb168, 6, none⟩ = some (.slice none 0 0) := (blk_cell BK168.out 6).trans rfl; have hfz40_0 := blk_frozen BK168.out 0; have hfz40_1 := blk_frozen BK168.out 1; have hfz40_2 := blk_frozen BK168.out 2; have hfz40_3 := blk_frozen BK168.out 3; have hfz40_4 := blk_frozen BK168.out 4; have hfz40_5 := blk_frozen BK168.out 5; have hfz40_6 := blk_frozen BK168.out 6; obtain ⟨Ao41, co41, eo41⟩ := Kd.N_slice HO_156006.out; subst eo41) | ((with_reducible refine gate_callee (f := 4) rfl ?_); refine goesL_ (some 49) rfl rfl Tryz.func4 (by kernel_rfl) rfl #[.int .i64 a0, .int .i64 8] rfl (by (try simp only [List.map_toArray, List.map_cons, List.map_nil]); first | done | rfl | (simp only [List.length_drop, List.length_take]; rfl)) ?_; (with_reducible refine (abaculushand_Pick.calls a0 8 t169 _ A26.out).mono ?_); rintro e w' ⟨rfl, ⟨nd, rfl⟩⟩; refine ⟨_, rfl, ?_⟩) | ((with_reducible refine gate_callee (f := 4) rfl ?_); refine goesL_ (some 51) rfl rfl Tryz.func4 (by kernel_rfl) rfl #[.int .i64 a1, .int .i64 2147483648] rfl (by (try simp only [List.map_toArray, List.map_cons, List.map_nil]); first | done | rfl | (simp only [List.length_drop, List.length_take]; rfl)) ?_; (with_reducible refine (abaculushand_Pick.calls a1 2147483648 t170 _ A27.out).mono ?_); rintro e w' ⟨rfl, ⟨nd, rfl⟩⟩; refine ⟨_, rfl, ?_⟩) | ((with_reducible refine gate_callee (f := 4) rfl ?_); refine goesL_ (some 53) rfl rfl Tryz.func4 (by kernel_rfl) rfl #[.int .i64 a2, .int .i64 2147483648] rfl (by (try simp only [List.map_toArray, List.map_cons, List.map_nil]); first | done | rfl | (simp only [List.length_drop, List.length_take]; rfl)) ?_; (with_reducible refine (abaculushand_Pick.calls a2 2147483648 t171 _ A28.out).mono ?_); rintro e w' ⟨rfl, ⟨nd, rfl⟩⟩; refine ⟨_, rfl, ?_⟩) | ((with_reducible refine gate_callee (f := 4) rfl ?_); refine goesL_ (some 55) rfl rfl Tryz.func4 (by kernel_rfl) rfl #[.int .i64 a3, .int .i64 2147483648] rfl (by (try simp only [List.map_toArray, List.map_cons, List.map_nil]); first | done | rfl | (simp only [List.length_drop, List.length_take]; rfl)) ?_; (with_reducible refine (abaculushand_Pick.calls a3 2147483648 t172 _ A29.out).mono ?_); rintro e w' ⟨rfl, ⟨nd, rfl⟩⟩; refine ⟨_, rfl, ?_⟩))
          rename_i nda ndb ndc KK_ aa_
          generalize hmm_ : nda + ndb + ndc + nd = mm_
          have n0_ : Aside0 (Kd.N k36 36 ((((((((((((w38.setCell ⟨gb168, 0, none⟩ (.int .i64 a0)).setCell ⟨gb168, 1, none⟩ (.int .i64 a1)).setCell ⟨gb168, 2, none⟩ (.int .i64 a2)).setCell ⟨gb168, 3, none⟩ (.int .i64 a3)).setCell ⟨gb168, 4, none⟩ (.string a4)).setCell ⟨gb168, 5, none⟩ (.slice none 0 0)).setCell ⟨gb168, 6, none⟩ (.slice Ao41 x156006_9.length co41)).drewN mm_).setCell ⟨gb168, 0, none⟩ (.int .i64 t169)).setCell ⟨gb168, 1, none⟩ (.int .i64 t170)).setCell ⟨gb168, 2, none⟩ (.int .i64 t171)).setCell ⟨gb168, 3, none⟩ (.int .i64 t172)) w.heap.size (fun k_ => k_ ≠ gb155 ∧ k_ ≠ gb168) (.slice Ao41 x156006_9.length co41) x156006_9) := ⟨by (with_reducible repeat (first | apply Kd.N_alloc | apply Kd.N_drewN | apply Kd.N_drew)); exact Kd.N_mono (Kd.N_far (p := ⟨gb168, 3, none⟩) (Kd.N_far (p := ⟨gb168, 2, none⟩) (Kd.N_far (p := ⟨gb168, 1, none⟩) (Kd.N_far (p := ⟨gb168, 0, none⟩) (Kd.N_drewN (Kd.N_far (p := ⟨gb168, 6, none⟩) (Kd.N_far (p := ⟨gb168, 5, none⟩) (Kd.N_far (p := ⟨gb168, 4, none⟩) (Kd.N_far (p := ⟨gb168, 3, none⟩) (Kd.N_far (p := ⟨gb168, 2, none⟩) (Kd.N_far (p := ⟨gb168, 1, none⟩) (Kd.N_far (p := ⟨gb168, 0, none⟩) (Kd.N_mono HO_156006.out (fun k_ hk => (⟨hk, hk.2⟩ : _ ∧ k_ ≠ gb168))) (fun _ hk => hk.2) (.int .i64 a0)) (fun _ hk => hk.2) (.int .i64 a1)) (fun _ hk => hk.2) (.int .i64 a2)) (fun _ hk => hk.2) (.int .i64 a3)) (fun _ hk => hk.2) (.string a4)) (fun _ hk => hk.2) (.slice none 0 0)) (fun _ hk => hk.2) (.slice Ao41 x156006_9.length co41)) mm_) (fun _ hk => hk.2) (.int .i64 t169)) (fun _ hk => hk.2) (.int .i64 t170)) (fun _ hk => hk.2) (.int .i64 t171)) (fun _ hk => hk.2) (.int .i64 t172)) (fun _ hk => ⟨hk.1.1, hk.1.2⟩)⟩
          have n1_ : Aside0 (((((((((((((w38.setCell ⟨gb168, 0, none⟩ (.int .i64 a0)).setCell ⟨gb168, 1, none⟩ (.int .i64 a1)).setCell ⟨gb168, 2, none⟩ (.int .i64 a2)).setCell ⟨gb168, 3, none⟩ (.int .i64 a3)).setCell ⟨gb168, 4, none⟩ (.string a4)).setCell ⟨gb168, 5, none⟩ (.slice none 0 0)).setCell ⟨gb168, 6, none⟩ (.slice Ao41 x156006_9.length co41)).drewN mm_).setCell ⟨gb168, 0, none⟩ (.int .i64 t169)).setCell ⟨gb168, 1, none⟩ (.int .i64 t170)).setCell ⟨gb168, 2, none⟩ (.int .i64 t171)).setCell ⟨gb168, 3, none⟩ (.int .i64 t172)).heap[gb155]? = some (.cells #[.int .i64 a0, .int .i64 a1, .int .i64 a2, .int .i64 a3, .string a4, .slice none 0 0, .slice Ao41 x156006_9.length co41] 25 (0, 0))) := ⟨by (with_reducible repeat (first | refine blk_drewN ?_ _ | refine blk_drew ?_ | refine blk_alloc ?_ _)); refine blk_far ?_ NB155_168.out _; (with_reducible repeat (first | refine blk_drewN ?_ _ | refine blk_drew ?_ | refine blk_alloc ?_ _)); refine blk_far ?_ NB155_168.out _; (with_reducible repeat (first | refine blk_drewN ?_ _ | refine blk_drew ?_ | refine blk_alloc ?_ _)); refine blk_far ?_ NB155_168.out _; (with_reducible repeat (first | refine blk_drewN ?_ _ | refine blk_drew ?_ | refine blk_alloc ?_ _)); refine blk_far ?_ NB155_168.out _; (with_reducible repeat (first | refine blk_drewN ?_ _ | refine blk_drew ?_ | refine blk_alloc ?_ _)); refine blk_far ?_ NB155_168.out _; (with_reducible repeat (first | refine blk_drewN ?_ _ | refine blk_drew ?_ | refine blk_alloc ?_ _)); refine blk_far ?_ NB155_168.out _; (with_reducible repeat (first | refine blk_drewN ?_ _ | refine blk_drew ?_ | refine blk_alloc ?_ _)); refine blk_far ?_ NB155_168.out _; (with_reducible repeat (first | refine blk_drewN ?_ _ | refine blk_drew ?_ | refine blk_alloc ?_ _)); refine blk_far ?_ NB155_168.out _; (with_reducible repeat (first | refine blk_drewN ?_ _ | refine blk_drew ?_ | refine blk_alloc ?_ _)); refine blk_far ?_ NB155_168.out _; (with_reducible repeat (first | refine blk_drewN ?_ _ | refine blk_drew ?_ | refine blk_alloc ?_ _)); refine blk_far ?_ NB155_168.out _; (with_reducible repeat (first | refine blk_drewN ?_ _ | refine blk_drew ?_ | refine blk_alloc ?_ _)); refine blk_far ?_ NB155_168.out _; (with_reducible repeat (first | refine blk_drewN ?_ _ | refine blk_drew ?_ | refine blk_alloc ?_ _)); exact BK155.out⟩
          have n2_ : Aside0 (((((((((((((w38.setCell ⟨gb168, 0, none⟩ (.int .i64 a0)).setCell ⟨gb168, 1, none⟩ (.int .i64 a1)).setCell ⟨gb168, 2, none⟩ (.int .i64 a2)).setCell ⟨gb168, 3, none⟩ (.int .i64 a3)).setCell ⟨gb168, 4, none⟩ (.string a4)).setCell ⟨gb168, 5, none⟩ (.slice none 0 0)).setCell ⟨gb168, 6, none⟩ (.slice Ao41 x156006_9.length co41)).drewN mm_).setCell ⟨gb168, 0, none⟩ (.int .i64 t169)).setCell ⟨gb168, 1, none⟩ (.int .i64 t170)).setCell ⟨gb168, 2, none⟩ (.int .i64 t171)).setCell ⟨gb168, 3, none⟩ (.int .i64 t172)).heap[gb168]? = some (.cells #[.int .i64 t169, .int .i64 t170, .int .i64 t171, .int .i64 t172, .string a4, .slice none 0 0, .slice Ao41 x156006_9.length co41] 25 (0, 0))) := ⟨by (with_reducible repeat (first | refine blk_drewN ?_ _ | refine blk_drew ?_ | refine blk_alloc ?_ _)); refine blk_put (cs := #[.int .i64 t169, .int .i64 t170, .int .i64 t171, .int .i64 a3, .string a4, .slice none 0 0, .slice Ao41 x156006_9.length co41]) ?_ 3 _ rfl; (with_reducible repeat (first | refine blk_drewN ?_ _ | refine blk_drew ?_ | refine blk_alloc ?_ _)); refine blk_put (cs := #[.int .i64 t169, .int .i64 t170, .int .i64 a2, .int .i64 a3, .string a4, .slice none 0 0, .slice Ao41 x156006_9.length co41]) ?_ 2 _ rfl; (with_reducible repeat (first | refine blk_drewN ?_ _ | refine blk_drew ?_ | refine blk_alloc ?_ _)); refine blk_put (cs := #[.int .i64 t169, .int .i64 a1, .int .i64 a2, .int .i64 a3, .string a4, .slice none 0 0, .slice Ao41 x156006_9.length co41]) ?_ 1 _ rfl; (with_reducible repeat (first | refine blk_drewN ?_ _ | refine blk_drew ?_ | refine blk_alloc ?_ _)); refine blk_put (cs := #[.int .i64 a0, .int .i64 a1, .int .i64 a2, .int .i64 a3, .string a4, .slice none 0 0, .slice Ao41 x156006_9.length co41]) ?_ 0 _ rfl; (with_reducible repeat (first | refine blk_drewN ?_ _ | refine blk_drew ?_ | refine blk_alloc ?_ _)); refine blk_put (cs := #[.int .i64 a0, .int .i64 a1, .int .i64 a2, .int .i64 a3, .string a4, .slice none 0 0, .slice none 0 0]) ?_ 6 _ rfl; (with_reducible repeat (first | refine blk_drewN ?_ _ | refine blk_drew ?_ | refine blk_alloc ?_ _)); refine blk_put (cs := #[.int .i64 a0, .int .i64 a1, .int .i64 a2, .int .i64 a3, .string a4, .slice none 0 0, .slice none 0 0]) ?_ 5 _ rfl; (with_reducible repeat (first | refine blk_drewN ?_ _ | refine blk_drew ?_ | refine blk_alloc ?_ _)); refine blk_put (cs := #[.int .i64 a0, .int .i64 a1, .int .i64 a2, .int .i64 a3, .string (⟨#[]⟩ : ByteArray), .slice none 0 0, .slice none 0 0]) ?_ 4 _ rfl; (with_reducible repeat (first | refine blk_drewN ?_ _ | refine blk_drew ?_ | refine blk_alloc ?_ _)); refine blk_put (cs := #[.int .i64 a0, .int .i64 a1, .int .i64 a2, .int .i64 0, .string (⟨#[]⟩ : ByteArray), .slice none 0 0, .slice none 0 0]) ?_ 3 _ rfl; (with_reducible repeat (first | refine blk_drewN ?_ _ | refine blk_drew ?_ | refine blk_alloc ?_ _)); refine blk_put (cs := #[.int .i64 a0, .int .i64 a1, .int .i64 0, .int .i64 0, .string (⟨#[]⟩ : ByteArray), .slice none 0 0, .slice none 0 0]) ?_ 2 _ rfl; (with_reducible repeat (first | refine blk_drewN ?_ _ | refine blk_drew ?_ | refine blk_alloc ?_ _)); refine blk_put (cs := #[.int .i64 a0, .int .i64 0, .int .i64 0, .int .i64 0, .string (⟨#[]⟩ : ByteArray), .slice none 0 0, .slice none 0 0]) ?_ 1 _ rfl; (with_reducible repeat (first | refine blk_drewN ?_ _ | refine blk_drew ?_ | refine blk_alloc ?_ _)); refine blk_put (cs := #[.int .i64 0, .int .i64 0, .int .i64 0, .int .i64 0, .string (⟨#[]⟩ : ByteArray), .slice none 0 0, .slice none 0 0]) ?_ 0 _ rfl; (with_reducible repeat (first | refine blk_drewN ?_ _ | refine blk_drew ?_ | refine blk_alloc ?_ _)); exact BK168.out⟩
          have n3_ : Aside0 (Below w.heap.size w ((((((((((((w38.setCell ⟨gb168, 0, none⟩ (.int .i64 a0)).setCell ⟨gb168, 1, none⟩ (.int .i64 a1)).setCell ⟨gb168, 2, none⟩ (.int .i64 a2)).setCell ⟨gb168, 3, none⟩ (.int .i64 a3)).setCell ⟨gb168, 4, none⟩ (.string a4)).setCell ⟨gb168, 5, none⟩ (.slice none 0 0)).setCell ⟨gb168, 6, none⟩ (.slice Ao41 x156006_9.length co41)).drewN mm_).setCell ⟨gb168, 0, none⟩ (.int .i64 t169)).setCell ⟨gb168, 1, none⟩ (.int .i64 t170)).setCell ⟨gb168, 2, none⟩ (.int .i64 t171)).setCell ⟨gb168, 3, none⟩ (.int .i64 t172))) := ⟨by repeat (first | (with_reducible first | exact HB.out | apply below_alloc | apply pw_below_drewN | apply below_drew1 | refine below_set ?_ GE155.out | refine below_set ?_ GE168.out) | exact HB.out)⟩
          (try clear HO_156006)
          (try clear BK155)
          (try clear BK168)
          (try clear HB)
          generalize ((((((((((((w38.setCell ⟨gb168, 0, none⟩ (.int .i64 a0)).setCell ⟨gb168, 1, none⟩ (.int .i64 a1)).setCell ⟨gb168, 2, none⟩ (.int .i64 a2)).setCell ⟨gb168, 3, none⟩ (.int .i64 a3)).setCell ⟨gb168, 4, none⟩ (.string a4)).setCell ⟨gb168, 5, none⟩ (.slice none 0 0)).setCell ⟨gb168, 6, none⟩ (.slice Ao41 x156006_9.length co41)).drewN mm_).setCell ⟨gb168, 0, none⟩ (.int .i64 t169)).setCell ⟨gb168, 1, none⟩ (.int .i64 t170)).setCell ⟨gb168, 2, none⟩ (.int .i64 t171)).setCell ⟨gb168, 3, none⟩ (.int .i64 t172)) = w42 at n0_ n1_ n2_ n3_ ⊢
          have HO_156006 := n0_
          have BK155 := n1_
          have BK168 := n2_
          have HB := n3_
          clear n0_ n1_ n2_ n3_
          (try (rw [drewN_self w42]; generalize hq_ : World.drewN w42 _ = w42; have n0_ : Aside0 (Kd.N k36 36 w42 w.heap.size (fun k_ => k_ ≠ gb155 ∧ k_ ≠ gb168) (.slice Ao41 x156006_9.length co41) x156006_9) := ⟨by rw [← hq_]; exact (by (with_reducible repeat (first | apply Kd.N_alloc | apply Kd.N_drewN | apply Kd.N_drew)); exact HO_156006.out)⟩; have n1_ : Aside0 (w42.heap[gb155]? = some (.cells #[.int .i64 a0, .int .i64 a1, .int .i64 a2, .int .i64 a3, .string a4, .slice none 0 0, .slice Ao41 x156006_9.length co41] 25 (0, 0))) := ⟨by rw [← hq_]; exact (by (with_reducible repeat (first | refine blk_drewN ?_ _ | refine blk_drew ?_ | refine blk_alloc ?_ _)); exact BK155.out)⟩; have n2_ : Aside0 (w42.heap[gb168]? = some (.cells #[.int .i64 t169, .int .i64 t170, .int .i64 t171, .int .i64 t172, .string a4, .slice none 0 0, .slice Ao41 x156006_9.length co41] 25 (0, 0))) := ⟨by rw [← hq_]; exact (by (with_reducible repeat (first | refine blk_drewN ?_ _ | refine blk_drew ?_ | refine blk_alloc ?_ _)); exact BK168.out)⟩; have n3_ : Aside0 (Below w.heap.size w w42) := ⟨by rw [← hq_]; exact (by repeat (first | (with_reducible first | exact HB.out | apply below_alloc | apply pw_below_drewN | apply below_drew1 | refine below_set ?_ GE155.out | refine below_set ?_ GE168.out) | exact HB.out))⟩; clear HO_156006 BK155 BK168 HB hq_; have HO_156006 := n0_; have BK155 := n1_; have BK168 := n2_; have HB := n3_; clear n0_ n1_ n2_ n3_))
          have n0_ := Aside0.mk (Kd.N_drew HO_156006.out)
          have n1_ := Aside0.mk (blk_drew BK155.out)
          have n2_ := Aside0.mk (blk_drew BK168.out)
          have n3_ := Aside0.mk (below_drew1 HB.out)
          clear HO_156006
          clear BK155
          clear BK168
          clear HB
          have HO_156006 := n0_
          have BK155 := n1_
          have BK168 := n2_
          have HB := n3_
          clear n0_ n1_ n2_ n3_
          refine start_ (n := 16) (S := fun w' => w'.cell? ⟨gb155, 0, none⟩ = some (.int .i64 a0) ∧ w'.cell? ⟨gb155, 1, none⟩ = some (.int .i64 a1) ∧ w'.cell? ⟨gb155, 2, none⟩ = some (.int .i64 a2) ∧ w'.cell? ⟨gb155, 3, none⟩ = some (.int .i64 a3) ∧ w'.cell? ⟨gb155, 4, none⟩ = some (.string a4) ∧ w'.cell? ⟨gb155, 5, none⟩ = some (.slice none 0 0) ∧ w'.cell? ⟨gb155, 6, none⟩ = some (.slice Ao41 x156006_9.length co41) ∧ w'.cell? ⟨gb168, 0, none⟩ = some (.int .i64 t169) ∧ w'.cell? ⟨gb168, 1, none⟩ = some (.int .i64 t170) ∧ w'.cell? ⟨gb168, 2, none⟩ = some (.int .i64 t171) ∧ w'.cell? ⟨gb168, 3, none⟩ = some (.int .i64 t172) ∧ w'.cell? ⟨gb168, 4, none⟩ = some (.string a4) ∧ w'.cell? ⟨gb168, 5, none⟩ = some (.slice none 0 0) ∧ w'.cell? ⟨gb168, 6, none⟩ = some (.slice Ao41 x156006_9.length co41)) (ds := []) #[false, false, false, false, false, false, false, false, false, false, false, false, false, false, false, false] (by kernel_rfl) rfl rfl ⟨(blk_cell BK155.out 0).trans rfl, (blk_cell BK155.out 1).trans rfl, (blk_cell BK155.out 2).trans rfl, (blk_cell BK155.out 3).trans rfl, (blk_cell BK155.out 4).trans rfl, (blk_cell BK155.out 5).trans rfl, (blk_cell BK155.out 6).trans rfl, (blk_cell BK168.out 0).trans rfl, (blk_cell BK168.out 1).trans rfl, (blk_cell BK168.out 2).trans rfl, (blk_cell BK168.out 3).trans rfl, (blk_cell BK168.out 4).trans rfl, (blk_cell BK168.out 5).trans rfl, (blk_cell BK168.out 6).trans rfl⟩ (fun hHeld => ?_); refine with_tabW abaculuslaw40_ServeFine.tab9 abaculuslaw40_ServeFine.bits9 (fun HT_ HW_ => ?_)
          generalize w42.drew = w43 at HO_156006 BK155 BK168 HB hHeld ⊢
          refine one_ (i := 0) (N := some 60) #[true, false, false, false, false, false, false, false, false, false, false, false, false, false, false, false] rfl rfl (one_of HT_.out (by kernel_rfl)) (by decide) (fun K hK => ?_)
          refine goes_ Tryz.func6 (by kernel_rfl) rfl #[] (by rfl) rfl rfl (by (try simp only [List.map_toArray, List.map_cons, List.map_nil]); first | done | rfl | (simp only [List.length_drop, List.length_take]; rfl)) ?_
          with_reducible refine (abaculuslaw40_known.calls kj9  true _ A30.out).mono ?_
          rintro e w44 ⟨rfl, hb⟩
          refine ⟨_, rfl, ?_⟩
          have n0_ := Aside0.mk (Kd.N_below (by (with_reducible repeat (first | apply Kd.N_alloc | apply Kd.N_drewN | apply Kd.N_drew)); exact HO_156006.out) hb)
          have n1_ := Aside0.mk (blk_below (g := gb155) (o := .cells #[.int .i64 a0, .int .i64 a1, .int .i64 a2, .int .i64 a3, .string a4, .slice none 0 0, .slice Ao41 x156006_9.length co41] 25 (0, 0)) (by (with_reducible repeat (first | refine blk_drewN ?_ _ | refine blk_drew ?_ | refine blk_alloc ?_ _)); exact BK155.out) hb)
          have n2_ := Aside0.mk (blk_below (g := gb168) (o := .cells #[.int .i64 t169, .int .i64 t170, .int .i64 t171, .int .i64 t172, .string a4, .slice none 0 0, .slice Ao41 x156006_9.length co41] 25 (0, 0)) (by (with_reducible repeat (first | refine blk_drewN ?_ _ | refine blk_drew ?_ | refine blk_alloc ?_ _)); exact BK168.out) hb)
          have n3_ := Aside0.mk (below_step (by repeat (first | (with_reducible first | exact HB.out | apply below_alloc | apply pw_below_drewN | apply below_drew1 | refine below_set ?_ GE155.out | refine below_set ?_ GE168.out) | exact HB.out)) hb)
          clear HO_156006
          clear BK155
          clear BK168
          clear HB
          have HO_156006 := n0_
          have BK155 := n1_
          have BK168 := n2_
          have HB := n3_
          clear n0_ n1_ n2_ n3_
          (try clear hb)
          (try clear hb2)
          (try clear hk)
          (try clear hi)
          refine hK.out _ _ ⟨(blk_cell BK155.out 0).trans rfl, (blk_cell BK155.out 1).trans rfl, (blk_cell BK155.out 2).trans rfl, (blk_cell BK155.out 3).trans rfl, (blk_cell BK155.out 4).trans rfl, (blk_cell BK155.out 5).trans rfl, (blk_cell BK155.out 6).trans rfl, (blk_cell BK168.out 0).trans rfl, (blk_cell BK168.out 1).trans rfl, (blk_cell BK168.out 2).trans rfl, (blk_cell BK168.out 3).trans rfl, (blk_cell BK168.out 4).trans rfl, (blk_cell BK168.out 5).trans rfl, (blk_cell BK168.out 6).trans rfl⟩ (fun hHeld => ?_)
          clear hK K
          refine norm_ (a' := ?_) ?_ ?_
          rotate_left
          · show Act.put _ (some 60) _ = _
            simp only [Act.put, List.setIfInBounds_toArray, List.set_cons_zero, List.set_cons_succ, i64_w, i32_w]
            rfl
          refine pure_ (i := 1) (N := some 61) (v := ?_) (a' := ?_) #[true, true, false, false, false, false, false, false, false, false, false, false, false, false, false, false] rfl rfl (any_of HT_.out (by kernel_rfl)) (fun _ _ _ h => h) (Or.inl ⟨by rfl, ?_⟩) ?_ ?_
          rotate_left
          · intro w'
            go_simp
            with_reducible rfl
          rotate_left
          · simp only [Act.put, List.setIfInBounds_toArray, List.set_cons_zero, List.set_cons_succ, i64_w, i32_w]
            rfl
          refine take_ (i := 2) (N := some 62) (v := ?_) (a' := ?_) #[true, true, true, false, false, false, false, false, false, false, false, false, false, false, false, false] rfl rfl (take_ofW HT_.out HW_.out (by kernel_rfl)) (fun _ _ _ h => h) (Or.inl ⟨by rfl, ?_⟩) hHeld ?_ ?_
          rotate_left
          · rintro w' ⟨s0, s1, s2, s3, s4, s5, s6, s7, s8, s9, s10, s11, s12, s13⟩
            go_simp
            with_reducible rfl
          rotate_left
          · simp only [Act.put, List.setIfInBounds_toArray, List.set_cons_zero, List.set_cons_succ, i64_w, i32_w]
            rfl
          refine take_ (i := 4) (N := some 64) (v := ?_) (a' := ?_) #[true, true, true, false, true, false, false, false, false, false, false, false, false, false, false, false] rfl rfl (take_ofW HT_.out HW_.out (by kernel_rfl)) (fun _ _ _ h => h) (Or.inl ⟨by rfl, ?_⟩) hHeld ?_ ?_
          rotate_left
          · rintro w' ⟨s0, s1, s2, s3, s4, s5, s6, s7, s8, s9, s10, s11, s12, s13⟩
            go_simp
            with_reducible rfl
          rotate_left
          · simp only [Act.put, List.setIfInBounds_toArray, List.set_cons_zero, List.set_cons_succ, i64_w, i32_w]
            rfl
          refine one_ (i := 3) (N := some 63) #[true, true, true, true, true, false, false, false, false, false, false, false, false, false, false, false] rfl rfl (one_of HT_.out (by kernel_rfl)) (by decide) (fun K hK => ?_)
          refine goes_ Tryz.func7 (by kernel_rfl) rfl #[.agg #[.int .i64 a0, .int .i64 a1, .int .i64 a2, .int .i64 a3, .string a4, .slice none 0 0, .slice Ao41 x156006_9.length co41]] (by rfl) rfl rfl (by (try simp only [List.map_toArray, List.map_cons, List.map_nil]); first | done | rfl | (simp only [List.length_drop, List.length_take]; rfl)) ?_
          refine (serve_Fine.calls kj9 a0 a1 a2 a3 a4 _ _ ([] : List Int) _ _ x156006_9 t174 _ ?side1 ?side2 ?side3 ?side4 A32.out).mono ?_
          (case side1 => exact Kd.C_nil _ _)
          (case side2 => exact Nat.le_refl _)
          (case side3 => repeat (first | exact (Kd.N_reads' HO_156006.out).2.2 | (with_reducible refine Kd.C_alloc ?_ _) | (with_reducible refine Kd.C_drewN ?_ _) | (with_reducible refine Kd.C_drew ?_)))
          (case side4 => exact (Kd.N_reads' HO_156006.out).2.1)
          rintro e w45 ⟨rfl, hb⟩
          refine ⟨_, rfl, ?_⟩
          have n0_ := Aside0.mk (Kd.N_below (by (with_reducible repeat (first | apply Kd.N_alloc | apply Kd.N_drewN | apply Kd.N_drew)); exact HO_156006.out) hb)
          have n1_ := Aside0.mk (blk_below (g := gb155) (o := .cells #[.int .i64 a0, .int .i64 a1, .int .i64 a2, .int .i64 a3, .string a4, .slice none 0 0, .slice Ao41 x156006_9.length co41] 25 (0, 0)) (by (with_reducible repeat (first | refine blk_drewN ?_ _ | refine blk_drew ?_ | refine blk_alloc ?_ _)); exact BK155.out) hb)
          have n2_ := Aside0.mk (blk_below (g := gb168) (o := .cells #[.int .i64 t169, .int .i64 t170, .int .i64 t171, .int .i64 t172, .string a4, .slice none 0 0, .slice Ao41 x156006_9.length co41] 25 (0, 0)) (by (with_reducible repeat (first | refine blk_drewN ?_ _ | refine blk_drew ?_ | refine blk_alloc ?_ _)); exact BK168.out) hb)
          have n3_ := Aside0.mk (below_step (by repeat (first | (with_reducible first | exact HB.out | apply below_alloc | apply pw_below_drewN | apply below_drew1 | refine below_set ?_ GE155.out | refine below_set ?_ GE168.out) | exact HB.out)) hb)
          clear HO_156006
          clear BK155
          clear BK168
          clear HB
          have HO_156006 := n0_
          have BK155 := n1_
          have BK168 := n2_
          have HB := n3_
          clear n0_ n1_ n2_ n3_
          (try clear hb)
          (try clear hb2)
          (try clear hk)
          (try clear hi)
          refine hK.out _ _ ⟨(blk_cell BK155.out 0).trans rfl, (blk_cell BK155.out 1).trans rfl, (blk_cell BK155.out 2).trans rfl, (blk_cell BK155.out 3).trans rfl, (blk_cell BK155.out 4).trans rfl, (blk_cell BK155.out 5).trans rfl, (blk_cell BK155.out 6).trans rfl, (blk_cell BK168.out 0).trans rfl, (blk_cell BK168.out 1).trans rfl, (blk_cell BK168.out 2).trans rfl, (blk_cell BK168.out 3).trans rfl, (blk_cell BK168.out 4).trans rfl, (blk_cell BK168.out 5).trans rfl, (blk_cell BK168.out 6).trans rfl⟩ (fun hHeld => ?_)
          clear hK K
          refine norm_ (a' := ?_) ?_ ?_
          rotate_left
          · show Act.put _ (some 63) _ = _
            simp only [Act.put, List.setIfInBounds_toArray, List.set_cons_zero, List.set_cons_succ, i64_w, i32_w]
            rfl
          refine one_ (i := 5) (N := some 65) #[true, true, true, true, true, true, false, false, false, false, false, false, false, false, false, false] rfl rfl (one_of HT_.out (by kernel_rfl)) (by decide) (fun K hK => ?_)
          refine goes_ Tryz.func8 (by kernel_rfl) rfl #[.agg #[.int .i64 a0, .int .i64 a1, .int .i64 a2, .int .i64 a3, .string a4, .slice none 0 0, .slice Ao41 x156006_9.length co41]] (by rfl) rfl rfl (by (try simp only [List.map_toArray, List.map_cons, List.map_nil]); first | done | rfl | (simp only [List.length_drop, List.length_take]; rfl)) ?_
          refine (abaculusshelf_Fine.calls kj9 a0 a1 a2 a3 a4 _ _ ([] : List Int) _ _ x156006_9 t175 _ ?side1 ?side2 ?side3 ?side4 A33.out).mono ?_
          (case side1 => exact Kd.C_nil _ _)
          (case side2 => exact Nat.le_refl _)
          (case side3 => repeat (first | exact (Kd.N_reads' HO_156006.out).2.2 | (with_reducible refine Kd.C_alloc ?_ _) | (with_reducible refine Kd.C_drewN ?_ _) | (with_reducible refine Kd.C_drew ?_)))
          (case side4 => exact (Kd.N_reads' HO_156006.out).2.1)
          rintro e w46 ⟨rfl, hb⟩
          refine ⟨_, rfl, ?_⟩
          have n0_ := Aside0.mk (Kd.N_below (by (with_reducible repeat (first | apply Kd.N_alloc | apply Kd.N_drewN | apply Kd.N_drew)); exact HO_156006.out) hb)
          have n1_ := Aside0.mk (blk_below (g := gb155) (o := .cells #[.int .i64 a0, .int .i64 a1, .int .i64 a2, .int .i64 a3, .string a4, .slice none 0 0, .slice Ao41 x156006_9.length co41] 25 (0, 0)) (by (with_reducible repeat (first | refine blk_drewN ?_ _ | refine blk_drew ?_ | refine blk_alloc ?_ _)); exact BK155.out) hb)
          have n2_ := Aside0.mk (blk_below (g := gb168) (o := .cells #[.int .i64 t169, .int .i64 t170, .int .i64 t171, .int .i64 t172, .string a4, .slice none 0 0, .slice Ao41 x156006_9.length co41] 25 (0, 0)) (by (with_reducible repeat (first | refine blk_drewN ?_ _ | refine blk_drew ?_ | refine blk_alloc ?_ _)); exact BK168.out) hb)
          have n3_ := Aside0.mk (below_step (by repeat (first | (with_reducible first | exact HB.out | apply below_alloc | apply pw_below_drewN | apply below_drew1 | refine below_set ?_ GE155.out | refine below_set ?_ GE168.out) | exact HB.out)) hb)
          clear HO_156006
          clear BK155
          clear BK168
          clear HB
          have HO_156006 := n0_
          have BK155 := n1_
          have BK168 := n2_
          have HB := n3_
          clear n0_ n1_ n2_ n3_
          (try clear hb)
          (try clear hb2)
          (try clear hk)
          (try clear hi)
          refine hK.out _ _ ⟨(blk_cell BK155.out 0).trans rfl, (blk_cell BK155.out 1).trans rfl, (blk_cell BK155.out 2).trans rfl, (blk_cell BK155.out 3).trans rfl, (blk_cell BK155.out 4).trans rfl, (blk_cell BK155.out 5).trans rfl, (blk_cell BK155.out 6).trans rfl, (blk_cell BK168.out 0).trans rfl, (blk_cell BK168.out 1).trans rfl, (blk_cell BK168.out 2).trans rfl, (blk_cell BK168.out 3).trans rfl, (blk_cell BK168.out 4).trans rfl, (blk_cell BK168.out 5).trans rfl, (blk_cell BK168.out 6).trans rfl⟩ (fun hHeld => ?_)
          clear hK K
          refine norm_ (a' := ?_) ?_ ?_
          rotate_left
          · show Act.put _ (some 65) _ = _
            simp only [Act.put, List.setIfInBounds_toArray, List.set_cons_zero, List.set_cons_succ, i64_w, i32_w]
            rfl
          refine pure_ (i := 6) (N := some 66) (v := ?_) (a' := ?_) #[true, true, true, true, true, true, true, false, false, false, false, false, false, false, false, false] rfl rfl (any_of HT_.out (by kernel_rfl)) (fun _ _ _ h => h) (Or.inl ⟨by rfl, ?_⟩) ?_ ?_
          rotate_left
          · intro w'
            go_simp
            with_reducible rfl
          rotate_left
          · simp only [Act.put, List.setIfInBounds_toArray, List.set_cons_zero, List.set_cons_succ, i64_w, i32_w]
            rfl
          refine pure_ (i := 7) (N := some 67) (v := ?_) (a' := ?_) #[true, true, true, true, true, true, true, true, false, false, false, false, false, false, false, false] rfl rfl (any_of HT_.out (by kernel_rfl)) (fun _ _ _ h => h) (Or.inl ⟨by rfl, ?_⟩) ?_ ?_
          rotate_left
          · intro w'
            go_simp
            with_reducible rfl
          rotate_left
          · simp only [Act.put, List.setIfInBounds_toArray, List.set_cons_zero, List.set_cons_succ, i64_w, i32_w]
            rfl
          refine pure_ (i := 8) (N := some 68) (v := ?_) (a' := ?_) #[true, true, true, true, true, true, true, true, true, false, false, false, false, false, false, false] rfl rfl (any_of HT_.out (by kernel_rfl)) (fun _ _ _ h => h) (Or.inl ⟨by rfl, ?_⟩) ?_ ?_
          rotate_left
          · intro w'
            go_simp
            with_reducible rfl
          rotate_left
          · simp only [Act.put, List.setIfInBounds_toArray, List.set_cons_zero, List.set_cons_succ, i64_w, i32_w]
            rfl
          refine take_ (i := 9) (N := some 69) (v := ?_) (a' := ?_) #[true, true, true, true, true, true, true, true, true, true, false, false, false, false, false, false] rfl rfl (take_ofW HT_.out HW_.out (by kernel_rfl)) (fun _ _ _ h => h) (Or.inl ⟨by rfl, ?_⟩) hHeld ?_ ?_
          rotate_left
          · rintro w' ⟨s0, s1, s2, s3, s4, s5, s6, s7, s8, s9, s10, s11, s12, s13⟩
            go_simp
            with_reducible rfl
          rotate_left
          · simp only [Act.put, List.setIfInBounds_toArray, List.set_cons_zero, List.set_cons_succ, i64_w, i32_w]
            rfl
          refine take_ (i := 11) (N := some 71) (v := ?_) (a' := ?_) #[true, true, true, true, true, true, true, true, true, true, false, true, false, false, false, false] rfl rfl (take_ofW HT_.out HW_.out (by kernel_rfl)) (fun _ _ _ h => h) (Or.inl ⟨by rfl, ?_⟩) hHeld ?_ ?_
          rotate_left
          · rintro w' ⟨s0, s1, s2, s3, s4, s5, s6, s7, s8, s9, s10, s11, s12, s13⟩
            go_simp
            with_reducible rfl
          rotate_left
          · simp only [Act.put, List.setIfInBounds_toArray, List.set_cons_zero, List.set_cons_succ, i64_w, i32_w]
            rfl
          refine one_ (i := 10) (N := some 70) #[true, true, true, true, true, true, true, true, true, true, true, true, false, false, false, false] rfl rfl (one_of HT_.out (by kernel_rfl)) (by decide) (fun K hK => ?_)
          refine goes_ Tryz.func7 (by kernel_rfl) rfl #[.agg #[.int .i64 t169, .int .i64 t170, .int .i64 t171, .int .i64 t172, .string a4, .slice none 0 0, .slice Ao41 x156006_9.length co41]] (by rfl) rfl rfl (by (try simp only [List.map_toArray, List.map_cons, List.map_nil]); first | done | rfl | (simp only [List.length_drop, List.length_take]; rfl)) ?_
          refine (serve_Fine.calls kj9 t169 t170 t171 t172 a4 _ _ ([] : List Int) _ _ x156006_9 t176 _ ?side1 ?side2 ?side3 ?side4 A35.out).mono ?_
          (case side1 => exact Kd.C_nil _ _)
          (case side2 => exact Nat.le_refl _)
          (case side3 => repeat (first | exact (Kd.N_reads' HO_156006.out).2.2 | (with_reducible refine Kd.C_alloc ?_ _) | (with_reducible refine Kd.C_drewN ?_ _) | (with_reducible refine Kd.C_drew ?_)))
          (case side4 => exact (Kd.N_reads' HO_156006.out).2.1)
          rintro e w47 ⟨rfl, hb⟩
          refine ⟨_, rfl, ?_⟩
          have n0_ := Aside0.mk (Kd.N_below (by (with_reducible repeat (first | apply Kd.N_alloc | apply Kd.N_drewN | apply Kd.N_drew)); exact HO_156006.out) hb)
          have n1_ := Aside0.mk (blk_below (g := gb155) (o := .cells #[.int .i64 a0, .int .i64 a1, .int .i64 a2, .int .i64 a3, .string a4, .slice none 0 0, .slice Ao41 x156006_9.length co41] 25 (0, 0)) (by (with_reducible repeat (first | refine blk_drewN ?_ _ | refine blk_drew ?_ | refine blk_alloc ?_ _)); exact BK155.out) hb)
          have n2_ := Aside0.mk (blk_below (g := gb168) (o := .cells #[.int .i64 t169, .int .i64 t170, .int .i64 t171, .int .i64 t172, .string a4, .slice none 0 0, .slice Ao41 x156006_9.length co41] 25 (0, 0)) (by (with_reducible repeat (first | refine blk_drewN ?_ _ | refine blk_drew ?_ | refine blk_alloc ?_ _)); exact BK168.out) hb)
          have n3_ := Aside0.mk (below_step (by repeat (first | (with_reducible first | exact HB.out | apply below_alloc | apply pw_below_drewN | apply below_drew1 | refine below_set ?_ GE155.out | refine below_set ?_ GE168.out) | exact HB.out)) hb)
          clear HO_156006
          clear BK155
          clear BK168
          clear HB
          have HO_156006 := n0_
          have BK155 := n1_
          have BK168 := n2_
          have HB := n3_
          clear n0_ n1_ n2_ n3_
          (try clear hb)
          (try clear hb2)
          (try clear hk)
          (try clear hi)
          refine hK.out _ _ ⟨(blk_cell BK155.out 0).trans rfl, (blk_cell BK155.out 1).trans rfl, (blk_cell BK155.out 2).trans rfl, (blk_cell BK155.out 3).trans rfl, (blk_cell BK155.out 4).trans rfl, (blk_cell BK155.out 5).trans rfl, (blk_cell BK155.out 6).trans rfl, (blk_cell BK168.out 0).trans rfl, (blk_cell BK168.out 1).trans rfl, (blk_cell BK168.out 2).trans rfl, (blk_cell BK168.out 3).trans rfl, (blk_cell BK168.out 4).trans rfl, (blk_cell BK168.out 5).trans rfl, (blk_cell BK168.out 6).trans rfl⟩ (fun hHeld => ?_)
          clear hK K
          refine norm_ (a' := ?_) ?_ ?_
          rotate_left
          · show Act.put _ (some 70) _ = _
            simp only [Act.put, List.setIfInBounds_toArray, List.set_cons_zero, List.set_cons_succ, i64_w, i32_w]
            rfl
          refine one_ (i := 12) (N := some 72) #[true, true, true, true, true, true, true, true, true, true, true, true, true, false, false, false] rfl rfl (one_of HT_.out (by kernel_rfl)) (by decide) (fun K hK => ?_)
          refine goes_ Tryz.func8 (by kernel_rfl) rfl #[.agg #[.int .i64 t169, .int .i64 t170, .int .i64 t171, .int .i64 t172, .string a4, .slice none 0 0, .slice Ao41 x156006_9.length co41]] (by rfl) rfl rfl (by (try simp only [List.map_toArray, List.map_cons, List.map_nil]); first | done | rfl | (simp only [List.length_drop, List.length_take]; rfl)) ?_
          refine (abaculusshelf_Fine.calls kj9 t169 t170 t171 t172 a4 _ _ ([] : List Int) _ _ x156006_9 t177 _ ?side1 ?side2 ?side3 ?side4 A36.out).mono ?_
          (case side1 => exact Kd.C_nil _ _)
          (case side2 => exact Nat.le_refl _)
          (case side3 => repeat (first | exact (Kd.N_reads' HO_156006.out).2.2 | (with_reducible refine Kd.C_alloc ?_ _) | (with_reducible refine Kd.C_drewN ?_ _) | (with_reducible refine Kd.C_drew ?_)))
          (case side4 => exact (Kd.N_reads' HO_156006.out).2.1)
          rintro e w48 ⟨rfl, hb⟩
          refine ⟨_, rfl, ?_⟩
          have n0_ := Aside0.mk (Kd.N_below (by (with_reducible repeat (first | apply Kd.N_alloc | apply Kd.N_drewN | apply Kd.N_drew)); exact HO_156006.out) hb)
          have n1_ := Aside0.mk (blk_below (g := gb155) (o := .cells #[.int .i64 a0, .int .i64 a1, .int .i64 a2, .int .i64 a3, .string a4, .slice none 0 0, .slice Ao41 x156006_9.length co41] 25 (0, 0)) (by (with_reducible repeat (first | refine blk_drewN ?_ _ | refine blk_drew ?_ | refine blk_alloc ?_ _)); exact BK155.out) hb)
          have n2_ := Aside0.mk (blk_below (g := gb168) (o := .cells #[.int .i64 t169, .int .i64 t170, .int .i64 t171, .int .i64 t172, .string a4, .slice none 0 0, .slice Ao41 x156006_9.length co41] 25 (0, 0)) (by (with_reducible repeat (first | refine blk_drewN ?_ _ | refine blk_drew ?_ | refine blk_alloc ?_ _)); exact BK168.out) hb)
          have n3_ := Aside0.mk (below_step (by repeat (first | (with_reducible first | exact HB.out | apply below_alloc | apply pw_below_drewN | apply below_drew1 | refine below_set ?_ GE155.out | refine below_set ?_ GE168.out) | exact HB.out)) hb)
          clear HO_156006
          clear BK155
          clear BK168
          clear HB
          have HO_156006 := n0_
          have BK155 := n1_
          have BK168 := n2_
          have HB := n3_
          clear n0_ n1_ n2_ n3_
          (try clear hb)
          (try clear hb2)
          (try clear hk)
          (try clear hi)
          refine hK.out _ _ ⟨(blk_cell BK155.out 0).trans rfl, (blk_cell BK155.out 1).trans rfl, (blk_cell BK155.out 2).trans rfl, (blk_cell BK155.out 3).trans rfl, (blk_cell BK155.out 4).trans rfl, (blk_cell BK155.out 5).trans rfl, (blk_cell BK155.out 6).trans rfl, (blk_cell BK168.out 0).trans rfl, (blk_cell BK168.out 1).trans rfl, (blk_cell BK168.out 2).trans rfl, (blk_cell BK168.out 3).trans rfl, (blk_cell BK168.out 4).trans rfl, (blk_cell BK168.out 5).trans rfl, (blk_cell BK168.out 6).trans rfl⟩ (fun hHeld => ?_)
          clear hK K
          refine norm_ (a' := ?_) ?_ ?_
          rotate_left
          · show Act.put _ (some 72) _ = _
            simp only [Act.put, List.setIfInBounds_toArray, List.set_cons_zero, List.set_cons_succ, i64_w, i32_w]
            rfl
          refine pure_ (i := 13) (N := some 73) (v := ?_) (a' := ?_) #[true, true, true, true, true, true, true, true, true, true, true, true, true, true, false, false] rfl rfl (any_of HT_.out (by kernel_rfl)) (fun _ _ _ h => h) (Or.inl ⟨by rfl, ?_⟩) ?_ ?_
          rotate_left
          · intro w'
            go_simp
            with_reducible rfl
          rotate_left
          · simp only [Act.put, List.setIfInBounds_toArray, List.set_cons_zero, List.set_cons_succ, i64_w, i32_w]
            rfl
          refine pure_ (i := 14) (N := some 74) (v := ?_) (a' := ?_) #[true, true, true, true, true, true, true, true, true, true, true, true, true, true, true, false] rfl rfl (any_of HT_.out (by kernel_rfl)) (fun _ _ _ h => h) (Or.inl ⟨by rfl, ?_⟩) ?_ ?_
          rotate_left
          · intro w'
            go_simp
            with_reducible rfl
          rotate_left
          · simp only [Act.put, List.setIfInBounds_toArray, List.set_cons_zero, List.set_cons_succ, i64_w, i32_w]
            rfl
          refine pure_ (i := 15) (N := some 18) (v := ?_) (a' := ?_) #[true, true, true, true, true, true, true, true, true, true, true, true, true, true, true, true] rfl rfl (any_of HT_.out (by kernel_rfl)) (fun _ _ _ h => h) (Or.inl ⟨by rfl, ?_⟩) ?_ ?_
          rotate_left
          · intro w'
            go_simp
            with_reducible rfl
          rotate_left
          · simp only [Act.put, List.setIfInBounds_toArray, List.set_cons_zero, List.set_cons_succ, i64_w, i32_w]
            rfl
          refine done_ (done_of HT_.out (by kernel_rfl)) ?_
          try go_wp2
          go_ret
          exact ⟨by first | rfl | (simp [errW_none, errW_some] <;> rfl) | (simp [*, errW_none, errW_some] <;> rfl), by repeat (first | (with_reducible first | exact HB.out | apply below_alloc | apply pw_below_drewN | apply below_drew1 | refine below_set ?_ GE155.out | refine below_set ?_ GE168.out) | exact HB.out)⟩
        · rw [if_neg c34, hr0] at H
          cases H
      · exact absurd (Option.some.inj A30.out).symm c31
/-- THE ONE PURE STATEMENT of abaculuslaw40_ServeFine: yours. -/
def abaculuslaw40_ServeFine.Pure : Prop := ∀ (a0 : Int) (a1 : Int) (a2 : Int) (a3 : Int) (a4 : ByteArray) (a5 : Int) (a6 : Int) (a7 : Int) (a8 : Bool), (Lit.int .i64 a0).wf = true → (Lit.int .i64 a1).wf = true → (Lit.int .i64 a2).wf = true → (Lit.int .i64 a3).wf = true → a4.size ≤ 140737488351232 → (Lit.int .i64 a5).wf = true → (Lit.int .i64 a6).wf = true → (Lit.int .i64 a7).wf = true → ∃ k, abaculuslaw40_ServeFine.f k a0 a1 a2 a3 a4 a5 a6 a7 a8 = some true
theorem abaculuslaw40_ServeFine.walk (P : abaculuslaw40_ServeFine.Pure) (a0 : Int) (a1 : Int) (a2 : Int) (a3 : Int) (a4 : ByteArray) (a5 : Int) (a6 : Int) (a7 : Int) (a8 : Bool) (w : World) (w0 : (Lit.int .i64 a0).wf = true) (w1 : (Lit.int .i64 a1).wf = true) (w2 : (Lit.int .i64 a2).wf = true) (w3 : (Lit.int .i64 a3).wf = true) (w4 : a4.size ≤ 140737488351232) (w5 : (Lit.int .i64 a5).wf = true) (w6 : (Lit.int .i64 a6).wf = true) (w7 : (Lit.int .i64 a7).wf = true) :
    Calls Tryz.prog 3 #[.int .i64 a0, .int .i64 a1, .int .i64 a2, .int .i64 a3, .string a4, .int .i64 a5, .int .i64 a6, .int .i64 a7, .bool a8] w fun e w' => e = .returned (.bool true) ∧ Below w.heap.size w w' := by
  obtain ⟨k, h⟩ := P a0 a1 a2 a3 a4 a5 a6 a7 a8 w0 w1 w2 w3 w4 w5 w6 w7
  refine (abaculuslaw40_ServeFine.calls k a0 a1 a2 a3 a4 a5 a6 a7 a8 true w rfl h).mono ?_
  rintro e w' ⟨rfl, hd⟩
  exact ⟨rfl, hd⟩

end Go.Proofs.YtcejlemdfadbdaaGreat.QServe
