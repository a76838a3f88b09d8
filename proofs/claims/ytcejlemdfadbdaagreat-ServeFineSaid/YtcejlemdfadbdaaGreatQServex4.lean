/- ServeFine: a part of the walk of that statement. No conditions. -/
import Derived.Test.YtcejlemdfadbdaaGreatQServex0
import Derived.Test.YtcejlemdfadbdaaGreatQServex2
import Derived.Test.YtcejlemdfadbdaaGreatQServek
namespace Go.Proofs.YtcejlemdfadbdaaGreat.QServe
open Go.RowKit Go.Proofs.YtcejlemdfadbdaaGreatW.PrintWords Go.Proofs.YtcejlemdfadbdaaGreatW.PrintLast Go.Proofs.YtcejlemdfadbdaaGreatW.PrintMore
attribute [local go_sem] max2_int min2_int max_two min_two max_three min_three max_four min_four   -- for this text's walks alone
set_option linter.unusedVariables false
set_option linter.unusedSimpArgs false

/-! ### abaculusshelf_Fine: function 8 -/
mutual
def abaculusshelf_Fine.j0 : Nat → Bool → Int → Int → Int → Int → ByteArray → List Int → List (S36) → Option (Bool)
  | 0, _, _, _, _, _, _, _, _ => none
  | k + 1, x55, x152000, x152001, x152002, x152003, x152004, x152005, x152006 => if x55 = true then (some false) else (abaculusshelf_Fine.l0 k 0 x152000 x152001 x152002 x152003 x152004 x152005 x152006)
def abaculusshelf_Fine.l0 : Nat → Int → Int → Int → Int → Int → ByteArray → List Int → List (S36) → Option (Bool)
  | 0, _, _, _, _, _, _, _, _ => none
  | k + 1, x3, x152000, x152001, x152002, x152003, x152004, x152005, x152006 => if x3 < (x152006.length : Int) then (if 0 ≤ x3 then ((frac_Q_Sign.f k ((rd_T36 x152006 x3).f1.f0.f0) ((rd_T36 x152006 x3).f1.f0.f1.f0) ((rd_T36 x152006 x3).f1.f1.f0)).bind fun t154 => (if ((rd_T36 x152006 x3).f2) < 0 then (some false) else (if ((rd_T36 x152006 x3).f2) > 12 then (some false) else (if t154 = 0 then (if (rd_T36 x152006 x3).f0 = true then (if ((rd_T36 x152006 x3).f2) = 0 then (abaculusshelf_Fine.l0 k (wrap64 (x3 + 1)) x152000 x152001 x152002 x152003 x152004 x152005 x152006) else (some false)) else (abaculusshelf_Fine.l0 k (wrap64 (x3 + 1)) x152000 x152001 x152002 x152003 x152004 x152005 x152006)) else (if ((rd_T36 x152006 x3).f2) = 0 then (if (rd_T36 x152006 x3).f0 = true then (some false) else (abaculusshelf_Fine.l0 k (wrap64 (x3 + 1)) x152000 x152001 x152002 x152003 x152004 x152005 x152006)) else (some false)))))) else (none)) else (if (x152005.length : Int) = 0 then (if (x152006.length : Int) = 0 then (some true) else (some (x152000 == 4))) else (if x152000 = 1 then (if (x152006.length : Int) = 0 then (some true) else (some (x152000 == 4))) else (some false)))
end
def abaculusshelf_Fine.f (k : Nat) (a0_0 : Int) (a0_1 : Int) (a0_2 : Int) (a0_3 : Int) (a0_4 : ByteArray) (l0_5 : List Int) (l0_6 : List (S36)) : Option (Bool) := if a0_0 < 1 then (abaculusshelf_Fine.j0 k true a0_0 a0_1 a0_2 a0_3 a0_4 l0_5 l0_6) else (if a0_0 > 6 then (abaculusshelf_Fine.j0 k true a0_0 a0_1 a0_2 a0_3 a0_4 l0_5 l0_6) else (if a0_1 < 0 then (abaculusshelf_Fine.j0 k true a0_0 a0_1 a0_2 a0_3 a0_4 l0_5 l0_6) else (if a0_1 > 1073741824 then (abaculusshelf_Fine.j0 k true a0_0 a0_1 a0_2 a0_3 a0_4 l0_5 l0_6) else (if a0_2 < 0 then (abaculusshelf_Fine.j0 k true a0_0 a0_1 a0_2 a0_3 a0_4 l0_5 l0_6) else (if a0_2 > 1073741824 then (abaculusshelf_Fine.j0 k true a0_0 a0_1 a0_2 a0_3 a0_4 l0_5 l0_6) else (if a0_3 < 0 then (abaculusshelf_Fine.j0 k true a0_0 a0_1 a0_2 a0_3 a0_4 l0_5 l0_6) else (if a0_3 > 1073741824 then (abaculusshelf_Fine.j0 k true a0_0 a0_1 a0_2 a0_3 a0_4 l0_5 l0_6) else (if (a0_4.size : Int) > 20 then (abaculusshelf_Fine.j0 k true a0_0 a0_1 a0_2 a0_3 a0_4 l0_5 l0_6) else (abaculusshelf_Fine.j0 k (decide ((l0_6.length : Int) > 20)) a0_0 a0_1 a0_2 a0_3 a0_4 l0_5 l0_6)))))))))
theorem abaculusshelf_Fine.mono_l : ∀ k, (∀ y0 y1 y2 y3 y4 y5 y6 y7, LeO (abaculusshelf_Fine.j0 k y0 y1 y2 y3 y4 y5 y6 y7) (abaculusshelf_Fine.j0 (k + 1) y0 y1 y2 y3 y4 y5 y6 y7)) ∧ (∀ y0 y1 y2 y3 y4 y5 y6 y7, LeO (abaculusshelf_Fine.l0 k y0 y1 y2 y3 y4 y5 y6 y7) (abaculusshelf_Fine.l0 (k + 1) y0 y1 y2 y3 y4 y5 y6 y7))
  | 0 => ⟨fun _ _ _ _ _ _ _ _ r h => by simp [abaculusshelf_Fine.j0] at h, fun _ _ _ _ _ _ _ _ r h => by simp [abaculusshelf_Fine.l0] at h⟩
  | k + 1 => by
    obtain ⟨ih0, ih1⟩ := abaculusshelf_Fine.mono_l k
    refine ⟨?_, ?_⟩
    · intro y0 y1 y2 y3 y4 y5 y6 y7
      unfold abaculusshelf_Fine.j0
      repeat' first
      | (with_reducible exact ih0 _ _ _ _ _ _ _ _)
      | (with_reducible exact ih1 _ _ _ _ _ _ _ _)
      | (with_reducible exact frac_Q_Sign.mono _ _ _ _)
      | (with_reducible exact LeO.refl _)
      | (with_reducible exact LeO.none _)
      | (with_reducible refine LeO.ite ?_ ?_)
      | (with_reducible refine LeO.bind ?_ (fun _ => ?_))
      | exact ih0 _ _ _ _ _ _ _ _
      | exact ih1 _ _ _ _ _ _ _ _
      | exact frac_Q_Sign.mono _ _ _ _
      | exact LeO.none _
      | refine LeO.ite ?_ ?_
      | refine LeO.bind ?_ (fun _ => ?_)
    · intro y0 y1 y2 y3 y4 y5 y6 y7
      unfold abaculusshelf_Fine.l0
      repeat' first
      | (with_reducible exact ih0 _ _ _ _ _ _ _ _)
      | (with_reducible exact ih1 _ _ _ _ _ _ _ _)
      | (with_reducible exact frac_Q_Sign.mono _ _ _ _)
      | (with_reducible exact LeO.refl _)
      | (with_reducible exact LeO.none _)
      | (with_reducible refine LeO.ite ?_ ?_)
      | (with_reducible refine LeO.bind ?_ (fun _ => ?_))
      | exact ih0 _ _ _ _ _ _ _ _
      | exact ih1 _ _ _ _ _ _ _ _
      | exact frac_Q_Sign.mono _ _ _ _
      | exact LeO.none _
      | refine LeO.ite ?_ ?_
      | refine LeO.bind ?_ (fun _ => ?_)
theorem abaculusshelf_Fine.mono : ∀ a0 a1 a2 a3 a4 a5 a6 k, LeO (abaculusshelf_Fine.f k a0 a1 a2 a3 a4 a5 a6) (abaculusshelf_Fine.f (k + 1) a0 a1 a2 a3 a4 a5 a6) := by
  intro a0 a1 a2 a3 a4 a5 a6 k
  obtain ⟨ih0, ih1⟩ := abaculusshelf_Fine.mono_l k
  unfold abaculusshelf_Fine.f
  repeat' first
      | (with_reducible exact ih0 _ _ _ _ _ _ _ _)
      | (with_reducible exact ih1 _ _ _ _ _ _ _ _)
      | (with_reducible exact frac_Q_Sign.mono _ _ _ _)
      | (with_reducible exact LeO.refl _)
      | (with_reducible exact LeO.none _)
      | (with_reducible refine LeO.ite ?_ ?_)
      | (with_reducible refine LeO.bind ?_ (fun _ => ?_))
      | exact ih0 _ _ _ _ _ _ _ _
      | exact ih1 _ _ _ _ _ _ _ _
      | exact frac_Q_Sign.mono _ _ _ _
      | exact LeO.none _
      | refine LeO.ite ?_ ?_
      | refine LeO.bind ?_ (fun _ => ?_)
set_option maxHeartbeats 8000000 in
set_option maxRecDepth 100000 in
theorem abaculusshelf_Fine.calls (k : Nat) (a0_0 : Int) (a0_1 : Int) (a0_2 : Int) (a0_3 : Int) (a0_4 : ByteArray) (A0_5 : Option Addr) (c0_5 : Nat) (l0_5 : List Int) (A0_6 : Option Addr) (c0_6 : Nat) (l0_6 : List (S36)) (r : Bool) (w : World) (hr0_5 : Kd.C (Kd.int .u8) w A0_5 l0_5.length l0_5) (hc0_5 : l0_5.length ≤ c0_5) (hr0_6 : Kd.C k36 w A0_6 l0_6.length l0_6) (hc0_6 : l0_6.length ≤ c0_6) (h : abaculusshelf_Fine.f k a0_0 a0_1 a0_2 a0_3 a0_4 l0_5 l0_6 = some r) :
    Calls Tryz.prog 8 #[.agg #[.int .i64 a0_0, .int .i64 a0_1, .int .i64 a0_2, .int .i64 a0_3, .string a0_4, .slice A0_5 l0_5.length c0_5, .slice A0_6 l0_6.length c0_6]] w fun e w' => e = .returned (.bool r) ∧ Below w.heap.size w w' := by
  have hu25 := Tryz.underlying25
  have hu36 := Tryz.underlying36
  have hu33 := Tryz.underlying33
  have HR0_5 := Aside0.mk hr0_5
  have HC0_5 := Aside0.mk hc0_5
  clear hr0_5 hc0_5
  have HR0_6 := Aside0.mk hr0_6
  have HC0_6 := Aside0.mk hc0_6
  clear hr0_6 hc0_6
  have HB := Aside0.mk (Below.refl w.heap.size w)
  have H : (if a0_0 < 1 then (abaculusshelf_Fine.j0 k true a0_0 a0_1 a0_2 a0_3 a0_4 l0_5 l0_6) else (if a0_0 > 6 then (abaculusshelf_Fine.j0 k true a0_0 a0_1 a0_2 a0_3 a0_4 l0_5 l0_6) else (if a0_1 < 0 then (abaculusshelf_Fine.j0 k true a0_0 a0_1 a0_2 a0_3 a0_4 l0_5 l0_6) else (if a0_1 > 1073741824 then (abaculusshelf_Fine.j0 k true a0_0 a0_1 a0_2 a0_3 a0_4 l0_5 l0_6) else (if a0_2 < 0 then (abaculusshelf_Fine.j0 k true a0_0 a0_1 a0_2 a0_3 a0_4 l0_5 l0_6) else (if a0_2 > 1073741824 then (abaculusshelf_Fine.j0 k true a0_0 a0_1 a0_2 a0_3 a0_4 l0_5 l0_6) else (if a0_3 < 0 then (abaculusshelf_Fine.j0 k true a0_0 a0_1 a0_2 a0_3 a0_4 l0_5 l0_6) else (if a0_3 > 1073741824 then (abaculusshelf_Fine.j0 k true a0_0 a0_1 a0_2 a0_3 a0_4 l0_5 l0_6) else (if (a0_4.size : Int) > 20 then (abaculusshelf_Fine.j0 k true a0_0 a0_1 a0_2 a0_3 a0_4 l0_5 l0_6) else (abaculusshelf_Fine.j0 k (decide ((l0_6.length : Int) > 20)) a0_0 a0_1 a0_2 a0_3 a0_4 l0_5 l0_6)))))))))) = some r := h
  clear h
  have HC2 := Aside0.mk H
  clear H
  go_enter Tryz.func8, Tryz.ntmps8
  go_upto_region 1 with (first | ((with_reducible refine gate_dst (N := 1) rfl ?_); (try (refine gate_guard (by rfl) ?_; dsimp only)); refine box_event ?hg (N := 1) ?hd (cs := #[.int .i64 a0_0, .int .i64 a0_1, .int .i64 a0_2, .int .i64 a0_3, .string a0_4, .slice A0_5 l0_5.length c0_5, .slice A0_6 l0_6.length c0_6]) (t := 25) ?hr ?_; (case hd => rfl); (case hg => rfl); (case hr => first | (go_simp; done) | (go_simp; rfl)); intro gb151 hg w3 hbox hb; have n0_ := Aside0.mk (below_step (by repeat (first | (with_reducible first | exact HB.out | apply below_alloc | apply pw_below_drewN | apply below_drew1) | exact HB.out)) hb); have n1_ := Aside0.mk (hbox); have n2_ := Aside0.mk ((by rw [hg]; exact (below_size (by repeat (first | (with_reducible first | exact HB.out | apply below_alloc | apply pw_below_drewN | apply below_drew1) | exact HB.out))) : w.heap.size ≤ gb151)); have n3_ := Aside0.mk ((by rw [hg]; exact (below_size (by repeat (first | (with_reducible first | exact HB.out | apply below_alloc | apply pw_below_drewN | apply below_drew1) | exact HB.out))) : w.heap.size ≤ gb151)); clear HB; have HB := n0_; have BK151 := n1_; have GW151 := n2_; have GE151 := n3_; clear n0_ n1_ n2_ n3_; clear hb hbox hg))
  (try simp only [Act.put, List.setIfInBounds_toArray, List.set_cons_zero, List.set_cons_succ])
  go_cut [55] (fun v55 wc => ∃ (kq : Nat) (x55_1 : Bool), v55 = .bool x55_1 ∧ Aside0 (abaculusshelf_Fine.j0 kq x55_1 a0_0 a0_1 a0_2 a0_3 a0_4 l0_5 l0_6 = some r) ∧ Aside0 (kq ≤ k) ∧ Aside0 (wc.heap[gb151]? = some (.cells #[.int .i64 a0_0, .int .i64 a0_1, .int .i64 a0_2, .int .i64 a0_3, .string a0_4, (.slice A0_5 l0_5.length c0_5), (.slice A0_6 l0_6.length c0_6)] 25 (0, 0))) ∧ Aside0 (Below w.heap.size w wc))
  case first =>
    have H := HC2.out
    clear HC2
    by_cases c4 : a0_0 < 1
    · rw [if_pos c4] at H
      have c4b0 : decide (a0_0 < 1) = true := decide_eq_true c4
      clear c4
      (first | rw [c4b0] | (simp only [i64_w, i32_w]; rw [c4b0]) | skip)
      have H' := Aside0.mk H
      clear H
      have hcz5_0 : w3.cell? ⟨gb151, 0, none⟩ = some (.int .i64 a0_0) := (blk_cell BK151.out 0).trans rfl
      have hcz5_1 : w3.cell? ⟨gb151, 1, none⟩ = some (.int .i64 a0_1) := (blk_cell BK151.out 1).trans rfl
      have hcz5_2 : w3.cell? ⟨gb151, 2, none⟩ = some (.int .i64 a0_2) := (blk_cell BK151.out 2).trans rfl
      have hcz5_3 : w3.cell? ⟨gb151, 3, none⟩ = some (.int .i64 a0_3) := (blk_cell BK151.out 3).trans rfl
      have hcz5_4 : w3.cell? ⟨gb151, 4, none⟩ = some (.string a0_4) := (blk_cell BK151.out 4).trans rfl
      have hcz5_5 : w3.cell? ⟨gb151, 5, none⟩ = some (.slice A0_5 l0_5.length c0_5) := (blk_cell BK151.out 5).trans rfl
      have hcz5_6 : w3.cell? ⟨gb151, 6, none⟩ = some (.slice A0_6 l0_6.length c0_6) := (blk_cell BK151.out 6).trans rfl
      have hfz5_0 := blk_frozen BK151.out 0
      have hfz5_1 := blk_frozen BK151.out 1
      have hfz5_2 := blk_frozen BK151.out 2
      have hfz5_3 := blk_frozen BK151.out 3
      have hfz5_4 := blk_frozen BK151.out 4
      have hfz5_5 := blk_frozen BK151.out 5
      have hfz5_6 := blk_frozen BK151.out 6
      go_wp2
      go_meet
      case rel => exact ⟨_, (true), (by first | rfl | (simp; done) | (simp [*]; done)), H', ⟨by first | omega | exact Nat.le_refl _⟩, ⟨by (with_reducible repeat (first | refine blk_drewN ?_ _ | refine blk_drew ?_ | refine blk_alloc ?_ _)); exact BK151.out⟩, ⟨by repeat (first | (with_reducible first | exact HB.out | apply below_alloc | apply pw_below_drewN | apply below_drew1 | refine below_set ?_ GE151.out) | exact HB.out)⟩⟩
    · rw [if_neg c4] at H
      have c4b0 : decide (a0_0 < 1) = false := decide_eq_false c4
      clear c4
      (first | rw [c4b0] | (simp only [i64_w, i32_w]; rw [c4b0]) | skip)
      by_cases c6 : a0_0 > 6
      · rw [if_pos c6] at H
        have c6b0 : decide (6 < a0_0) = true := decide_eq_true c6
        clear c6
        have H' := Aside0.mk H
        clear H
        have hcz7_0 : w3.cell? ⟨gb151, 0, none⟩ = some (.int .i64 a0_0) := (blk_cell BK151.out 0).trans rfl
        have hcz7_1 : w3.cell? ⟨gb151, 1, none⟩ = some (.int .i64 a0_1) := (blk_cell BK151.out 1).trans rfl
        have hcz7_2 : w3.cell? ⟨gb151, 2, none⟩ = some (.int .i64 a0_2) := (blk_cell BK151.out 2).trans rfl
        have hcz7_3 : w3.cell? ⟨gb151, 3, none⟩ = some (.int .i64 a0_3) := (blk_cell BK151.out 3).trans rfl
        have hcz7_4 : w3.cell? ⟨gb151, 4, none⟩ = some (.string a0_4) := (blk_cell BK151.out 4).trans rfl
        have hcz7_5 : w3.cell? ⟨gb151, 5, none⟩ = some (.slice A0_5 l0_5.length c0_5) := (blk_cell BK151.out 5).trans rfl
        have hcz7_6 : w3.cell? ⟨gb151, 6, none⟩ = some (.slice A0_6 l0_6.length c0_6) := (blk_cell BK151.out 6).trans rfl
        have hfz7_0 := blk_frozen BK151.out 0
        have hfz7_1 := blk_frozen BK151.out 1
        have hfz7_2 := blk_frozen BK151.out 2
        have hfz7_3 := blk_frozen BK151.out 3
        have hfz7_4 := blk_frozen BK151.out 4
        have hfz7_5 := blk_frozen BK151.out 5
        have hfz7_6 := blk_frozen BK151.out 6
        go_wp2
        go_meet
        case rel => exact ⟨_, (true), (by first | rfl | (simp; done) | (simp [*]; done)), H', ⟨by first | omega | exact Nat.le_refl _⟩, ⟨by (with_reducible repeat (first | refine blk_drewN ?_ _ | refine blk_drew ?_ | refine blk_alloc ?_ _)); exact BK151.out⟩, ⟨by repeat (first | (with_reducible first | exact HB.out | apply below_alloc | apply pw_below_drewN | apply below_drew1 | refine below_set ?_ GE151.out) | exact HB.out)⟩⟩
      · rw [if_neg c6] at H
        have c6b0 : decide (6 < a0_0) = false := decide_eq_false c6
        clear c6
        by_cases c8 : a0_1 < 0
        · rw [if_pos c8] at H
          have c8b0 : decide (a0_1 < 0) = true := decide_eq_true c8
          clear c8
          have H' := Aside0.mk H
          clear H
          have hcz9_0 : w3.cell? ⟨gb151, 0, none⟩ = some (.int .i64 a0_0) := (blk_cell BK151.out 0).trans rfl
          have hcz9_1 : w3.cell? ⟨gb151, 1, none⟩ = some (.int .i64 a0_1) := (blk_cell BK151.out 1).trans rfl
          have hcz9_2 : w3.cell? ⟨gb151, 2, none⟩ = some (.int .i64 a0_2) := (blk_cell BK151.out 2).trans rfl
          have hcz9_3 : w3.cell? ⟨gb151, 3, none⟩ = some (.int .i64 a0_3) := (blk_cell BK151.out 3).trans rfl
          have hcz9_4 : w3.cell? ⟨gb151, 4, none⟩ = some (.string a0_4) := (blk_cell BK151.out 4).trans rfl
          have hcz9_5 : w3.cell? ⟨gb151, 5, none⟩ = some (.slice A0_5 l0_5.length c0_5) := (blk_cell BK151.out 5).trans rfl
          have hcz9_6 : w3.cell? ⟨gb151, 6, none⟩ = some (.slice A0_6 l0_6.length c0_6) := (blk_cell BK151.out 6).trans rfl
          have hfz9_0 := blk_frozen BK151.out 0
          have hfz9_1 := blk_frozen BK151.out 1
          have hfz9_2 := blk_frozen BK151.out 2
          have hfz9_3 := blk_frozen BK151.out 3
          have hfz9_4 := blk_frozen BK151.out 4
          have hfz9_5 := blk_frozen BK151.out 5
          have hfz9_6 := blk_frozen BK151.out 6
          go_wp2
          go_meet
          case rel => exact ⟨_, (true), (by first | rfl | (simp; done) | (simp [*]; done)), H', ⟨by first | omega | exact Nat.le_refl _⟩, ⟨by (with_reducible repeat (first | refine blk_drewN ?_ _ | refine blk_drew ?_ | refine blk_alloc ?_ _)); exact BK151.out⟩, ⟨by repeat (first | (with_reducible first | exact HB.out | apply below_alloc | apply pw_below_drewN | apply below_drew1 | refine below_set ?_ GE151.out) | exact HB.out)⟩⟩
        · rw [if_neg c8] at H
          have c8b0 : decide (a0_1 < 0) = false := decide_eq_false c8
          clear c8
          by_cases c10 : a0_1 > 1073741824
          · rw [if_pos c10] at H
            have c10b0 : decide (1073741824 < a0_1) = true := decide_eq_true c10
            clear c10
            have H' := Aside0.mk H
            clear H
            have hcz11_0 : w3.cell? ⟨gb151, 0, none⟩ = some (.int .i64 a0_0) := (blk_cell BK151.out 0).trans rfl
            have hcz11_1 : w3.cell? ⟨gb151, 1, none⟩ = some (.int .i64 a0_1) := (blk_cell BK151.out 1).trans rfl
            have hcz11_2 : w3.cell? ⟨gb151, 2, none⟩ = some (.int .i64 a0_2) := (blk_cell BK151.out 2).trans rfl
            have hcz11_3 : w3.cell? ⟨gb151, 3, none⟩ = some (.int .i64 a0_3) := (blk_cell BK151.out 3).trans rfl
            have hcz11_4 : w3.cell? ⟨gb151, 4, none⟩ = some (.string a0_4) := (blk_cell BK151.out 4).trans rfl
            have hcz11_5 : w3.cell? ⟨gb151, 5, none⟩ = some (.slice A0_5 l0_5.length c0_5) := (blk_cell BK151.out 5).trans rfl
            have hcz11_6 : w3.cell? ⟨gb151, 6, none⟩ = some (.slice A0_6 l0_6.length c0_6) := (blk_cell BK151.out 6).trans rfl
            have hfz11_0 := blk_frozen BK151.out 0
            have hfz11_1 := blk_frozen BK151.out 1
            have hfz11_2 := blk_frozen BK151.out 2
            have hfz11_3 := blk_frozen BK151.out 3
            have hfz11_4 := blk_frozen BK151.out 4
            have hfz11_5 := blk_frozen BK151.out 5
            have hfz11_6 := blk_frozen BK151.out 6
            go_wp2
            go_meet
            case rel => exact ⟨_, (true), (by first | rfl | (simp; done) | (simp [*]; done)), H', ⟨by first | omega | exact Nat.le_refl _⟩, ⟨by (with_reducible repeat (first | refine blk_drewN ?_ _ | refine blk_drew ?_ | refine blk_alloc ?_ _)); exact BK151.out⟩, ⟨by repeat (first | (with_reducible first | exact HB.out | apply below_alloc | apply pw_below_drewN | apply below_drew1 | refine below_set ?_ GE151.out) | exact HB.out)⟩⟩
          · rw [if_neg c10] at H
            have c10b0 : decide (1073741824 < a0_1) = false := decide_eq_false c10
            clear c10
            by_cases c12 : a0_2 < 0
            · rw [if_pos c12] at H
              have c12b0 : decide (a0_2 < 0) = true := decide_eq_true c12
              clear c12
              have H' := Aside0.mk H
              clear H
              have hcz13_0 : w3.cell? ⟨gb151, 0, none⟩ = some (.int .i64 a0_0) := (blk_cell BK151.out 0).trans rfl
              have hcz13_1 : w3.cell? ⟨gb151, 1, none⟩ = some (.int .i64 a0_1) := (blk_cell BK151.out 1).trans rfl
              have hcz13_2 : w3.cell? ⟨gb151, 2, none⟩ = some (.int .i64 a0_2) := (blk_cell BK151.out 2).trans rfl
              have hcz13_3 : w3.cell? ⟨gb151, 3, none⟩ = some (.int .i64 a0_3) := (blk_cell BK151.out 3).trans rfl
              have hcz13_4 : w3.cell? ⟨gb151, 4, none⟩ = some (.string a0_4) := (blk_cell BK151.out 4).trans rfl
              have hcz13_5 : w3.cell? ⟨gb151, 5, none⟩ = some (.slice A0_5 l0_5.length c0_5) := (blk_cell BK151.out 5).trans rfl
              have hcz13_6 : w3.cell? ⟨gb151, 6, none⟩ = some (.slice A0_6 l0_6.length c0_6) := (blk_cell BK151.out 6).trans rfl
              have hfz13_0 := blk_frozen BK151.out 0
              have hfz13_1 := blk_frozen BK151.out 1
              have hfz13_2 := blk_frozen BK151.out 2
              have hfz13_3 := blk_frozen BK151.out 3
              have hfz13_4 := blk_frozen BK151.out 4
              have hfz13_5 := blk_frozen BK151.out 5
              have hfz13_6 := blk_frozen BK151.out 6
              go_wp2
              go_meet
              case rel => exact ⟨_, (true), (by first | rfl | (simp; done) | (simp [*]; done)), H', ⟨by first | omega | exact Nat.le_refl _⟩, ⟨by (with_reducible repeat (first | refine blk_drewN ?_ _ | refine blk_drew ?_ | refine blk_alloc ?_ _)); exact BK151.out⟩, ⟨by repeat (first | (with_reducible first | exact HB.out | apply below_alloc | apply pw_below_drewN | apply below_drew1 | refine below_set ?_ GE151.out) | exact HB.out)⟩⟩
            · rw [if_neg c12] at H
              have c12b0 : decide (a0_2 < 0) = false := decide_eq_false c12
              clear c12
              by_cases c14 : a0_2 > 1073741824
              · rw [if_pos c14] at H
                have c14b0 : decide (1073741824 < a0_2) = true := decide_eq_true c14
                clear c14
                have H' := Aside0.mk H
                clear H
                have hcz15_0 : w3.cell? ⟨gb151, 0, none⟩ = some (.int .i64 a0_0) := (blk_cell BK151.out 0).trans rfl
                have hcz15_1 : w3.cell? ⟨gb151, 1, none⟩ = some (.int .i64 a0_1) := (blk_cell BK151.out 1).trans rfl
                have hcz15_2 : w3.cell? ⟨gb151, 2, none⟩ = some (.int .i64 a0_2) := (blk_cell BK151.out 2).trans rfl
                have hcz15_3 : w3.cell? ⟨gb151, 3, none⟩ = some (.int .i64 a0_3) := (blk_cell BK151.out 3).trans rfl
                have hcz15_4 : w3.cell? ⟨gb151, 4, none⟩ = some (.string a0_4) := (blk_cell BK151.out 4).trans rfl
                have hcz15_5 : w3.cell? ⟨gb151, 5, none⟩ = some (.slice A0_5 l0_5.length c0_5) := (blk_cell BK151.out 5).trans rfl
                have hcz15_6 : w3.cell? ⟨gb151, 6, none⟩ = some (.slice A0_6 l0_6.length c0_6) := (blk_cell BK151.out 6).trans rfl
                have hfz15_0 := blk_frozen BK151.out 0
                have hfz15_1 := blk_frozen BK151.out 1
                have hfz15_2 := blk_frozen BK151.out 2
                have hfz15_3 := blk_frozen BK151.out 3
                have hfz15_4 := blk_frozen BK151.out 4
                have hfz15_5 := blk_frozen BK151.out 5
                have hfz15_6 := blk_frozen BK151.out 6
                go_wp2
                go_meet
                case rel => exact ⟨_, (true), (by first | rfl | (simp; done) | (simp [*]; done)), H', ⟨by first | omega | exact Nat.le_refl _⟩, ⟨by (with_reducible repeat (first | refine blk_drewN ?_ _ | refine blk_drew ?_ | refine blk_alloc ?_ _)); exact BK151.out⟩, ⟨by repeat (first | (with_reducible first | exact HB.out | apply below_alloc | apply pw_below_drewN | apply below_drew1 | refine below_set ?_ GE151.out) | exact HB.out)⟩⟩
              · rw [if_neg c14] at H
                have c14b0 : decide (1073741824 < a0_2) = false := decide_eq_false c14
                clear c14
                by_cases c16 : a0_3 < 0
                · rw [if_pos c16] at H
                  have c16b0 : decide (a0_3 < 0) = true := decide_eq_true c16
                  clear c16
                  have H' := Aside0.mk H
                  clear H
                  have hcz17_0 : w3.cell? ⟨gb151, 0, none⟩ = some (.int .i64 a0_0) := (blk_cell BK151.out 0).trans rfl
                  have hcz17_1 : w3.cell? ⟨gb151, 1, none⟩ = some (.int .i64 a0_1) := (blk_cell BK151.out 1).trans rfl
                  have hcz17_2 : w3.cell? ⟨gb151, 2, none⟩ = some (.int .i64 a0_2) := (blk_cell BK151.out 2).trans rfl
                  have hcz17_3 : w3.cell? ⟨gb151, 3, none⟩ = some (.int .i64 a0_3) := (blk_cell BK151.out 3).trans rfl
                  have hcz17_4 : w3.cell? ⟨gb151, 4, none⟩ = some (.string a0_4) := (blk_cell BK151.out 4).trans rfl
                  have hcz17_5 : w3.cell? ⟨gb151, 5, none⟩ = some (.slice A0_5 l0_5.length c0_5) := (blk_cell BK151.out 5).trans rfl
                  have hcz17_6 : w3.cell? ⟨gb151, 6, none⟩ = some (.slice A0_6 l0_6.length c0_6) := (blk_cell BK151.out 6).trans rfl
                  have hfz17_0 := blk_frozen BK151.out 0
                  have hfz17_1 := blk_frozen BK151.out 1
                  have hfz17_2 := blk_frozen BK151.out 2
                  have hfz17_3 := blk_frozen BK151.out 3
                  have hfz17_4 := blk_frozen BK151.out 4
                  have hfz17_5 := blk_frozen BK151.out 5
                  have hfz17_6 := blk_frozen BK151.out 6
                  go_wp2
                  go_meet
                  case rel => exact ⟨_, (true), (by first | rfl | (simp; done) | (simp [*]; done)), H', ⟨by first | omega | exact Nat.le_refl _⟩, ⟨by (with_reducible repeat (first | refine blk_drewN ?_ _ | refine blk_drew ?_ | refine blk_alloc ?_ _)); exact BK151.out⟩, ⟨by repeat (first | (with_reducible first | exact HB.out | apply below_alloc | apply pw_below_drewN | apply below_drew1 | refine below_set ?_ GE151.out) | exact HB.out)⟩⟩
                · rw [if_neg c16] at H
                  have c16b0 : decide (a0_3 < 0) = false := decide_eq_false c16
                  clear c16
                  by_cases c18 : a0_3 > 1073741824
                  · rw [if_pos c18] at H
                    have c18b0 : decide (1073741824 < a0_3) = true := decide_eq_true c18
                    clear c18
                    have H' := Aside0.mk H
                    clear H
                    have hcz19_0 : w3.cell? ⟨gb151, 0, none⟩ = some (.int .i64 a0_0) := (blk_cell BK151.out 0).trans rfl
                    have hcz19_1 : w3.cell? ⟨gb151, 1, none⟩ = some (.int .i64 a0_1) := (blk_cell BK151.out 1).trans rfl
                    have hcz19_2 : w3.cell? ⟨gb151, 2, none⟩ = some (.int .i64 a0_2) := (blk_cell BK151.out 2).trans rfl
                    have hcz19_3 : w3.cell? ⟨gb151, 3, none⟩ = some (.int .i64 a0_3) := (blk_cell BK151.out 3).trans rfl
                    have hcz19_4 : w3.cell? ⟨gb151, 4, none⟩ = some (.string a0_4) := (blk_cell BK151.out 4).trans rfl
                    have hcz19_5 : w3.cell? ⟨gb151, 5, none⟩ = some (.slice A0_5 l0_5.length c0_5) := (blk_cell BK151.out 5).trans rfl
                    have hcz19_6 : w3.cell? ⟨gb151, 6, none⟩ = some (.slice A0_6 l0_6.length c0_6) := (blk_cell BK151.out 6).trans rfl
                    have hfz19_0 := blk_frozen BK151.out 0
                    have hfz19_1 := blk_frozen BK151.out 1
                    have hfz19_2 := blk_frozen BK151.out 2
                    have hfz19_3 := blk_frozen BK151.out 3
                    have hfz19_4 := blk_frozen BK151.out 4
                    have hfz19_5 := blk_frozen BK151.out 5
                    have hfz19_6 := blk_frozen BK151.out 6
                    go_wp2
                    go_meet
                    case rel => exact ⟨_, (true), (by first | rfl | (simp; done) | (simp [*]; done)), H', ⟨by first | omega | exact Nat.le_refl _⟩, ⟨by (with_reducible repeat (first | refine blk_drewN ?_ _ | refine blk_drew ?_ | refine blk_alloc ?_ _)); exact BK151.out⟩, ⟨by repeat (first | (with_reducible first | exact HB.out | apply below_alloc | apply pw_below_drewN | apply below_drew1 | refine below_set ?_ GE151.out) | exact HB.out)⟩⟩
                  · rw [if_neg c18] at H
                    have c18b0 : decide (1073741824 < a0_3) = false := decide_eq_false c18
                    clear c18
                    by_cases c20 : (a0_4.size : Int) > 20
                    · rw [if_pos c20] at H
                      have c20b0 : decide (20 < (a0_4.size : Int)) = true := decide_eq_true c20
                      have c20b1 : decide (20 < a0_4.size) = true := decide_eq_true (by omega)
                      clear c20
                      have H' := Aside0.mk H
                      clear H
                      have hcz21_0 : w3.cell? ⟨gb151, 0, none⟩ = some (.int .i64 a0_0) := (blk_cell BK151.out 0).trans rfl
                      have hcz21_1 : w3.cell? ⟨gb151, 1, none⟩ = some (.int .i64 a0_1) := (blk_cell BK151.out 1).trans rfl
                      have hcz21_2 : w3.cell? ⟨gb151, 2, none⟩ = some (.int .i64 a0_2) := (blk_cell BK151.out 2).trans rfl
                      have hcz21_3 : w3.cell? ⟨gb151, 3, none⟩ = some (.int .i64 a0_3) := (blk_cell BK151.out 3).trans rfl
                      have hcz21_4 : w3.cell? ⟨gb151, 4, none⟩ = some (.string a0_4) := (blk_cell BK151.out 4).trans rfl
                      have hcz21_5 : w3.cell? ⟨gb151, 5, none⟩ = some (.slice A0_5 l0_5.length c0_5) := (blk_cell BK151.out 5).trans rfl
                      have hcz21_6 : w3.cell? ⟨gb151, 6, none⟩ = some (.slice A0_6 l0_6.length c0_6) := (blk_cell BK151.out 6).trans rfl
                      have hfz21_0 := blk_frozen BK151.out 0
                      have hfz21_1 := blk_frozen BK151.out 1
                      have hfz21_2 := blk_frozen BK151.out 2
                      have hfz21_3 := blk_frozen BK151.out 3
                      have hfz21_4 := blk_frozen BK151.out 4
                      have hfz21_5 := blk_frozen BK151.out 5
                      have hfz21_6 := blk_frozen BK151.out 6
                      go_wp2
                      go_meet
                      case rel => exact ⟨_, (true), (by first | rfl | (simp; done) | (simp [*]; done)), H', ⟨by first | omega | exact Nat.le_refl _⟩, ⟨by (with_reducible repeat (first | refine blk_drewN ?_ _ | refine blk_drew ?_ | refine blk_alloc ?_ _)); exact BK151.out⟩, ⟨by repeat (first | (with_reducible first | exact HB.out | apply below_alloc | apply pw_below_drewN | apply below_drew1 | refine below_set ?_ GE151.out) | exact HB.out)⟩⟩
                    · rw [if_neg c20] at H
                      have c20b0 : decide (20 < (a0_4.size : Int)) = false := decide_eq_false c20
                      have c20b1 : decide (20 < a0_4.size) = false := decide_eq_false (by omega)
                      clear c20
                      have H' := Aside0.mk H
                      clear H
                      have hcz22_0 : w3.cell? ⟨gb151, 0, none⟩ = some (.int .i64 a0_0) := (blk_cell BK151.out 0).trans rfl
                      have hcz22_1 : w3.cell? ⟨gb151, 1, none⟩ = some (.int .i64 a0_1) := (blk_cell BK151.out 1).trans rfl
                      have hcz22_2 : w3.cell? ⟨gb151, 2, none⟩ = some (.int .i64 a0_2) := (blk_cell BK151.out 2).trans rfl
                      have hcz22_3 : w3.cell? ⟨gb151, 3, none⟩ = some (.int .i64 a0_3) := (blk_cell BK151.out 3).trans rfl
                      have hcz22_4 : w3.cell? ⟨gb151, 4, none⟩ = some (.string a0_4) := (blk_cell BK151.out 4).trans rfl
                      have hcz22_5 : w3.cell? ⟨gb151, 5, none⟩ = some (.slice A0_5 l0_5.length c0_5) := (blk_cell BK151.out 5).trans rfl
                      have hcz22_6 : w3.cell? ⟨gb151, 6, none⟩ = some (.slice A0_6 l0_6.length c0_6) := (blk_cell BK151.out 6).trans rfl
                      have hfz22_0 := blk_frozen BK151.out 0
                      have hfz22_1 := blk_frozen BK151.out 1
                      have hfz22_2 := blk_frozen BK151.out 2
                      have hfz22_3 := blk_frozen BK151.out 3
                      have hfz22_4 := blk_frozen BK151.out 4
                      have hfz22_5 := blk_frozen BK151.out 5
                      have hfz22_6 := blk_frozen BK151.out 6
                      go_wp2
                      go_meet
                      case rel => exact ⟨_, (decide ((l0_6.length : Int) > 20)), (by first | rfl | (simp; done) | (simp [*]; done)), H', ⟨by first | omega | exact Nat.le_refl _⟩, ⟨by (with_reducible repeat (first | refine blk_drewN ?_ _ | refine blk_drew ?_ | refine blk_alloc ?_ _)); exact BK151.out⟩, ⟨by repeat (first | (with_reducible first | exact HB.out | apply below_alloc | apply pw_below_drewN | apply below_drew1 | refine below_set ?_ GE151.out) | exact HB.out)⟩⟩
  case rest =>
    clear HC2
    try clear c1
    try clear c2
    try clear p2
    try clear c4
    try clear c4b0
    try clear c6
    try clear c6b0
    try clear c8
    try clear c8b0
    try clear c10
    try clear c10b0
    try clear c12
    try clear c12b0
    try clear c14
    try clear c14b0
    try clear c16
    try clear c16b0
    try clear c18
    try clear c18b0
    try clear c20
    try clear c20b0
    try clear c20b1
    try clear hcz11_0
    try clear hcz11_1
    try clear hcz11_2
    try clear hcz11_3
    try clear hcz11_4
    try clear hcz11_5
    try clear hcz11_6
    try clear hcz13_0
    try clear hcz13_1
    try clear hcz13_2
    try clear hcz13_3
    try clear hcz13_4
    try clear hcz13_5
    try clear hcz13_6
    try clear hcz15_0
    try clear hcz15_1
    try clear hcz15_2
    try clear hcz15_3
    try clear hcz15_4
    try clear hcz15_5
    try clear hcz15_6
    try clear hcz17_0
    try clear hcz17_1
    try clear hcz17_2
    try clear hcz17_3
    try clear hcz17_4
    try clear hcz17_5
    try clear hcz17_6
    try clear hcz19_0
    try clear hcz19_1
    try clear hcz19_2
    try clear hcz19_3
    try clear hcz19_4
    try clear hcz19_5
    try clear hcz19_6
    try clear hcz21_0
    try clear hcz21_1
    try clear hcz21_2
    try clear hcz21_3
    try clear hcz21_4
    try clear hcz21_5
    try clear hcz21_6
    try clear hcz22_0
    try clear hcz22_1
    try clear hcz22_2
    try clear hcz22_3
    try clear hcz22_4
    try clear hcz22_5
    try clear hcz22_6
    try clear hcz5_0
    try clear hcz5_1
    try clear hcz5_2
    try clear hcz5_3
    try clear hcz5_4
    try clear hcz5_5
    try clear hcz5_6
    try clear hcz7_0
    try clear hcz7_1
    try clear hcz7_2
    try clear hcz7_3
    try clear hcz7_4
    try clear hcz7_5
    try clear hcz7_6
    try clear hcz9_0
    try clear hcz9_1
    try clear hcz9_2
    try clear hcz9_3
    try clear hcz9_4
    try clear hcz9_5
    try clear hcz9_6
    try clear hfz11_0
    try clear hfz11_1
    try clear hfz11_2
    try clear hfz11_3
    try clear hfz11_4
    try clear hfz11_5
    try clear hfz11_6
    try clear hfz13_0
    try clear hfz13_1
    try clear hfz13_2
    try clear hfz13_3
    try clear hfz13_4
    try clear hfz13_5
    try clear hfz13_6
    try clear hfz15_0
    try clear hfz15_1
    try clear hfz15_2
    try clear hfz15_3
    try clear hfz15_4
    try clear hfz15_5
    try clear hfz15_6
    try clear hfz17_0
    try clear hfz17_1
    try clear hfz17_2
    try clear hfz17_3
    try clear hfz17_4
    try clear hfz17_5
    try clear hfz17_6
    try clear hfz19_0
    try clear hfz19_1
    try clear hfz19_2
    try clear hfz19_3
    try clear hfz19_4
    try clear hfz19_5
    try clear hfz19_6
    try clear hfz21_0
    try clear hfz21_1
    try clear hfz21_2
    try clear hfz21_3
    try clear hfz21_4
    try clear hfz21_5
    try clear hfz21_6
    try clear hfz22_0
    try clear hfz22_1
    try clear hfz22_2
    try clear hfz22_3
    try clear hfz22_4
    try clear hfz22_5
    try clear hfz22_6
    try clear hfz5_0
    try clear hfz5_1
    try clear hfz5_2
    try clear hfz5_3
    try clear hfz5_4
    try clear hfz5_5
    try clear hfz5_6
    try clear hfz7_0
    try clear hfz7_1
    try clear hfz7_2
    try clear hfz7_3
    try clear hfz7_4
    try clear hfz7_5
    try clear hfz7_6
    try clear hfz9_0
    try clear hfz9_1
    try clear hfz9_2
    try clear hfz9_3
    try clear hfz9_4
    try clear hfz9_5
    try clear hfz9_6
    obtain ⟨kq, x55_1, rfl, HA, HJ1, BK151, HB⟩ := hcut
    cases kq with
    | zero => exact absurd HA.out (by simp [abaculusshelf_Fine.j0])
    | succ kj1 =>
      have H := HA.out
      clear HA
      simp only [abaculusshelf_Fine.j0] at H
      by_cases c23 : x55_1 = true
      · subst c23
        have H1 : (some false) = some r := by rw [if_pos rfl] at H; exact H
        clear H
        have H := H1
        clear H1
        obtain rfl := Option.some.inj H
        go_wp2
        go_ret
        exact ⟨by first | rfl | (simp [errW_none, errW_some] <;> rfl) | (simp [*, errW_none, errW_some] <;> rfl), by repeat (first | (with_reducible first | exact HB.out | apply below_alloc | apply pw_below_drewN | apply below_drew1 | refine below_set ?_ GE151.out) | exact HB.out)⟩
      · replace c23 := Bool.eq_false_iff.mpr c23
        subst c23
        have H1 : (abaculusshelf_Fine.l0 kj1 0 a0_0 a0_1 a0_2 a0_3 a0_4 l0_5 l0_6) = some r := by rw [if_neg (show ¬ (false = true) by decide)] at H; exact H
        clear H
        have H := H1
        clear H1
        have H' := Aside0.mk H
        clear H
        go_wp2
        go_loopg [3] kj1 (fun kq v3 w' => ∃ (x3_2 : Int), v3 = .int .i64 x3_2 ∧ Aside0 (abaculusshelf_Fine.l0 kq x3_2 a0_0 a0_1 a0_2 a0_3 a0_4 l0_5 l0_6 = some r) ∧ Aside0 (kq ≤ kj1) ∧ Aside0 (w'.heap[gb151]? = some (.cells #[.int .i64 a0_0, .int .i64 a0_1, .int .i64 a0_2, .int .i64 a0_3, .string a0_4, (.slice A0_5 l0_5.length c0_5), (.slice A0_6 l0_6.length c0_6)] 25 (0, 0))) ∧ Aside0 (Below w.heap.size w w'))
        case atStart => exact ⟨(0), (by first | rfl | (simp; done) | (simp [*]; done)), H', ⟨Nat.le_refl _⟩, ⟨by (with_reducible repeat (first | refine blk_drewN ?_ _ | refine blk_drew ?_ | refine blk_alloc ?_ _)); exact BK151.out⟩, ⟨by repeat (first | (with_reducible first | exact HB.out | apply below_alloc | apply pw_below_drewN | apply below_drew1 | refine below_set ?_ GE151.out) | exact HB.out)⟩⟩
        case round =>
          clear H'
          try clear c1
          try clear c2
          try clear p2
          try clear c4
          try clear c4b0
          try clear c6
          try clear c6b0
          try clear c8
          try clear c8b0
          try clear c10
          try clear c10b0
          try clear c12
          try clear c12b0
          try clear c14
          try clear c14b0
          try clear c16
          try clear c16b0
          try clear c18
          try clear c18b0
          try clear c20
          try clear c20b0
          try clear c20b1
          try clear c23
          try clear hcz11_0
          try clear hcz11_1
          try clear hcz11_2
          try clear hcz11_3
          try clear hcz11_4
          try clear hcz11_5
          try clear hcz11_6
          try clear hcz13_0
          try clear hcz13_1
          try clear hcz13_2
          try clear hcz13_3
          try clear hcz13_4
          try clear hcz13_5
          try clear hcz13_6
          try clear hcz15_0
          try clear hcz15_1
          try clear hcz15_2
          try clear hcz15_3
          try clear hcz15_4
          try clear hcz15_5
          try clear hcz15_6
          try clear hcz17_0
          try clear hcz17_1
          try clear hcz17_2
          try clear hcz17_3
          try clear hcz17_4
          try clear hcz17_5
          try clear hcz17_6
          try clear hcz19_0
          try clear hcz19_1
          try clear hcz19_2
          try clear hcz19_3
          try clear hcz19_4
          try clear hcz19_5
          try clear hcz19_6
          try clear hcz21_0
          try clear hcz21_1
          try clear hcz21_2
          try clear hcz21_3
          try clear hcz21_4
          try clear hcz21_5
          try clear hcz21_6
          try clear hcz22_0
          try clear hcz22_1
          try clear hcz22_2
          try clear hcz22_3
          try clear hcz22_4
          try clear hcz22_5
          try clear hcz22_6
          try clear hcz5_0
          try clear hcz5_1
          try clear hcz5_2
          try clear hcz5_3
          try clear hcz5_4
          try clear hcz5_5
          try clear hcz5_6
          try clear hcz7_0
          try clear hcz7_1
          try clear hcz7_2
          try clear hcz7_3
          try clear hcz7_4
          try clear hcz7_5
          try clear hcz7_6
          try clear hcz9_0
          try clear hcz9_1
          try clear hcz9_2
          try clear hcz9_3
          try clear hcz9_4
          try clear hcz9_5
          try clear hcz9_6
          try clear hfz11_0
          try clear hfz11_1
          try clear hfz11_2
          try clear hfz11_3
          try clear hfz11_4
          try clear hfz11_5
          try clear hfz11_6
          try clear hfz13_0
          try clear hfz13_1
          try clear hfz13_2
          try clear hfz13_3
          try clear hfz13_4
          try clear hfz13_5
          try clear hfz13_6
          try clear hfz15_0
          try clear hfz15_1
          try clear hfz15_2
          try clear hfz15_3
          try clear hfz15_4
          try clear hfz15_5
          try clear hfz15_6
          try clear hfz17_0
          try clear hfz17_1
          try clear hfz17_2
          try clear hfz17_3
          try clear hfz17_4
          try clear hfz17_5
          try clear hfz17_6
          try clear hfz19_0
          try clear hfz19_1
          try clear hfz19_2
          try clear hfz19_3
          try clear hfz19_4
          try clear hfz19_5
          try clear hfz19_6
          try clear hfz21_0
          try clear hfz21_1
          try clear hfz21_2
          try clear hfz21_3
          try clear hfz21_4
          try clear hfz21_5
          try clear hfz21_6
          try clear hfz22_0
          try clear hfz22_1
          try clear hfz22_2
          try clear hfz22_3
          try clear hfz22_4
          try clear hfz22_5
          try clear hfz22_6
          try clear hfz5_0
          try clear hfz5_1
          try clear hfz5_2
          try clear hfz5_3
          try clear hfz5_4
          try clear hfz5_5
          try clear hfz5_6
          try clear hfz7_0
          try clear hfz7_1
          try clear hfz7_2
          try clear hfz7_3
          try clear hfz7_4
          try clear hfz7_5
          try clear hfz7_6
          try clear hfz9_0
          try clear hfz9_1
          try clear hfz9_2
          try clear hfz9_3
          try clear hfz9_4
          try clear hfz9_5
          try clear hfz9_6
          try clear p2
          obtain ⟨x3_2, rfl, HA, HK2, BK151, HB⟩ := hrel
          cases gk with
          | zero => exact absurd HA.out (by simp [abaculusshelf_Fine.l0])
          | succ k2 =>
            have H := HA.out
            clear HA
            simp only [abaculusshelf_Fine.l0] at H
            by_cases c24 : x3_2 < (l0_6.length : Int)
            · rw [if_pos c24] at H
              have c24b0 : decide (x3_2 < (l0_6.length : Int)) = true := decide_eq_true c24
              clear c24
              by_cases c25 : 0 ≤ x3_2
              · rw [if_pos c25] at H
                have c25b0 : decide (0 ≤ x3_2) = true := decide_eq_true c25
                clear c25
                replace H := Option.bind_eq_some_iff.mp H
                obtain ⟨t154, A260, H⟩ := H
                replace H : (if ((rd_T36 l0_6 x3_2).f2) < 0 then (some false) else (if ((rd_T36 l0_6 x3_2).f2) > 12 then (some false) else (if t154 = 0 then (if (rd_T36 l0_6 x3_2).f0 = true then (if ((rd_T36 l0_6 x3_2).f2) = 0 then (abaculusshelf_Fine.l0 k2 (wrap64 (x3_2 + 1)) a0_0 a0_1 a0_2 a0_3 a0_4 l0_5 l0_6) else (some false)) else (abaculusshelf_Fine.l0 k2 (wrap64 (x3_2 + 1)) a0_0 a0_1 a0_2 a0_3 a0_4 l0_5 l0_6)) else (if ((rd_T36 l0_6 x3_2).f2) = 0 then (if (rd_T36 l0_6 x3_2).f0 = true then (some false) else (abaculusshelf_Fine.l0 k2 (wrap64 (x3_2 + 1)) a0_0 a0_1 a0_2 a0_3 a0_4 l0_5 l0_6)) else (some false))))) = some r := H
                have A26 := Aside0.mk A260
                clear A260
                by_cases c27 : ((rd_T36 l0_6 x3_2).f2) < 0
                · rw [if_pos c27] at H
                  have c27b0 : decide (((rd_T36 l0_6 x3_2).f2) < 0) = true := decide_eq_true c27
                  clear c27
                  obtain rfl := Option.some.inj H
                  have hcz28_0 : wr.cell? ⟨gb151, 0, none⟩ = some (.int .i64 a0_0) := (blk_cell BK151.out 0).trans rfl
                  have hcz28_1 : wr.cell? ⟨gb151, 1, none⟩ = some (.int .i64 a0_1) := (blk_cell BK151.out 1).trans rfl
                  have hcz28_2 : wr.cell? ⟨gb151, 2, none⟩ = some (.int .i64 a0_2) := (blk_cell BK151.out 2).trans rfl
                  have hcz28_3 : wr.cell? ⟨gb151, 3, none⟩ = some (.int .i64 a0_3) := (blk_cell BK151.out 3).trans rfl
                  have hcz28_4 : wr.cell? ⟨gb151, 4, none⟩ = some (.string a0_4) := (blk_cell BK151.out 4).trans rfl
                  have hcz28_5 : wr.cell? ⟨gb151, 5, none⟩ = some (.slice A0_5 l0_5.length c0_5) := (blk_cell BK151.out 5).trans rfl
                  have hcz28_6 : wr.cell? ⟨gb151, 6, none⟩ = some (.slice A0_6 l0_6.length c0_6) := (blk_cell BK151.out 6).trans rfl
                  have hfz28_0 := blk_frozen BK151.out 0
                  have hfz28_1 := blk_frozen BK151.out 1
                  have hfz28_2 := blk_frozen BK151.out 2
                  have hfz28_3 := blk_frozen BK151.out 3
                  have hfz28_4 := blk_frozen BK151.out 4
                  have hfz28_5 := blk_frozen BK151.out 5
                  have hfz28_6 := blk_frozen BK151.out 6
                  have p152 : 0 ≤ (x3_2 : Int) := of_decide_eq_true (by first | (with_reducible assumption) | assumption)
                  have q152 : x3_2 < (l0_6.length : Int) := of_decide_eq_true (by first | (with_reducible assumption) | assumption)
                  obtain ⟨ad152, A152_2, c152_2, A152_3, c152_3, e152, hx152_0, hx152_1, hx152_2, hx152_3, hx152_4, hl152_2, hi152_2, hl152_3, hi152_3⟩ := at_T36 HR0_6.out x3_2 p152 q152
                  cases e152
                  replace hx152_0 := (HB.out.cell (World.block_lt_of_cell? w _ hx152_0)).trans hx152_0
                  replace hx152_1 := (HB.out.cell (World.block_lt_of_cell? w _ hx152_1)).trans hx152_1
                  replace hx152_2 := (HB.out.cell (World.block_lt_of_cell? w _ hx152_2)).trans hx152_2
                  replace hx152_3 := (HB.out.cell (World.block_lt_of_cell? w _ hx152_3)).trans hx152_3
                  replace hx152_4 := (HB.out.cell (World.block_lt_of_cell? w _ hx152_4)).trans hx152_4
                  have HR152_2 := Aside0.mk hi152_2
                  have HC152_2 := Aside0.mk hl152_2
                  clear hi152_2 hl152_2
                  have HR152_3 := Aside0.mk hi152_3
                  have HC152_3 := Aside0.mk hl152_3
                  clear hi152_3 hl152_3
                  replace p152 := eq_true p152
                  replace q152 := eq_true q152
                  go_wp2_with (first | ((with_reducible refine gate_dst (N := 4) rfl ?_); (try (refine gate_guard (by rfl) ?_; dsimp only)); refine box_event ?hg (N := 4) ?hd (cs := #[.bool false, .bool false, .slice none 0 0, .slice none 0 0, .int .i64 0]) (t := 36) ?hr ?_; (case hd => rfl); (case hg => rfl); (case hr => first | (go_simp; done) | (go_simp; rfl)); intro gb153 hg w29 hbox hb; have n0_ := Aside0.mk (blk_below (g := gb151) (o := .cells #[.int .i64 a0_0, .int .i64 a0_1, .int .i64 a0_2, .int .i64 a0_3, .string a0_4, .slice A0_5 l0_5.length c0_5, .slice (some ad152) l0_6.length c0_6] 25 (0, 0)) (by (with_reducible repeat (first | refine blk_drewN ?_ _ | refine blk_drew ?_ | refine blk_alloc ?_ _)); exact BK151.out) hb); have n1_ := Aside0.mk (below_step (by repeat (first | (with_reducible first | exact HB.out | apply below_alloc | apply pw_below_drewN | apply below_drew1 | refine below_set ?_ GE151.out) | exact HB.out)) hb); have n2_ := Aside0.mk (hbox); have n3_ := Aside0.mk ((by rw [hg]; exact (below_size (by repeat (first | (with_reducible first | exact HB.out | apply below_alloc | apply pw_below_drewN | apply below_drew1 | refine below_set ?_ GE151.out) | exact HB.out))) : w.heap.size ≤ gb153)); have n4_ := Aside0.mk ((by rw [hg]; exact (below_size (by repeat (first | (with_reducible first | exact HB.out | apply below_alloc | apply pw_below_drewN | apply below_drew1 | refine below_set ?_ GE151.out) | exact HB.out))) : w.heap.size ≤ gb153)); have n5_ := Aside0.mk ((by rw [hg]; exact Nat.ne_of_lt (blk_lt (g := gb151) (o := .cells #[.int .i64 a0_0, .int .i64 a0_1, .int .i64 a0_2, .int .i64 a0_3, .string a0_4, .slice A0_5 l0_5.length c0_5, .slice (some ad152) l0_6.length c0_6] 25 (0, 0)) (by (with_reducible repeat (first | refine blk_drewN ?_ _ | refine blk_drew ?_ | refine blk_alloc ?_ _)); exact BK151.out)) : gb151 ≠ gb153)); have n6_ := Aside0.mk ((by rw [hg]; exact Nat.ne_of_gt (blk_lt (g := gb151) (o := .cells #[.int .i64 a0_0, .int .i64 a0_1, .int .i64 a0_2, .int .i64 a0_3, .string a0_4, .slice A0_5 l0_5.length c0_5, .slice (some ad152) l0_6.length c0_6] 25 (0, 0)) (by (with_reducible repeat (first | refine blk_drewN ?_ _ | refine blk_drew ?_ | refine blk_alloc ?_ _)); exact BK151.out)) : gb153 ≠ gb151)); clear BK151; clear HB; have BK151 := n0_; have HB := n1_; have BK153 := n2_; have GW153 := n3_; have GE153 := n4_; have NB151_153 := n5_; have NB153_151 := n6_; clear n0_ n1_ n2_ n3_ n4_ n5_ n6_; clear hb hbox hg; have hnb30 := NB153_151.out; have hnc30 := NB151_153.out; have hcz31_0 : w29.cell? ⟨gb153, 0, none⟩ = some (.bool false) := (blk_cell BK153.out 0).trans rfl; have hcz31_1 : w29.cell? ⟨gb153, 1, none⟩ = some (.bool false) := (blk_cell BK153.out 1).trans rfl; have hcz31_2 : w29.cell? ⟨gb153, 2, none⟩ = some (.slice none 0 0) := (blk_cell BK153.out 2).trans rfl; have hcz31_3 : w29.cell? ⟨gb153, 3, none⟩ = some (.slice none 0 0) := (blk_cell BK153.out 3).trans rfl; have hcz31_4 : w29.cell? ⟨gb153, 4, none⟩ = some (.int .i64 0) := (blk_cell BK153.out 4).trans rfl; have hfz31_0 := blk_frozen BK153.out 0; have hfz31_1 := blk_frozen BK153.out 1; have hfz31_2 := blk_frozen BK153.out 2; have hfz31_3 := blk_frozen BK153.out 3; have hfz31_4 := blk_frozen BK153.out 4) | ((with_reducible refine gate_callee (f := 15) rfl ?_); refine goesL_ (some 70) rfl rfl Tryz.func15 (by kernel_rfl) rfl #[.agg #[.bool ((rd_T36 l0_6 x3_2).f1.f0.f0), .slice A152_2 ((rd_T36 l0_6 x3_2).f1.f0.f1.f0).length c152_2, .slice A152_3 ((rd_T36 l0_6 x3_2).f1.f1.f0).length c152_3]] rfl (by (try simp only [List.map_toArray, List.map_cons, List.map_nil]); first | done | rfl | (simp only [List.length_drop, List.length_take]; rfl)) ?_; (with_reducible refine (frac_Q_Sign.calls k2 ((rd_T36 l0_6 x3_2).f1.f0.f0) _ _ ((rd_T36 l0_6 x3_2).f1.f0.f1.f0) _ _ ((rd_T36 l0_6 x3_2).f1.f1.f0) t154 _ ?side1 ?side2 ?side3 ?side4 A26.out).mono ?_); (case side1 => exact Kd.C_below HR152_2.out (by repeat (first | (with_reducible first | exact HB.out | apply below_alloc | apply pw_below_drewN | apply below_drew1 | refine below_set ?_ GE151.out | refine below_set ?_ GE153.out) | exact HB.out))); (case side2 => exact HC152_2.out); (case side3 => exact Kd.C_below HR152_3.out (by repeat (first | (with_reducible first | exact HB.out | apply below_alloc | apply pw_below_drewN | apply below_drew1 | refine below_set ?_ GE151.out | refine below_set ?_ GE153.out) | exact HB.out))); (case side4 => exact HC152_3.out); rintro e w32 ⟨rfl, hb⟩; refine ⟨_, rfl, ?_⟩; have n0_ := Aside0.mk (blk_below (g := gb151) (o := .cells #[.int .i64 a0_0, .int .i64 a0_1, .int .i64 a0_2, .int .i64 a0_3, .string a0_4, .slice A0_5 l0_5.length c0_5, .slice (some ad152) l0_6.length c0_6] 25 (0, 0)) (by (with_reducible repeat (first | refine blk_drewN ?_ _ | refine blk_drew ?_ | refine blk_alloc ?_ _)); refine blk_far ?_ NB151_153.out _; (with_reducible repeat (first | refine blk_drewN ?_ _ | refine blk_drew ?_ | refine blk_alloc ?_ _)); refine blk_far ?_ NB151_153.out _; (with_reducible repeat (first | refine blk_drewN ?_ _ | refine blk_drew ?_ | refine blk_alloc ?_ _)); refine blk_far ?_ NB151_153.out _; (with_reducible repeat (first | refine blk_drewN ?_ _ | refine blk_drew ?_ | refine blk_alloc ?_ _)); refine blk_far ?_ NB151_153.out _; (with_reducible repeat (first | refine blk_drewN ?_ _ | refine blk_drew ?_ | refine blk_alloc ?_ _)); refine blk_far ?_ NB151_153.out _; (with_reducible repeat (first | refine blk_drewN ?_ _ | refine blk_drew ?_ | refine blk_alloc ?_ _)); exact BK151.out) hb); have n1_ := Aside0.mk (blk_below (g := gb153) (o := .cells #[.bool ((rd_T36 l0_6 x3_2).f0), .bool ((rd_T36 l0_6 x3_2).f1.f0.f0), .slice A152_2 ((rd_T36 l0_6 x3_2).f1.f0.f1.f0).length c152_2, .slice A152_3 ((rd_T36 l0_6 x3_2).f1.f1.f0).length c152_3, .int .i64 ((rd_T36 l0_6 x3_2).f2)] 36 (0, 0)) (by (with_reducible repeat (first | refine blk_drewN ?_ _ | refine blk_drew ?_ | refine blk_alloc ?_ _)); refine blk_put (cs := #[.bool ((rd_T36 l0_6 x3_2).f0), .bool ((rd_T36 l0_6 x3_2).f1.f0.f0), .slice A152_2 ((rd_T36 l0_6 x3_2).f1.f0.f1.f0).length c152_2, .slice A152_3 ((rd_T36 l0_6 x3_2).f1.f1.f0).length c152_3, .int .i64 0]) ?_ 4 _ rfl; (with_reducible repeat (first | refine blk_drewN ?_ _ | refine blk_drew ?_ | refine blk_alloc ?_ _)); refine blk_put (cs := #[.bool ((rd_T36 l0_6 x3_2).f0), .bool ((rd_T36 l0_6 x3_2).f1.f0.f0), .slice A152_2 ((rd_T36 l0_6 x3_2).f1.f0.f1.f0).length c152_2, .slice none 0 0, .int .i64 0]) ?_ 3 _ rfl; (with_reducible repeat (first | refine blk_drewN ?_ _ | refine blk_drew ?_ | refine blk_alloc ?_ _)); refine blk_put (cs := #[.bool ((rd_T36 l0_6 x3_2).f0), .bool ((rd_T36 l0_6 x3_2).f1.f0.f0), .slice none 0 0, .slice none 0 0, .int .i64 0]) ?_ 2 _ rfl; (with_reducible repeat (first | refine blk_drewN ?_ _ | refine blk_drew ?_ | refine blk_alloc ?_ _)); refine blk_put (cs := #[.bool ((rd_T36 l0_6 x3_2).f0), .bool false, .slice none 0 0, .slice none 0 0, .int .i64 0]) ?_ 1 _ rfl; (with_reducible repeat (first | refine blk_drewN ?_ _ | refine blk_drew ?_ | refine blk_alloc ?_ _)); refine blk_put (cs := #[.bool false, .bool false, .slice none 0 0, .slice none 0 0, .int .i64 0]) ?_ 0 _ rfl; (with_reducible repeat (first | refine blk_drewN ?_ _ | refine blk_drew ?_ | refine blk_alloc ?_ _)); exact BK153.out) hb); have n2_ := Aside0.mk (below_step (by repeat (first | (with_reducible first | exact HB.out | apply below_alloc | apply pw_below_drewN | apply below_drew1 | refine below_set ?_ GE151.out | refine below_set ?_ GE153.out) | exact HB.out)) hb); clear BK151; clear BK153; clear HB; have BK151 := n0_; have BK153 := n1_; have HB := n2_; clear n0_ n1_ n2_; (try clear hb); (try clear hb2); (try clear hk); (try clear hi); have hcz33_0 : w32.cell? ⟨gb153, 0, none⟩ = some (.bool ((rd_T36 l0_6 x3_2).f0)) := (blk_cell BK153.out 0).trans rfl; have hcz33_1 : w32.cell? ⟨gb153, 1, none⟩ = some (.bool ((rd_T36 l0_6 x3_2).f1.f0.f0)) := (blk_cell BK153.out 1).trans rfl; have hcz33_2 : w32.cell? ⟨gb153, 2, none⟩ = some (.slice A152_2 ((rd_T36 l0_6 x3_2).f1.f0.f1.f0).length c152_2) := (blk_cell BK153.out 2).trans rfl; have hcz33_3 : w32.cell? ⟨gb153, 3, none⟩ = some (.slice A152_3 ((rd_T36 l0_6 x3_2).f1.f1.f0).length c152_3) := (blk_cell BK153.out 3).trans rfl; have hcz33_4 : w32.cell? ⟨gb153, 4, none⟩ = some (.int .i64 ((rd_T36 l0_6 x3_2).f2)) := (blk_cell BK153.out 4).trans rfl; have hfz33_0 := blk_frozen BK153.out 0; have hfz33_1 := blk_frozen BK153.out 1; have hfz33_2 := blk_frozen BK153.out 2; have hfz33_3 := blk_frozen BK153.out 3; have hfz33_4 := blk_frozen BK153.out 4))
                  go_ret
                  exact ⟨by first | rfl | (simp [errW_none, errW_some] <;> rfl) | (simp [*, errW_none, errW_some] <;> rfl), by repeat (first | (with_reducible first | exact HB.out | apply below_alloc | apply pw_below_drewN | apply below_drew1 | refine below_set ?_ GE151.out | refine below_set ?_ GE153.out) | exact HB.out)⟩
                · rw [if_neg c27] at H
                  have c27b0 : decide (((rd_T36 l0_6 x3_2).f2) < 0) = false := decide_eq_false c27
                  clear c27
                  by_cases c34 : ((rd_T36 l0_6 x3_2).f2) > 12
                  · rw [if_pos c34] at H
                    have c34b0 : decide (12 < ((rd_T36 l0_6 x3_2).f2)) = true := decide_eq_true c34
                    clear c34
                    obtain rfl := Option.some.inj H
                    have hcz35_0 : wr.cell? ⟨gb151, 0, none⟩ = some (.int .i64 a0_0) := (blk_cell BK151.out 0).trans rfl
                    have hcz35_1 : wr.cell? ⟨gb151, 1, none⟩ = some (.int .i64 a0_1) := (blk_cell BK151.out 1).trans rfl
                    have hcz35_2 : wr.cell? ⟨gb151, 2, none⟩ = some (.int .i64 a0_2) := (blk_cell BK151.out 2).trans rfl
                    have hcz35_3 : wr.cell? ⟨gb151, 3, none⟩ = some (.int .i64 a0_3) := (blk_cell BK151.out 3).trans rfl
                    have hcz35_4 : wr.cell? ⟨gb151, 4, none⟩ = some (.string a0_4) := (blk_cell BK151.out 4).trans rfl
                    have hcz35_5 : wr.cell? ⟨gb151, 5, none⟩ = some (.slice A0_5 l0_5.length c0_5) := (blk_cell BK151.out 5).trans rfl
                    have hcz35_6 : wr.cell? ⟨gb151, 6, none⟩ = some (.slice A0_6 l0_6.length c0_6) := (blk_cell BK151.out 6).trans rfl
                    have hfz35_0 := blk_frozen BK151.out 0
                    have hfz35_1 := blk_frozen BK151.out 1
                    have hfz35_2 := blk_frozen BK151.out 2
                    have hfz35_3 := blk_frozen BK151.out 3
                    have hfz35_4 := blk_frozen BK151.out 4
                    have hfz35_5 := blk_frozen BK151.out 5
                    have hfz35_6 := blk_frozen BK151.out 6
                    have p152 : 0 ≤ (x3_2 : Int) := of_decide_eq_true (by first | (with_reducible assumption) | assumption)
                    have q152 : x3_2 < (l0_6.length : Int) := of_decide_eq_true (by first | (with_reducible assumption) | assumption)
                    obtain ⟨ad152, A152_2, c152_2, A152_3, c152_3, e152, hx152_0, hx152_1, hx152_2, hx152_3, hx152_4, hl152_2, hi152_2, hl152_3, hi152_3⟩ := at_T36 HR0_6.out x3_2 p152 q152
                    cases e152
                    replace hx152_0 := (HB.out.cell (World.block_lt_of_cell? w _ hx152_0)).trans hx152_0
                    replace hx152_1 := (HB.out.cell (World.block_lt_of_cell? w _ hx152_1)).trans hx152_1
                    replace hx152_2 := (HB.out.cell (World.block_lt_of_cell? w _ hx152_2)).trans hx152_2
                    replace hx152_3 := (HB.out.cell (World.block_lt_of_cell? w _ hx152_3)).trans hx152_3
                    replace hx152_4 := (HB.out.cell (World.block_lt_of_cell? w _ hx152_4)).trans hx152_4
                    have HR152_2 := Aside0.mk hi152_2
                    have HC152_2 := Aside0.mk hl152_2
                    clear hi152_2 hl152_2
                    have HR152_3 := Aside0.mk hi152_3
                    have HC152_3 := Aside0.mk hl152_3
                    clear hi152_3 hl152_3
                    replace p152 := eq_true p152
                    replace q152 := eq_true q152
                    go_wp2_with (first | ((with_reducible refine gate_dst (N := 4) rfl ?_); (try (refine gate_guard (by rfl) ?_; dsimp only)); refine box_event ?hg (N := 4) ?hd (cs := #[.bool false, .bool false, .slice none 0 0, .slice none 0 0, .int .i64 0]) (t := 36) ?hr ?_; (case hd => rfl); (case hg => rfl); (case hr => first | (go_simp; done) | (go_simp; rfl)); intro gb153 hg w36 hbox hb; have n0_ := Aside0.mk (blk_below (g := gb151) (o := .cells #[.int .i64 a0_0, .int .i64 a0_1, .int .i64 a0_2, .int .i64 a0_3, .string a0_4, .slice A0_5 l0_5.length c0_5, .slice (some ad152) l0_6.length c0_6] 25 (0, 0)) (by (with_reducible repeat (first | refine blk_drewN ?_ _ | refine blk_drew ?_ | refine blk_alloc ?_ _)); exact BK151.out) hb); have n1_ := Aside0.mk (below_step (by repeat (first | (with_reducible first | exact HB.out | apply below_alloc | apply pw_below_drewN | apply below_drew1 | refine below_set ?_ GE151.out) | exact HB.out)) hb); have n2_ := Aside0.mk (hbox); have n3_ := Aside0.mk ((by rw [hg]; exact (below_size (by repeat (first | (with_reducible first | exact HB.out | apply below_alloc | apply pw_below_drewN | apply below_drew1 | refine below_set ?_ GE151.out) | exact HB.out))) : w.heap.size ≤ gb153)); have n4_ := Aside0.mk ((by rw [hg]; exact (below_size (by repeat (first | (with_reducible first | exact HB.out | apply below_alloc | apply pw_below_drewN | apply below_drew1 | refine below_set ?_ GE151.out) | exact HB.out))) : w.heap.size ≤ gb153)); have n5_ := Aside0.mk ((by rw [hg]; exact Nat.ne_of_lt (blk_lt (g := gb151) (o := .cells #[.int .i64 a0_0, .int .i64 a0_1, .int .i64 a0_2, .int .i64 a0_3, .string a0_4, .slice A0_5 l0_5.length c0_5, .slice (some ad152) l0_6.length c0_6] 25 (0, 0)) (by (with_reducible repeat (first | refine blk_drewN ?_ _ | refine blk_drew ?_ | refine blk_alloc ?_ _)); exact BK151.out)) : gb151 ≠ gb153)); have n6_ := Aside0.mk ((by rw [hg]; exact Nat.ne_of_gt (blk_lt (g := gb151) (o := .cells #[.int .i64 a0_0, .int .i64 a0_1, .int .i64 a0_2, .int .i64 a0_3, .string a0_4, .slice A0_5 l0_5.length c0_5, .slice (some ad152) l0_6.length c0_6] 25 (0, 0)) (by (with_reducible repeat (first | refine blk_drewN ?_ _ | refine blk_drew ?_ | refine blk_alloc ?_ _)); exact BK151.out)) : gb153 ≠ gb151)); clear BK151; clear HB; have BK151 := n0_; have HB := n1_; have BK153 := n2_; have GW153 := n3_; have GE153 := n4_; have NB151_153 := n5_; have NB153_151 := n6_; clear n0_ n1_ n2_ n3_ n4_ n5_ n6_; clear hb hbox hg; have hnb37 := NB153_151.out; have hnc37 := NB151_153.out; have hcz38_0 : w36.cell? ⟨gb153, 0, none⟩ = some (.bool false) := (blk_cell BK153.out 0).trans rfl; have hcz38_1 : w36.cell? ⟨gb153, 1, none⟩ = some (.bool false) := (blk_cell BK153.out 1).trans rfl; have hcz38_2 : w36.cell? ⟨gb153, 2, none⟩ = some (.slice none 0 0) := (blk_cell BK153.out 2).trans rfl; have hcz38_3 : w36.cell? ⟨gb153, 3, none⟩ = some (.slice none 0 0) := (blk_cell BK153.out 3).trans rfl; have hcz38_4 : w36.cell? ⟨gb153, 4, none⟩ = some (.int .i64 0) := (blk_cell BK153.out 4).trans rfl; have hfz38_0 := blk_frozen BK153.out 0; have hfz38_1 := blk_frozen BK153.out 1; have hfz38_2 := blk_frozen BK153.out 2; have hfz38_3 := blk_frozen BK153.out 3; have hfz38_4 := blk_frozen BK153.out 4) | ((with_reducible refine gate_callee (f := 15) rfl ?_); refine goesL_ (some 70) rfl rfl Tryz.func15 (by kernel_rfl) rfl #[.agg #[.bool ((rd_T36 l0_6 x3_2).f1.f0.f0), .slice A152_2 ((rd_T36 l0_6 x3_2).f1.f0.f1.f0).length c152_2, .slice A152_3 ((rd_T36 l0_6 x3_2).f1.f1.f0).length c152_3]] rfl (by (try simp only [List.map_toArray, List.map_cons, List.map_nil]); first | done | rfl | (simp only [List.length_drop, List.length_take]; rfl)) ?_; (with_reducible refine (frac_Q_Sign.calls k2 ((rd_T36 l0_6 x3_2).f1.f0.f0) _ _ ((rd_T36 l0_6 x3_2).f1.f0.f1.f0) _ _ ((rd_T36 l0_6 x3_2).f1.f1.f0) t154 _ ?side1 ?side2 ?side3 ?side4 A26.out).mono ?_); (case side1 => exact Kd.C_below HR152_2.out (by repeat (first | (with_reducible first | exact HB.out | apply below_alloc | apply pw_below_drewN | apply below_drew1 | refine below_set ?_ GE151.out | refine below_set ?_ GE153.out) | exact HB.out))); (case side2 => exact HC152_2.out); (case side3 => exact Kd.C_below HR152_3.out (by repeat (first | (with_reducible first | exact HB.out | apply below_alloc | apply pw_below_drewN | apply below_drew1 | refine below_set ?_ GE151.out | refine below_set ?_ GE153.out) | exact HB.out))); (case side4 => exact HC152_3.out); rintro e w39 ⟨rfl, hb⟩; refine ⟨_, rfl, ?_⟩; have n0_ := Aside0.mk (blk_below (g := gb151) (o := .cells #[.int .i64 a0_0, .int .i64 a0_1, .int .i64 a0_2, .int .i64 a0_3, .string a0_4, .slice A0_5 l0_5.length c0_5, .slice (some ad152) l0_6.length c0_6] 25 (0, 0)) (by (with_reducible repeat (first | refine blk_drewN ?_ _ | refine blk_drew ?_ | refine blk_alloc ?_ _)); refine blk_far ?_ NB151_153.out _; (with_reducible repeat (first | refine blk_drewN ?_ _ | refine blk_drew ?_ | refine blk_alloc ?_ _)); refine blk_far ?_ NB151_153.out _; (with_reducible repeat (first | refine blk_drewN ?_ _ | refine blk_drew ?_ | refine blk_alloc ?_ _)); refine blk_far ?_ NB151_153.out _; (with_reducible repeat (first | refine blk_drewN ?_ _ | refine blk_drew ?_ | refine blk_alloc ?_ _)); refine blk_far ?_ NB151_153.out _; (with_reducible repeat (first | refine blk_drewN ?_ _ | refine blk_drew ?_ | refine blk_alloc ?_ _)); refine blk_far ?_ NB151_153.out _; (with_reducible repeat (first | refine blk_drewN ?_ _ | refine blk_drew ?_ | refine blk_alloc ?_ _)); exact BK151.out) hb); have n1_ := Aside0.mk (blk_below (g := gb153) (o := .cells #[.bool ((rd_T36 l0_6 x3_2).f0), .bool ((rd_T36 l0_6 x3_2).f1.f0.f0), .slice A152_2 ((rd_T36 l0_6 x3_2).f1.f0.f1.f0).length c152_2, .slice A152_3 ((rd_T36 l0_6 x3_2).f1.f1.f0).length c152_3, .int .i64 ((rd_T36 l0_6 x3_2).f2)] 36 (0, 0)) (by (with_reducible repeat (first | refine blk_drewN ?_ _ | refine blk_drew ?_ | refine blk_alloc ?_ _)); refine blk_put (cs := #[.bool ((rd_T36 l0_6 x3_2).f0), .bool ((rd_T36 l0_6 x3_2).f1.f0.f0), .slice A152_2 ((rd_T36 l0_6 x3_2).f1.f0.f1.f0).length c152_2, .slice A152_3 ((rd_T36 l0_6 x3_2).f1.f1.f0).length c152_3, .int .i64 0]) ?_ 4 _ rfl; (with_reducible repeat (first | refine blk_drewN ?_ _ | refine blk_drew ?_ | refine blk_alloc ?_ _)); refine blk_put (cs := #[.bool ((rd_T36 l0_6 x3_2).f0), .bool ((rd_T36 l0_6 x3_2).f1.f0.f0), .slice A152_2 ((rd_T36 l0_6 x3_2).f1.f0.f1.f0).length c152_2, .slice none 0 0, .int .i64 0]) ?_ 3 _ rfl; (with_reducible repeat (first | refine blk_drewN ?_ _ | refine blk_drew ?_ | refine blk_alloc ?_ _)); refine blk_put (cs := #[.bool ((rd_T36 l0_6 x3_2).f0), .bool ((rd_T36 l0_6 x3_2).f1.f0.f0), .slice none 0 0, .slice none 0 0, .int .i64 0]) ?_ 2 _ rfl; (with_reducible repeat (first | refine blk_drewN ?_ _ | refine blk_drew ?_ | refine blk_alloc ?_ _)); refine blk_put (cs := #[.bool ((rd_T36 l0_6 x3_2).f0), .bool false, .slice none 0 0, .slice none 0 0, .int .i64 0]) ?_ 1 _ rfl; (with_reducible repeat (first | refine blk_drewN ?_ _ | refine blk_drew ?_ | refine blk_alloc ?_ _)); refine blk_put (cs := #[.bool false, .bool false, .slice none 0 0, .slice none 0 0, .int .i64 0]) ?_ 0 _ rfl; (with_reducible repeat (first | refine blk_drewN ?_ _ | refine blk_drew ?_ | refine blk_alloc ?_ _)); exact BK153.out) hb); have n2_ := Aside0.mk (below_step (by repeat (first | (with_reducible first | exact HB.out | apply below_alloc | apply pw_below_drewN | apply below_drew1 | refine below_set ?_ GE151.out | refine below_set ?_ GE153.out) | exact HB.out)) hb); clear BK151; clear BK153; clear HB; have BK151 := n0_; have BK153 := n1_; have HB := n2_; clear n0_ n1_ n2_; (try clear hb); (try clear hb2); (try clear hk); (try clear hi); have hcz40_0 : w39.cell? ⟨gb153, 0, none⟩ = some (.bool ((rd_T36 l0_6 x3_2).f0)) := (blk_cell BK153.out 0).trans rfl; have hcz40_1 : w39.cell? ⟨gb153, 1, none⟩ = some (.bool ((rd_T36 l0_6 x3_2).f1.f0.f0)) := (blk_cell BK153.out 1).trans rfl; have hcz40_2 : w39.cell? ⟨gb153, 2, none⟩ = some (.slice A152_2 ((rd_T36 l0_6 x3_2).f1.f0.f1.f0).length c152_2) := (blk_cell BK153.out 2).trans rfl; have hcz40_3 : w39.cell? ⟨gb153, 3, none⟩ = some (.slice A152_3 ((rd_T36 l0_6 x3_2).f1.f1.f0).length c152_3) := (blk_cell BK153.out 3).trans rfl; have hcz40_4 : w39.cell? ⟨gb153, 4, none⟩ = some (.int .i64 ((rd_T36 l0_6 x3_2).f2)) := (blk_cell BK153.out 4).trans rfl; have hfz40_0 := blk_frozen BK153.out 0; have hfz40_1 := blk_frozen BK153.out 1; have hfz40_2 := blk_frozen BK153.out 2; have hfz40_3 := blk_frozen BK153.out 3; have hfz40_4 := blk_frozen BK153.out 4))
                    go_ret
                    exact ⟨by first | rfl | (simp [errW_none, errW_some] <;> rfl) | (simp [*, errW_none, errW_some] <;> rfl), by repeat (first | (with_reducible first | exact HB.out | apply below_alloc | apply pw_below_drewN | apply below_drew1 | refine below_set ?_ GE151.out | refine below_set ?_ GE153.out) | exact HB.out)⟩
                  · rw [if_neg c34] at H
                    have c34b0 : decide (12 < ((rd_T36 l0_6 x3_2).f2)) = false := decide_eq_false c34
                    clear c34
                    by_cases c41 : t154 = 0
                    · rw [if_pos c41] at H
                      have c41b0 : (t154 == 0) = true := beq_iff_eq.mpr c41
                      have c41b1 : (t154 != 0) = false := bne_eq_false_iff_eq.mpr c41
                      clear c41
                      obtain ⟨bq42, hbq42⟩ : ∃ b_ : Bool, b_ = ((rd_T36 l0_6 x3_2).f0) := ⟨_, rfl⟩
                      replace H : (if bq42 = true then (if ((rd_T36 l0_6 x3_2).f2) = 0 then (abaculusshelf_Fine.l0 k2 (wrap64 (x3_2 + 1)) a0_0 a0_1 a0_2 a0_3 a0_4 l0_5 l0_6) else (some false)) else (abaculusshelf_Fine.l0 k2 (wrap64 (x3_2 + 1)) a0_0 a0_1 a0_2 a0_3 a0_4 l0_5 l0_6)) = some r := by rw [← hbq42] at H; exact H
                      have Nbq42 := Aside0.mk hbq42
                      clear hbq42
                      by_cases c43 : bq42 = true
                      · subst c43
                        have H1 : (if ((rd_T36 l0_6 x3_2).f2) = 0 then (abaculusshelf_Fine.l0 k2 (wrap64 (x3_2 + 1)) a0_0 a0_1 a0_2 a0_3 a0_4 l0_5 l0_6) else (some false)) = some r := by rw [if_pos rfl] at H; exact H
                        clear H
                        have H := H1
                        clear H1
                        by_cases c44 : ((rd_T36 l0_6 x3_2).f2) = 0
                        · rw [if_pos c44] at H
                          have c44b0 : (((rd_T36 l0_6 x3_2).f2) == 0) = true := beq_iff_eq.mpr c44
                          have c44b1 : (((rd_T36 l0_6 x3_2).f2) != 0) = false := bne_eq_false_iff_eq.mpr c44
                          clear c44
                          have H' := Aside0.mk H
                          clear H
                          have hcz45_0 : wr.cell? ⟨gb151, 0, none⟩ = some (.int .i64 a0_0) := (blk_cell BK151.out 0).trans rfl
                          have hcz45_1 : wr.cell? ⟨gb151, 1, none⟩ = some (.int .i64 a0_1) := (blk_cell BK151.out 1).trans rfl
                          have hcz45_2 : wr.cell? ⟨gb151, 2, none⟩ = some (.int .i64 a0_2) := (blk_cell BK151.out 2).trans rfl
                          have hcz45_3 : wr.cell? ⟨gb151, 3, none⟩ = some (.int .i64 a0_3) := (blk_cell BK151.out 3).trans rfl
                          have hcz45_4 : wr.cell? ⟨gb151, 4, none⟩ = some (.string a0_4) := (blk_cell BK151.out 4).trans rfl
                          have hcz45_5 : wr.cell? ⟨gb151, 5, none⟩ = some (.slice A0_5 l0_5.length c0_5) := (blk_cell BK151.out 5).trans rfl
                          have hcz45_6 : wr.cell? ⟨gb151, 6, none⟩ = some (.slice A0_6 l0_6.length c0_6) := (blk_cell BK151.out 6).trans rfl
                          have hfz45_0 := blk_frozen BK151.out 0
                          have hfz45_1 := blk_frozen BK151.out 1
                          have hfz45_2 := blk_frozen BK151.out 2
                          have hfz45_3 := blk_frozen BK151.out 3
                          have hfz45_4 := blk_frozen BK151.out 4
                          have hfz45_5 := blk_frozen BK151.out 5
                          have hfz45_6 := blk_frozen BK151.out 6
                          have p152 : 0 ≤ (x3_2 : Int) := of_decide_eq_true (by first | (with_reducible assumption) | assumption)
                          have q152 : x3_2 < (l0_6.length : Int) := of_decide_eq_true (by first | (with_reducible assumption) | assumption)
                          obtain ⟨ad152, A152_2, c152_2, A152_3, c152_3, e152, hx152_0, hx152_1, hx152_2, hx152_3, hx152_4, hl152_2, hi152_2, hl152_3, hi152_3⟩ := at_T36 HR0_6.out x3_2 p152 q152
                          (try rw [← Nbq42.out] at hx152_0)
                          (try rw [← Nbq42.out] at hx152_1)
                          cases e152
                          replace hx152_0 := (HB.out.cell (World.block_lt_of_cell? w _ hx152_0)).trans hx152_0
                          replace hx152_1 := (HB.out.cell (World.block_lt_of_cell? w _ hx152_1)).trans hx152_1
                          replace hx152_2 := (HB.out.cell (World.block_lt_of_cell? w _ hx152_2)).trans hx152_2
                          replace hx152_3 := (HB.out.cell (World.block_lt_of_cell? w _ hx152_3)).trans hx152_3
                          replace hx152_4 := (HB.out.cell (World.block_lt_of_cell? w _ hx152_4)).trans hx152_4
                          have HR152_2 := Aside0.mk hi152_2
                          have HC152_2 := Aside0.mk hl152_2
                          clear hi152_2 hl152_2
                          have HR152_3 := Aside0.mk hi152_3
                          have HC152_3 := Aside0.mk hl152_3
                          clear hi152_3 hl152_3
                          replace p152 := eq_true p152
                          replace q152 := eq_true q152
                          go_wp2_with (first | ((with_reducible refine gate_dst (N := 4) rfl ?_); (try (refine gate_guard (by rfl) ?_; dsimp only)); refine box_event ?hg (N := 4) ?hd (cs := #[.bool false, .bool false, .slice none 0 0, .slice none 0 0, .int .i64 0]) (t := 36) ?hr ?_; (case hd => rfl); (case hg => rfl); (case hr => first | (go_simp; done) | (go_simp; rfl)); intro gb153 hg w46 hbox hb; have n0_ := Aside0.mk (blk_below (g := gb151) (o := .cells #[.int .i64 a0_0, .int .i64 a0_1, .int .i64 a0_2, .int .i64 a0_3, .string a0_4, .slice A0_5 l0_5.length c0_5, .slice (some ad152) l0_6.length c0_6] 25 (0, 0)) (by (with_reducible repeat (first | refine blk_drewN ?_ _ | refine blk_drew ?_ | refine blk_alloc ?_ _)); exact BK151.out) hb); have n1_ := Aside0.mk (below_step (by repeat (first | (with_reducible first | exact HB.out | apply below_alloc | apply pw_below_drewN | apply below_drew1 | refine below_set ?_ GE151.out) | exact HB.out)) hb); have n2_ := Aside0.mk (hbox); have n3_ := Aside0.mk ((by rw [hg]; exact (below_size (by repeat (first | (with_reducible first | exact HB.out | apply below_alloc | apply pw_below_drewN | apply below_drew1 | refine below_set ?_ GE151.out) | exact HB.out))) : w.heap.size ≤ gb153)); have n4_ := Aside0.mk ((by rw [hg]; exact (below_size (by repeat (first | (with_reducible first | exact HB.out | apply below_alloc | apply pw_below_drewN | apply below_drew1 | refine below_set ?_ GE151.out) | exact HB.out))) : w.heap.size ≤ gb153)); have n5_ := Aside0.mk ((by rw [hg]; exact Nat.ne_of_lt (blk_lt (g := gb151) (o := .cells #[.int .i64 a0_0, .int .i64 a0_1, .int .i64 a0_2, .int .i64 a0_3, .string a0_4, .slice A0_5 l0_5.length c0_5, .slice (some ad152) l0_6.length c0_6] 25 (0, 0)) (by (with_reducible repeat (first | refine blk_drewN ?_ _ | refine blk_drew ?_ | refine blk_alloc ?_ _)); exact BK151.out)) : gb151 ≠ gb153)); have n6_ := Aside0.mk ((by rw [hg]; exact Nat.ne_of_gt (blk_lt (g := gb151) (o := .cells #[.int .i64 a0_0, .int .i64 a0_1, .int .i64 a0_2, .int .i64 a0_3, .string a0_4, .slice A0_5 l0_5.length c0_5, .slice (some ad152) l0_6.length c0_6] 25 (0, 0)) (by (with_reducible repeat (first | refine blk_drewN ?_ _ | refine blk_drew ?_ | refine blk_alloc ?_ _)); exact BK151.out)) : gb153 ≠ gb151)); clear BK151; clear HB; have BK151 := n0_; have HB := n1_; have BK153 := n2_; have GW153 := n3_; have GE153 := n4_; have NB151_153 := n5_; have NB153_151 := n6_; clear n0_ n1_ n2_ n3_ n4_ n5_ n6_; clear hb hbox hg; have hnb47 := NB153_151.out; have hnc47 := NB151_153.out; have hcz48_0 : w46.cell? ⟨gb153, 0, none⟩ = some (.bool false) := (blk_cell BK153.out 0).trans rfl; have hcz48_1 : w46.cell? ⟨gb153, 1, none⟩ = some (.bool false) := (blk_cell BK153.out 1).trans rfl; have hcz48_2 : w46.cell? ⟨gb153, 2, none⟩ = some (.slice none 0 0) := (blk_cell BK153.out 2).trans rfl; have hcz48_3 : w46.cell? ⟨gb153, 3, none⟩ = some (.slice none 0 0) := (blk_cell BK153.out 3).trans rfl; have hcz48_4 : w46.cell? ⟨gb153, 4, none⟩ = some (.int .i64 0) := (blk_cell BK153.out 4).trans rfl; have hfz48_0 := blk_frozen BK153.out 0; have hfz48_1 := blk_frozen BK153.out 1; have hfz48_2 := blk_frozen BK153.out 2; have hfz48_3 := blk_frozen BK153.out 3; have hfz48_4 := blk_frozen BK153.out 4) | ((with_reducible refine gate_callee (f := 15) rfl ?_); refine goesL_ (some 70) rfl rfl Tryz.func15 (by kernel_rfl) rfl #[.agg #[.bool ((rd_T36 l0_6 x3_2).f1.f0.f0), .slice A152_2 ((rd_T36 l0_6 x3_2).f1.f0.f1.f0).length c152_2, .slice A152_3 ((rd_T36 l0_6 x3_2).f1.f1.f0).length c152_3]] rfl (by (try simp only [List.map_toArray, List.map_cons, List.map_nil]); first | done | rfl | (simp only [List.length_drop, List.length_take]; rfl)) ?_; (with_reducible refine (frac_Q_Sign.calls k2 ((rd_T36 l0_6 x3_2).f1.f0.f0) _ _ ((rd_T36 l0_6 x3_2).f1.f0.f1.f0) _ _ ((rd_T36 l0_6 x3_2).f1.f1.f0) t154 _ ?side1 ?side2 ?side3 ?side4 A26.out).mono ?_); (case side1 => exact Kd.C_below HR152_2.out (by repeat (first | (with_reducible first | exact HB.out | apply below_alloc | apply pw_below_drewN | apply below_drew1 | refine below_set ?_ GE151.out | refine below_set ?_ GE153.out) | exact HB.out))); (case side2 => exact HC152_2.out); (case side3 => exact Kd.C_below HR152_3.out (by repeat (first | (with_reducible first | exact HB.out | apply below_alloc | apply pw_below_drewN | apply below_drew1 | refine below_set ?_ GE151.out | refine below_set ?_ GE153.out) | exact HB.out))); (case side4 => exact HC152_3.out); rintro e w49 ⟨rfl, hb⟩; refine ⟨_, rfl, ?_⟩; have n0_ := Aside0.mk (blk_below (g := gb151) (o := .cells #[.int .i64 a0_0, .int .i64 a0_1, .int .i64 a0_2, .int .i64 a0_3, .string a0_4, .slice A0_5 l0_5.length c0_5, .slice (some ad152) l0_6.length c0_6] 25 (0, 0)) (by (with_reducible repeat (first | refine blk_drewN ?_ _ | refine blk_drew ?_ | refine blk_alloc ?_ _)); refine blk_far ?_ NB151_153.out _; (with_reducible repeat (first | refine blk_drewN ?_ _ | refine blk_drew ?_ | refine blk_alloc ?_ _)); refine blk_far ?_ NB151_153.out _; (with_reducible repeat (first | refine blk_drewN ?_ _ | refine blk_drew ?_ | refine blk_alloc ?_ _)); refine blk_far ?_ NB151_153.out _; (with_reducible repeat (first | refine blk_drewN ?_ _ | refine blk_drew ?_ | refine blk_alloc ?_ _)); refine blk_far ?_ NB151_153.out _; (with_reducible repeat (first | refine blk_drewN ?_ _ | refine blk_drew ?_ | refine blk_alloc ?_ _)); refine blk_far ?_ NB151_153.out _; (with_reducible repeat (first | refine blk_drewN ?_ _ | refine blk_drew ?_ | refine blk_alloc ?_ _)); exact BK151.out) hb); have n1_ := Aside0.mk (blk_below (g := gb153) (o := .cells #[.bool true, .bool ((rd_T36 l0_6 x3_2).f1.f0.f0), .slice A152_2 ((rd_T36 l0_6 x3_2).f1.f0.f1.f0).length c152_2, .slice A152_3 ((rd_T36 l0_6 x3_2).f1.f1.f0).length c152_3, .int .i64 ((rd_T36 l0_6 x3_2).f2)] 36 (0, 0)) (by (with_reducible repeat (first | refine blk_drewN ?_ _ | refine blk_drew ?_ | refine blk_alloc ?_ _)); refine blk_put (cs := #[.bool true, .bool ((rd_T36 l0_6 x3_2).f1.f0.f0), .slice A152_2 ((rd_T36 l0_6 x3_2).f1.f0.f1.f0).length c152_2, .slice A152_3 ((rd_T36 l0_6 x3_2).f1.f1.f0).length c152_3, .int .i64 0]) ?_ 4 _ rfl; (with_reducible repeat (first | refine blk_drewN ?_ _ | refine blk_drew ?_ | refine blk_alloc ?_ _)); refine blk_put (cs := #[.bool true, .bool ((rd_T36 l0_6 x3_2).f1.f0.f0), .slice A152_2 ((rd_T36 l0_6 x3_2).f1.f0.f1.f0).length c152_2, .slice none 0 0, .int .i64 0]) ?_ 3 _ rfl; (with_reducible repeat (first | refine blk_drewN ?_ _ | refine blk_drew ?_ | refine blk_alloc ?_ _)); refine blk_put (cs := #[.bool true, .bool ((rd_T36 l0_6 x3_2).f1.f0.f0), .slice none 0 0, .slice none 0 0, .int .i64 0]) ?_ 2 _ rfl; (with_reducible repeat (first | refine blk_drewN ?_ _ | refine blk_drew ?_ | refine blk_alloc ?_ _)); refine blk_put (cs := #[.bool true, .bool false, .slice none 0 0, .slice none 0 0, .int .i64 0]) ?_ 1 _ rfl; (with_reducible repeat (first | refine blk_drewN ?_ _ | refine blk_drew ?_ | refine blk_alloc ?_ _)); refine blk_put (cs := #[.bool false, .bool false, .slice none 0 0, .slice none 0 0, .int .i64 0]) ?_ 0 _ rfl; (with_reducible repeat (first | refine blk_drewN ?_ _ | refine blk_drew ?_ | refine blk_alloc ?_ _)); exact BK153.out) hb); have n2_ := Aside0.mk (below_step (by repeat (first | (with_reducible first | exact HB.out | apply below_alloc | apply pw_below_drewN | apply below_drew1 | refine below_set ?_ GE151.out | refine below_set ?_ GE153.out) | exact HB.out)) hb); clear BK151; clear BK153; clear HB; have BK151 := n0_; have BK153 := n1_; have HB := n2_; clear n0_ n1_ n2_; (try clear hb); (try clear hb2); (try clear hk); (try clear hi); have hcz50_0 : w49.cell? ⟨gb153, 0, none⟩ = some (.bool true) := (blk_cell BK153.out 0).trans rfl; have hcz50_1 : w49.cell? ⟨gb153, 1, none⟩ = some (.bool ((rd_T36 l0_6 x3_2).f1.f0.f0)) := (blk_cell BK153.out 1).trans rfl; have hcz50_2 : w49.cell? ⟨gb153, 2, none⟩ = some (.slice A152_2 ((rd_T36 l0_6 x3_2).f1.f0.f1.f0).length c152_2) := (blk_cell BK153.out 2).trans rfl; have hcz50_3 : w49.cell? ⟨gb153, 3, none⟩ = some (.slice A152_3 ((rd_T36 l0_6 x3_2).f1.f1.f0).length c152_3) := (blk_cell BK153.out 3).trans rfl; have hcz50_4 : w49.cell? ⟨gb153, 4, none⟩ = some (.int .i64 ((rd_T36 l0_6 x3_2).f2)) := (blk_cell BK153.out 4).trans rfl; have hfz50_0 := blk_frozen BK153.out 0; have hfz50_1 := blk_frozen BK153.out 1; have hfz50_2 := blk_frozen BK153.out 2; have hfz50_3 := blk_frozen BK153.out 3; have hfz50_4 := blk_frozen BK153.out 4))
                          go_roundg k2
                          case measure => have := HJ1.out; have := HK2.out; omega
                          case rel => exact ⟨(wrap64 (x3_2 + 1)), (by first | rfl | (simp; done) | (simp [*]; done)), H', ⟨by have := HJ1.out; have := HK2.out; omega⟩, ⟨by (with_reducible repeat (first | refine blk_drewN ?_ _ | refine blk_drew ?_ | refine blk_alloc ?_ _)); exact BK151.out⟩, ⟨by repeat (first | (with_reducible first | exact HB.out | apply below_alloc | apply pw_below_drewN | apply below_drew1 | refine below_set ?_ GE151.out | refine below_set ?_ GE153.out) | exact HB.out)⟩⟩
                        · rw [if_neg c44] at H
                          have c44b0 : (((rd_T36 l0_6 x3_2).f2) == 0) = false := beq_eq_false_iff_ne.mpr c44
                          have c44b1 : (((rd_T36 l0_6 x3_2).f2) != 0) = true := bne_iff_ne.mpr c44
                          obtain rfl := Option.some.inj H
                          have hcz51_0 : wr.cell? ⟨gb151, 0, none⟩ = some (.int .i64 a0_0) := (blk_cell BK151.out 0).trans rfl
                          have hcz51_1 : wr.cell? ⟨gb151, 1, none⟩ = some (.int .i64 a0_1) := (blk_cell BK151.out 1).trans rfl
                          have hcz51_2 : wr.cell? ⟨gb151, 2, none⟩ = some (.int .i64 a0_2) := (blk_cell BK151.out 2).trans rfl
                          have hcz51_3 : wr.cell? ⟨gb151, 3, none⟩ = some (.int .i64 a0_3) := (blk_cell BK151.out 3).trans rfl
                          have hcz51_4 : wr.cell? ⟨gb151, 4, none⟩ = some (.string a0_4) := (blk_cell BK151.out 4).trans rfl
                          have hcz51_5 : wr.cell? ⟨gb151, 5, none⟩ = some (.slice A0_5 l0_5.length c0_5) := (blk_cell BK151.out 5).trans rfl
                          have hcz51_6 : wr.cell? ⟨gb151, 6, none⟩ = some (.slice A0_6 l0_6.length c0_6) := (blk_cell BK151.out 6).trans rfl
                          have hfz51_0 := blk_frozen BK151.out 0
                          have hfz51_1 := blk_frozen BK151.out 1
                          have hfz51_2 := blk_frozen BK151.out 2
                          have hfz51_3 := blk_frozen BK151.out 3
                          have hfz51_4 := blk_frozen BK151.out 4
                          have hfz51_5 := blk_frozen BK151.out 5
                          have hfz51_6 := blk_frozen BK151.out 6
                          have p152 : 0 ≤ (x3_2 : Int) := of_decide_eq_true (by first | (with_reducible assumption) | assumption)
                          have q152 : x3_2 < (l0_6.length : Int) := of_decide_eq_true (by first | (with_reducible assumption) | assumption)
                          obtain ⟨ad152, A152_2, c152_2, A152_3, c152_3, e152, hx152_0, hx152_1, hx152_2, hx152_3, hx152_4, hl152_2, hi152_2, hl152_3, hi152_3⟩ := at_T36 HR0_6.out x3_2 p152 q152
                          (try rw [← Nbq42.out] at hx152_0)
                          (try rw [← Nbq42.out] at hx152_1)
                          cases e152
                          replace hx152_0 := (HB.out.cell (World.block_lt_of_cell? w _ hx152_0)).trans hx152_0
                          replace hx152_1 := (HB.out.cell (World.block_lt_of_cell? w _ hx152_1)).trans hx152_1
                          replace hx152_2 := (HB.out.cell (World.block_lt_of_cell? w _ hx152_2)).trans hx152_2
                          replace hx152_3 := (HB.out.cell (World.block_lt_of_cell? w _ hx152_3)).trans hx152_3
                          replace hx152_4 := (HB.out.cell (World.block_lt_of_cell? w _ hx152_4)).trans hx152_4
                          have HR152_2 := Aside0.mk hi152_2
                          have HC152_2 := Aside0.mk hl152_2
                          clear hi152_2 hl152_2
                          have HR152_3 := Aside0.mk hi152_3
                          have HC152_3 := Aside0.mk hl152_3
                          clear hi152_3 hl152_3
                          replace p152 := eq_true p152
                          replace q152 := eq_true q152
                          go_wp2_with (first | ((with_reducible refine gate_dst (N := 4) rfl ?_); (try (refine gate_guard (by rfl) ?_; dsimp only)); refine box_event ?hg (N := 4) ?hd (cs := #[.bool false, .bool false, .slice none 0 0, .slice none 0 0, .int .i64 0]) (t := 36) ?hr ?_; (case hd => rfl); (case hg => rfl); (case hr => first | (go_simp; done) | (go_simp; rfl)); intro gb153 hg w52 hbox hb; have n0_ := Aside0.mk (blk_below (g := gb151) (o := .cells #[.int .i64 a0_0, .int .i64 a0_1, .int .i64 a0_2, .int .i64 a0_3, .string a0_4, .slice A0_5 l0_5.length c0_5, .slice (some ad152) l0_6.length c0_6] 25 (0, 0)) (by (with_reducible repeat (first | refine blk_drewN ?_ _ | refine blk_drew ?_ | refine blk_alloc ?_ _)); exact BK151.out) hb); have n1_ := Aside0.mk (below_step (by repeat (first | (with_reducible first | exact HB.out | apply below_alloc | apply pw_below_drewN | apply below_drew1 | refine below_set ?_ GE151.out) | exact HB.out)) hb); have n2_ := Aside0.mk (hbox); have n3_ := Aside0.mk ((by rw [hg]; exact (below_size (by repeat (first | (with_reducible first | exact HB.out | apply below_alloc | apply pw_below_drewN | apply below_drew1 | refine below_set ?_ GE151.out) | exact HB.out))) : w.heap.size ≤ gb153)); have n4_ := Aside0.mk ((by rw [hg]; exact (below_size (by repeat (first | (with_reducible first | exact HB.out | apply below_alloc | apply pw_below_drewN | apply below_drew1 | refine below_set ?_ GE151.out) | exact HB.out))) : w.heap.size ≤ gb153)); have n5_ := Aside0.mk ((by rw [hg]; exact Nat.ne_of_lt (blk_lt (g := gb151) (o := .cells #[.int .i64 a0_0, .int .i64 a0_1, .int .i64 a0_2, .int .i64 a0_3, .string a0_4, .slice A0_5 l0_5.length c0_5, .slice (some ad152) l0_6.length c0_6] 25 (0, 0)) (by (with_reducible repeat (first | refine blk_drewN ?_ _ | refine blk_drew ?_ | refine blk_alloc ?_ _)); exact BK151.out)) : gb151 ≠ gb153)); have n6_ := Aside0.mk ((by rw [hg]; exact Nat.ne_of_gt (blk_lt (g := gb151) (o := .cells #[.int .i64 a0_0, .int .i64 a0_1, .int .i64 a0_2, .int .i64 a0_3, .string a0_4, .slice A0_5 l0_5.length c0_5, .slice (some ad152) l0_6.length c0_6] 25 (0, 0)) (by (with_reducible repeat (first | refine blk_drewN ?_ _ | refine blk_drew ?_ | refine blk_alloc ?_ _)); exact BK151.out)) : gb153 ≠ gb151)); clear BK151; clear HB; have BK151 := n0_; have HB := n1_; have BK153 := n2_; have GW153 := n3_; have GE153 := n4_; have NB151_153 := n5_; have NB153_151 := n6_; clear n0_ n1_ n2_ n3_ n4_ n5_ n6_; clear hb hbox hg; have hnb53 := NB153_151.out; have hnc53 := NB151_153.out; have hcz54_0 : w52.cell? ⟨gb153, 0, none⟩ = some (.bool false) := (blk_cell BK153.out 0).trans rfl; have hcz54_1 : w52.cell? ⟨gb153, 1, none⟩ = some (.bool false) := (blk_cell BK153.out 1).trans rfl; have hcz54_2 : w52.cell? ⟨gb153, 2, none⟩ = some (.slice none 0 0) := (blk_cell BK153.out 2).trans rfl; have hcz54_3 : w52.cell? ⟨gb153, 3, none⟩ = some (.slice none 0 0) := (blk_cell BK153.out 3).trans rfl; have hcz54_4 : w52.cell? ⟨gb153, 4, none⟩ = some (.int .i64 0) := (blk_cell BK153.out 4).trans rfl; have hfz54_0 := blk_frozen BK153.out 0; have hfz54_1 := blk_frozen BK153.out 1; have hfz54_2 := blk_frozen BK153.out 2; have hfz54_3 := blk_frozen BK153.out 3; have hfz54_4 := blk_frozen BK153.out 4) | ((with_reducible refine gate_callee (f := 15) rfl ?_); refine goesL_ (some 70) rfl rfl Tryz.func15 (by kernel_rfl) rfl #[.agg #[.bool ((rd_T36 l0_6 x3_2).f1.f0.f0), .slice A152_2 ((rd_T36 l0_6 x3_2).f1.f0.f1.f0).length c152_2, .slice A152_3 ((rd_T36 l0_6 x3_2).f1.f1.f0).length c152_3]] rfl (by (try simp only [List.map_toArray, List.map_cons, List.map_nil]); first | done | rfl | (simp only [List.length_drop, List.length_take]; rfl)) ?_; (with_reducible refine (frac_Q_Sign.calls k2 ((rd_T36 l0_6 x3_2).f1.f0.f0) _ _ ((rd_T36 l0_6 x3_2).f1.f0.f1.f0) _ _ ((rd_T36 l0_6 x3_2).f1.f1.f0) t154 _ ?side1 ?side2 ?side3 ?side4 A26.out).mono ?_); (case side1 => exact Kd.C_below HR152_2.out (by repeat (first | (with_reducible first | exact HB.out | apply below_alloc | apply pw_below_drewN | apply below_drew1 | refine below_set ?_ GE151.out | refine below_set ?_ GE153.out) | exact HB.out))); (case side2 => exact HC152_2.out); (case side3 => exact Kd.C_below HR152_3.out (by repeat (first | (with_reducible first | exact HB.out | apply below_alloc | apply pw_below_drewN | apply below_drew1 | refine below_set ?_ GE151.out | refine below_set ?_ GE153.out) | exact HB.out))); (case side4 => exact HC152_3.out); rintro e w55 ⟨rfl, hb⟩; refine ⟨_, rfl, ?_⟩; have n0_ := Aside0.mk (blk_below (g := gb151) (o := .cells #[.int .i64 a0_0, .int .i64 a0_1, .int .i64 a0_2, .int .i64 a0_3, .string a0_4, .slice A0_5 l0_5.length c0_5, .slice (some ad152) l0_6.length c0_6] 25 (0, 0)) (by (with_reducible repeat (first | refine blk_drewN ?_ _ | refine blk_drew ?_ | refine blk_alloc ?_ _)); refine blk_far ?_ NB151_153.out _; (with_reducible repeat (first | refine blk_drewN ?_ _ | refine blk_drew ?_ | refine blk_alloc ?_ _)); refine blk_far ?_ NB151_153.out _; (with_reducible repeat (first | refine blk_drewN ?_ _ | refine blk_drew ?_ | refine blk_alloc ?_ _)); refine blk_far ?_ NB151_153.out _; (with_reducible repeat (first | refine blk_drewN ?_ _ | refine blk_drew ?_ | refine blk_alloc ?_ _)); refine blk_far ?_ NB151_153.out _; (with_reducible repeat (first | refine blk_drewN ?_ _ | refine blk_drew ?_ | refine blk_alloc ?_ _)); refine blk_far ?_ NB151_153.out _; (with_reducible repeat (first | refine blk_drewN ?_ _ | refine blk_drew ?_ | refine blk_alloc ?_ _)); exact BK151.out) hb); have n1_ := Aside0.mk (blk_below (g := gb153) (o := .cells #[.bool true, .bool ((rd_T36 l0_6 x3_2).f1.f0.f0), .slice A152_2 ((rd_T36 l0_6 x3_2).f1.f0.f1.f0).length c152_2, .slice A152_3 ((rd_T36 l0_6 x3_2).f1.f1.f0).length c152_3, .int .i64 ((rd_T36 l0_6 x3_2).f2)] 36 (0, 0)) (by (with_reducible repeat (first | refine blk_drewN ?_ _ | refine blk_drew ?_ | refine blk_alloc ?_ _)); refine blk_put (cs := #[.bool true, .bool ((rd_T36 l0_6 x3_2).f1.f0.f0), .slice A152_2 ((rd_T36 l0_6 x3_2).f1.f0.f1.f0).length c152_2, .slice A152_3 ((rd_T36 l0_6 x3_2).f1.f1.f0).length c152_3, .int .i64 0]) ?_ 4 _ rfl; (with_reducible repeat (first | refine blk_drewN ?_ _ | refine blk_drew ?_ | refine blk_alloc ?_ _)); refine blk_put (cs := #[.bool true, .bool ((rd_T36 l0_6 x3_2).f1.f0.f0), .slice A152_2 ((rd_T36 l0_6 x3_2).f1.f0.f1.f0).length c152_2, .slice none 0 0, .int .i64 0]) ?_ 3 _ rfl; (with_reducible repeat (first | refine blk_drewN ?_ _ | refine blk_drew ?_ | refine blk_alloc ?_ _)); refine blk_put (cs := #[.bool true, .bool ((rd_T36 l0_6 x3_2).f1.f0.f0), .slice none 0 0, .slice none 0 0, .int .i64 0]) ?_ 2 _ rfl; (with_reducible repeat (first | refine blk_drewN ?_ _ | refine blk_drew ?_ | refine blk_alloc ?_ _)); refine blk_put (cs := #[.bool true, .bool false, .slice none 0 0, .slice none 0 0, .int .i64 0]) ?_ 1 _ rfl; (with_reducible repeat (first | refine blk_drewN ?_ _ | refine blk_drew ?_ | refine blk_alloc ?_ _)); refine blk_put (cs := #[.bool false, .bool false, .slice none 0 0, .slice none 0 0, .int .i64 0]) ?_ 0 _ rfl; (with_reducible repeat (first | refine blk_drewN ?_ _ | refine blk_drew ?_ | refine blk_alloc ?_ _)); exact BK153.out) hb); have n2_ := Aside0.mk (below_step (by repeat (first | (with_reducible first | exact HB.out | apply below_alloc | apply pw_below_drewN | apply below_drew1 | refine below_set ?_ GE151.out | refine below_set ?_ GE153.out) | exact HB.out)) hb); clear BK151; clear BK153; clear HB; have BK151 := n0_; have BK153 := n1_; have HB := n2_; clear n0_ n1_ n2_; (try clear hb); (try clear hb2); (try clear hk); (try clear hi); have hcz56_0 : w55.cell? ⟨gb153, 0, none⟩ = some (.bool true) := (blk_cell BK153.out 0).trans rfl; have hcz56_1 : w55.cell? ⟨gb153, 1, none⟩ = some (.bool ((rd_T36 l0_6 x3_2).f1.f0.f0)) := (blk_cell BK153.out 1).trans rfl; have hcz56_2 : w55.cell? ⟨gb153, 2, none⟩ = some (.slice A152_2 ((rd_T36 l0_6 x3_2).f1.f0.f1.f0).length c152_2) := (blk_cell BK153.out 2).trans rfl; have hcz56_3 : w55.cell? ⟨gb153, 3, none⟩ = some (.slice A152_3 ((rd_T36 l0_6 x3_2).f1.f1.f0).length c152_3) := (blk_cell BK153.out 3).trans rfl; have hcz56_4 : w55.cell? ⟨gb153, 4, none⟩ = some (.int .i64 ((rd_T36 l0_6 x3_2).f2)) := (blk_cell BK153.out 4).trans rfl; have hfz56_0 := blk_frozen BK153.out 0; have hfz56_1 := blk_frozen BK153.out 1; have hfz56_2 := blk_frozen BK153.out 2; have hfz56_3 := blk_frozen BK153.out 3; have hfz56_4 := blk_frozen BK153.out 4))
                          go_ret
                          exact ⟨by first | rfl | (simp [errW_none, errW_some] <;> rfl) | (simp [*, errW_none, errW_some] <;> rfl), by repeat (first | (with_reducible first | exact HB.out | apply below_alloc | apply pw_below_drewN | apply below_drew1 | refine below_set ?_ GE151.out | refine below_set ?_ GE153.out) | exact HB.out)⟩
                      · replace c43 := Bool.eq_false_iff.mpr c43
                        subst c43
                        have H1 : (abaculusshelf_Fine.l0 k2 (wrap64 (x3_2 + 1)) a0_0 a0_1 a0_2 a0_3 a0_4 l0_5 l0_6) = some r := by rw [if_neg (show ¬ (false = true) by decide)] at H; exact H
                        clear H
                        have H := H1
                        clear H1
                        have H' := Aside0.mk H
                        clear H
                        have hcz57_0 : wr.cell? ⟨gb151, 0, none⟩ = some (.int .i64 a0_0) := (blk_cell BK151.out 0).trans rfl
                        have hcz57_1 : wr.cell? ⟨gb151, 1, none⟩ = some (.int .i64 a0_1) := (blk_cell BK151.out 1).trans rfl
                        have hcz57_2 : wr.cell? ⟨gb151, 2, none⟩ = some (.int .i64 a0_2) := (blk_cell BK151.out 2).trans rfl
                        have hcz57_3 : wr.cell? ⟨gb151, 3, none⟩ = some (.int .i64 a0_3) := (blk_cell BK151.out 3).trans rfl
                        have hcz57_4 : wr.cell? ⟨gb151, 4, none⟩ = some (.string a0_4) := (blk_cell BK151.out 4).trans rfl
                        have hcz57_5 : wr.cell? ⟨gb151, 5, none⟩ = some (.slice A0_5 l0_5.length c0_5) := (blk_cell BK151.out 5).trans rfl
                        have hcz57_6 : wr.cell? ⟨gb151, 6, none⟩ = some (.slice A0_6 l0_6.length c0_6) := (blk_cell BK151.out 6).trans rfl
                        have hfz57_0 := blk_frozen BK151.out 0
                        have hfz57_1 := blk_frozen BK151.out 1
                        have hfz57_2 := blk_frozen BK151.out 2
                        have hfz57_3 := blk_frozen BK151.out 3
                        have hfz57_4 := blk_frozen BK151.out 4
                        have hfz57_5 := blk_frozen BK151.out 5
                        have hfz57_6 := blk_frozen BK151.out 6
                        have p152 : 0 ≤ (x3_2 : Int) := of_decide_eq_true (by first | (with_reducible assumption) | assumption)
                        have q152 : x3_2 < (l0_6.length : Int) := of_decide_eq_true (by first | (with_reducible assumption) | assumption)
                        obtain ⟨ad152, A152_2, c152_2, A152_3, c152_3, e152, hx152_0, hx152_1, hx152_2, hx152_3, hx152_4, hl152_2, hi152_2, hl152_3, hi152_3⟩ := at_T36 HR0_6.out x3_2 p152 q152
                        (try rw [← Nbq42.out] at hx152_0)
                        (try rw [← Nbq42.out] at hx152_1)
                        cases e152
                        replace hx152_0 := (HB.out.cell (World.block_lt_of_cell? w _ hx152_0)).trans hx152_0
                        replace hx152_1 := (HB.out.cell (World.block_lt_of_cell? w _ hx152_1)).trans hx152_1
                        replace hx152_2 := (HB.out.cell (World.block_lt_of_cell? w _ hx152_2)).trans hx152_2
                        replace hx152_3 := (HB.out.cell (World.block_lt_of_cell? w _ hx152_3)).trans hx152_3
                        replace hx152_4 := (HB.out.cell (World.block_lt_of_cell? w _ hx152_4)).trans hx152_4
                        have HR152_2 := Aside0.mk hi152_2
                        have HC152_2 := Aside0.mk hl152_2
                        clear hi152_2 hl152_2
                        have HR152_3 := Aside0.mk hi152_3
                        have HC152_3 := Aside0.mk hl152_3
                        clear hi152_3 hl152_3
                        replace p152 := eq_true p152
                        replace q152 := eq_true q152
                        go_wp2_with (first | ((with_reducible refine gate_dst (N := 4) rfl ?_); (try (refine gate_guard (by rfl) ?_; dsimp only)); refine box_event ?hg (N := 4) ?hd (cs := #[.bool false, .bool false, .slice none 0 0, .slice none 0 0, .int .i64 0]) (t := 36) ?hr ?_; (case hd => rfl); (case hg => rfl); (case hr => first | (go_simp; done) | (go_simp; rfl)); intro gb153 hg w58 hbox hb; have n0_ := Aside0.mk (blk_below (g := gb151) (o := .cells #[.int .i64 a0_0, .int .i64 a0_1, .int .i64 a0_2, .int .i64 a0_3, .string a0_4, .slice A0_5 l0_5.length c0_5, .slice (some ad152) l0_6.length c0_6] 25 (0, 0)) (by (with_reducible repeat (first | refine blk_drewN ?_ _ | refine blk_drew ?_ | refine blk_alloc ?_ _)); exact BK151.out) hb); have n1_ := Aside0.mk (below_step (by repeat (first | (with_reducible first | exact HB.out | apply below_alloc | apply pw_below_drewN | apply below_drew1 | refine below_set ?_ GE151.out) | exact HB.out)) hb); have n2_ := Aside0.mk (hbox); have n3_ := Aside0.mk ((by rw [hg]; exact (below_size (by repeat (first | (with_reducible first | exact HB.out | apply below_alloc | apply pw_below_drewN | apply below_drew1 | refine below_set ?_ GE151.out) | exact HB.out))) : w.heap.size ≤ gb153)); have n4_ := Aside0.mk ((by rw [hg]; exact (below_size (by repeat (first | (with_reducible first | exact HB.out | apply below_alloc | apply pw_below_drewN | apply below_drew1 | refine below_set ?_ GE151.out) | exact HB.out))) : w.heap.size ≤ gb153)); have n5_ := Aside0.mk ((by rw [hg]; exact Nat.ne_of_lt (blk_lt (g := gb151) (o := .cells #[.int .i64 a0_0, .int .i64 a0_1, .int .i64 a0_2, .int .i64 a0_3, .string a0_4, .slice A0_5 l0_5.length c0_5, .slice (some ad152) l0_6.length c0_6] 25 (0, 0)) (by (with_reducible repeat (first | refine blk_drewN ?_ _ | refine blk_drew ?_ | refine blk_alloc ?_ _)); exact BK151.out)) : gb151 ≠ gb153)); have n6_ := Aside0.mk ((by rw [hg]; exact Nat.ne_of_gt (blk_lt (g := gb151) (o := .cells #[.int .i64 a0_0, .int .i64 a0_1, .int .i64 a0_2, .int .i64 a0_3, .string a0_4, .slice A0_5 l0_5.length c0_5, .slice (some ad152) l0_6.length c0_6] 25 (0, 0)) (by (with_reducible repeat (first | refine blk_drewN ?_ _ | refine blk_drew ?_ | refine blk_alloc ?_ _)); exact BK151.out)) : gb153 ≠ gb151)); clear BK151; clear HB; have BK151 := n0_; have HB := n1_; have BK153 := n2_; have GW153 := n3_; have GE153 := n4_; have NB151_153 := n5_; have NB153_151 := n6_; clear n0_ n1_ n2_ n3_ n4_ n5_ n6_; clear hb hbox hg; have hnb59 := NB153_151.out; have hnc59 := NB151_153.out; have hcz60_0 : w58.cell? ⟨gb153, 0, none⟩ = some (.bool false) := (blk_cell BK153.out 0).trans rfl; have hcz60_1 : w58.cell? ⟨gb153, 1, none⟩ = some (.bool false) := (blk_cell BK153.out 1).trans rfl; have hcz60_2 : w58.cell? ⟨gb153, 2, none⟩ = some (.slice none 0 0) := (blk_cell BK153.out 2).trans rfl; have hcz60_3 : w58.cell? ⟨gb153, 3, none⟩ = some (.slice none 0 0) := (blk_cell BK153.out 3).trans rfl; have hcz60_4 : w58.cell? ⟨gb153, 4, none⟩ = some (.int .i64 0) := (blk_cell BK153.out 4).trans rfl; have hfz60_0 := blk_frozen BK153.out 0; have hfz60_1 := blk_frozen BK153.out 1; have hfz60_2 := blk_frozen BK153.out 2; have hfz60_3 := blk_frozen BK153.out 3; have hfz60_4 := blk_frozen BK153.out 4) | ((with_reducible refine gate_callee (f := 15) rfl ?_); refine goesL_ (some 70) rfl rfl Tryz.func15 (by kernel_rfl) rfl #[.agg #[.bool ((rd_T36 l0_6 x3_2).f1.f0.f0), .slice A152_2 ((rd_T36 l0_6 x3_2).f1.f0.f1.f0).length c152_2, .slice A152_3 ((rd_T36 l0_6 x3_2).f1.f1.f0).length c152_3]] rfl (by (try simp only [List.map_toArray, List.map_cons, List.map_nil]); first | done | rfl | (simp only [List.length_drop, List.length_take]; rfl)) ?_; (with_reducible refine (frac_Q_Sign.calls k2 ((rd_T36 l0_6 x3_2).f1.f0.f0) _ _ ((rd_T36 l0_6 x3_2).f1.f0.f1.f0) _ _ ((rd_T36 l0_6 x3_2).f1.f1.f0) t154 _ ?side1 ?side2 ?side3 ?side4 A26.out).mono ?_); (case side1 => exact Kd.C_below HR152_2.out (by repeat (first | (with_reducible first | exact HB.out | apply below_alloc | apply pw_below_drewN | apply below_drew1 | refine below_set ?_ GE151.out | refine below_set ?_ GE153.out) | exact HB.out))); (case side2 => exact HC152_2.out); (case side3 => exact Kd.C_below HR152_3.out (by repeat (first | (with_reducible first | exact HB.out | apply below_alloc | apply pw_below_drewN | apply below_drew1 | refine below_set ?_ GE151.out | refine below_set ?_ GE153.out) | exact HB.out))); (case side4 => exact HC152_3.out); rintro e w61 ⟨rfl, hb⟩; refine ⟨_, rfl, ?_⟩; have n0_ := Aside0.mk (blk_below (g := gb151) (o := .cells #[.int .i64 a0_0, .int .i64 a0_1, .int .i64 a0_2, .int .i64 a0_3, .string a0_4, .slice A0_5 l0_5.length c0_5, .slice (some ad152) l0_6.length c0_6] 25 (0, 0)) (by (with_reducible repeat (first | refine blk_drewN ?_ _ | refine blk_drew ?_ | refine blk_alloc ?_ _)); refine blk_far ?_ NB151_153.out _; (with_reducible repeat (first | refine blk_drewN ?_ _ | refine blk_drew ?_ | refine blk_alloc ?_ _)); refine blk_far ?_ NB151_153.out _; (with_reducible repeat (first | refine blk_drewN ?_ _ | refine blk_drew ?_ | refine blk_alloc ?_ _)); refine blk_far ?_ NB151_153.out _; (with_reducible repeat (first | refine blk_drewN ?_ _ | refine blk_drew ?_ | refine blk_alloc ?_ _)); refine blk_far ?_ NB151_153.out _; (with_reducible repeat (first | refine blk_drewN ?_ _ | refine blk_drew ?_ | refine blk_alloc ?_ _)); refine blk_far ?_ NB151_153.out _; (with_reducible repeat (first | refine blk_drewN ?_ _ | refine blk_drew ?_ | refine blk_alloc ?_ _)); exact BK151.out) hb); have n1_ := Aside0.mk (blk_below (g := gb153) (o := .cells #[.bool false, .bool ((rd_T36 l0_6 x3_2).f1.f0.f0), .slice A152_2 ((rd_T36 l0_6 x3_2).f1.f0.f1.f0).length c152_2, .slice A152_3 ((rd_T36 l0_6 x3_2).f1.f1.f0).length c152_3, .int .i64 ((rd_T36 l0_6 x3_2).f2)] 36 (0, 0)) (by (with_reducible repeat (first | refine blk_drewN ?_ _ | refine blk_drew ?_ | refine blk_alloc ?_ _)); refine blk_put (cs := #[.bool false, .bool ((rd_T36 l0_6 x3_2).f1.f0.f0), .slice A152_2 ((rd_T36 l0_6 x3_2).f1.f0.f1.f0).length c152_2, .slice A152_3 ((rd_T36 l0_6 x3_2).f1.f1.f0).length c152_3, .int .i64 0]) ?_ 4 _ rfl; (with_reducible repeat (first | refine blk_drewN ?_ _ | refine blk_drew ?_ | refine blk_alloc ?_ _)); refine blk_put (cs := #[.bool false, .bool ((rd_T36 l0_6 x3_2).f1.f0.f0), .slice A152_2 ((rd_T36 l0_6 x3_2).f1.f0.f1.f0).length c152_2, .slice none 0 0, .int .i64 0]) ?_ 3 _ rfl; (with_reducible repeat (first | refine blk_drewN ?_ _ | refine blk_drew ?_ | refine blk_alloc ?_ _)); refine blk_put (cs := #[.bool false, .bool ((rd_T36 l0_6 x3_2).f1.f0.f0), .slice none 0 0, .slice none 0 0, .int .i64 0]) ?_ 2 _ rfl; (with_reducible repeat (first | refine blk_drewN ?_ _ | refine blk_drew ?_ | refine blk_alloc ?_ _)); refine blk_put (cs := #[.bool false, .bool false, .slice none 0 0, .slice none 0 0, .int .i64 0]) ?_ 1 _ rfl; (with_reducible repeat (first | refine blk_drewN ?_ _ | refine blk_drew ?_ | refine blk_alloc ?_ _)); refine blk_put (cs := #[.bool false, .bool false, .slice none 0 0, .slice none 0 0, .int .i64 0]) ?_ 0 _ rfl; (with_reducible repeat (first | refine blk_drewN ?_ _ | refine blk_drew ?_ | refine blk_alloc ?_ _)); exact BK153.out) hb); have n2_ := Aside0.mk (below_step (by repeat (first | (with_reducible first | exact HB.out | apply below_alloc | apply pw_below_drewN | apply below_drew1 | refine below_set ?_ GE151.out | refine below_set ?_ GE153.out) | exact HB.out)) hb); clear BK151; clear BK153; clear HB; have BK151 := n0_; have BK153 := n1_; have HB := n2_; clear n0_ n1_ n2_; (try clear hb); (try clear hb2); (try clear hk); (try clear hi); have hcz62_0 : w61.cell? ⟨gb153, 0, none⟩ = some (.bool false) := (blk_cell BK153.out 0).trans rfl; have hcz62_1 : w61.cell? ⟨gb153, 1, none⟩ = some (.bool ((rd_T36 l0_6 x3_2).f1.f0.f0)) := (blk_cell BK153.out 1).trans rfl; have hcz62_2 : w61.cell? ⟨gb153, 2, none⟩ = some (.slice A152_2 ((rd_T36 l0_6 x3_2).f1.f0.f1.f0).length c152_2) := (blk_cell BK153.out 2).trans rfl; have hcz62_3 : w61.cell? ⟨gb153, 3, none⟩ = some (.slice A152_3 ((rd_T36 l0_6 x3_2).f1.f1.f0).length c152_3) := (blk_cell BK153.out 3).trans rfl; have hcz62_4 : w61.cell? ⟨gb153, 4, none⟩ = some (.int .i64 ((rd_T36 l0_6 x3_2).f2)) := (blk_cell BK153.out 4).trans rfl; have hfz62_0 := blk_frozen BK153.out 0; have hfz62_1 := blk_frozen BK153.out 1; have hfz62_2 := blk_frozen BK153.out 2; have hfz62_3 := blk_frozen BK153.out 3; have hfz62_4 := blk_frozen BK153.out 4))
                        go_roundg k2
                        case measure => have := HJ1.out; have := HK2.out; omega
                        case rel => exact ⟨(wrap64 (x3_2 + 1)), (by first | rfl | (simp; done) | (simp [*]; done)), H', ⟨by have := HJ1.out; have := HK2.out; omega⟩, ⟨by (with_reducible repeat (first | refine blk_drewN ?_ _ | refine blk_drew ?_ | refine blk_alloc ?_ _)); exact BK151.out⟩, ⟨by repeat (first | (with_reducible first | exact HB.out | apply below_alloc | apply pw_below_drewN | apply below_drew1 | refine below_set ?_ GE151.out | refine below_set ?_ GE153.out) | exact HB.out)⟩⟩
                    · rw [if_neg c41] at H
                      have c41b0 : (t154 == 0) = false := beq_eq_false_iff_ne.mpr c41
                      have c41b1 : (t154 != 0) = true := bne_iff_ne.mpr c41
                      by_cases c63 : ((rd_T36 l0_6 x3_2).f2) = 0
                      · rw [if_pos c63] at H
                        have c63b0 : (((rd_T36 l0_6 x3_2).f2) == 0) = true := beq_iff_eq.mpr c63
                        have c63b1 : (((rd_T36 l0_6 x3_2).f2) != 0) = false := bne_eq_false_iff_eq.mpr c63
                        clear c63
                        obtain ⟨bq64, hbq64⟩ : ∃ b_ : Bool, b_ = ((rd_T36 l0_6 x3_2).f0) := ⟨_, rfl⟩
                        replace H : (if bq64 = true then (some false) else (abaculusshelf_Fine.l0 k2 (wrap64 (x3_2 + 1)) a0_0 a0_1 a0_2 a0_3 a0_4 l0_5 l0_6)) = some r := by rw [← hbq64] at H; exact H
                        have Nbq64 := Aside0.mk hbq64
                        clear hbq64
                        by_cases c65 : bq64 = true
                        · subst c65
                          have H1 : (some false) = some r := by rw [if_pos rfl] at H; exact H
                          clear H
                          have H := H1
                          clear H1
                          obtain rfl := Option.some.inj H
                          have hcz66_0 : wr.cell? ⟨gb151, 0, none⟩ = some (.int .i64 a0_0) := (blk_cell BK151.out 0).trans rfl
                          have hcz66_1 : wr.cell? ⟨gb151, 1, none⟩ = some (.int .i64 a0_1) := (blk_cell BK151.out 1).trans rfl
                          have hcz66_2 : wr.cell? ⟨gb151, 2, none⟩ = some (.int .i64 a0_2) := (blk_cell BK151.out 2).trans rfl
                          have hcz66_3 : wr.cell? ⟨gb151, 3, none⟩ = some (.int .i64 a0_3) := (blk_cell BK151.out 3).trans rfl
                          have hcz66_4 : wr.cell? ⟨gb151, 4, none⟩ = some (.string a0_4) := (blk_cell BK151.out 4).trans rfl
                          have hcz66_5 : wr.cell? ⟨gb151, 5, none⟩ = some (.slice A0_5 l0_5.length c0_5) := (blk_cell BK151.out 5).trans rfl
                          have hcz66_6 : wr.cell? ⟨gb151, 6, none⟩ = some (.slice A0_6 l0_6.length c0_6) := (blk_cell BK151.out 6).trans rfl
                          have hfz66_0 := blk_frozen BK151.out 0
                          have hfz66_1 := blk_frozen BK151.out 1
                          have hfz66_2 := blk_frozen BK151.out 2
                          have hfz66_3 := blk_frozen BK151.out 3
                          have hfz66_4 := blk_frozen BK151.out 4
                          have hfz66_5 := blk_frozen BK151.out 5
                          have hfz66_6 := blk_frozen BK151.out 6
                          have p152 : 0 ≤ (x3_2 : Int) := of_decide_eq_true (by first | (with_reducible assumption) | assumption)
                          have q152 : x3_2 < (l0_6.length : Int) := of_decide_eq_true (by first | (with_reducible assumption) | assumption)
                          obtain ⟨ad152, A152_2, c152_2, A152_3, c152_3, e152, hx152_0, hx152_1, hx152_2, hx152_3, hx152_4, hl152_2, hi152_2, hl152_3, hi152_3⟩ := at_T36 HR0_6.out x3_2 p152 q152
                          (try rw [← Nbq64.out] at hx152_0)
                          (try rw [← Nbq64.out] at hx152_1)
                          cases e152
                          replace hx152_0 := (HB.out.cell (World.block_lt_of_cell? w _ hx152_0)).trans hx152_0
                          replace hx152_1 := (HB.out.cell (World.block_lt_of_cell? w _ hx152_1)).trans hx152_1
                          replace hx152_2 := (HB.out.cell (World.block_lt_of_cell? w _ hx152_2)).trans hx152_2
                          replace hx152_3 := (HB.out.cell (World.block_lt_of_cell? w _ hx152_3)).trans hx152_3
                          replace hx152_4 := (HB.out.cell (World.block_lt_of_cell? w _ hx152_4)).trans hx152_4
                          have HR152_2 := Aside0.mk hi152_2
                          have HC152_2 := Aside0.mk hl152_2
                          clear hi152_2 hl152_2
                          have HR152_3 := Aside0.mk hi152_3
                          have HC152_3 := Aside0.mk hl152_3
                          clear hi152_3 hl152_3
                          replace p152 := eq_true p152
                          replace q152 := eq_true q152
                          go_wp2_with (first | ((with_reducible refine gate_dst (N := 4) rfl ?_); (try (refine gate_guard (by rfl) ?_; dsimp only)); refine box_event ?hg (N := 4) ?hd (cs := #[.bool false, .bool false, .slice none 0 0, .slice none 0 0, .int .i64 0]) (t := 36) ?hr ?_; (case hd => rfl); (case hg => rfl); (case hr => first | (go_simp; done) | (go_simp; rfl)); intro gb153 hg w67 hbox hb; have n0_ := Aside0.mk (blk_below (g := gb151) (o := .cells #[.int .i64 a0_0, .int .i64 a0_1, .int .i64 a0_2, .int .i64 a0_3, .string a0_4, .slice A0_5 l0_5.length c0_5, .slice (some ad152) l0_6.length c0_6] 25 (0, 0)) (by (with_reducible repeat (first | refine blk_drewN ?_ _ | refine blk_drew ?_ | refine blk_alloc ?_ _)); exact BK151.out) hb); have n1_ := Aside0.mk (below_step (by repeat (first | (with_reducible first | exact HB.out | apply below_alloc | apply pw_below_drewN | apply below_drew1 | refine below_set ?_ GE151.out) | exact HB.out)) hb); have n2_ := Aside0.mk (hbox); have n3_ := Aside0.mk ((by rw [hg]; exact (below_size (by repeat (first | (with_reducible first | exact HB.out | apply below_alloc | apply pw_below_drewN | apply below_drew1 | refine below_set ?_ GE151.out) | exact HB.out))) : w.heap.size ≤ gb153)); have n4_ := Aside0.mk ((by rw [hg]; exact (below_size (by repeat (first | (with_reducible first | exact HB.out | apply below_alloc | apply pw_below_drewN | apply below_drew1 | refine below_set ?_ GE151.out) | exact HB.out))) : w.heap.size ≤ gb153)); have n5_ := Aside0.mk ((by rw [hg]; exact Nat.ne_of_lt (blk_lt (g := gb151) (o := .cells #[.int .i64 a0_0, .int .i64 a0_1, .int .i64 a0_2, .int .i64 a0_3, .string a0_4, .slice A0_5 l0_5.length c0_5, .slice (some ad152) l0_6.length c0_6] 25 (0, 0)) (by (with_reducible repeat (first | refine blk_drewN ?_ _ | refine blk_drew ?_ | refine blk_alloc ?_ _)); exact BK151.out)) : gb151 ≠ gb153)); have n6_ := Aside0.mk ((by rw [hg]; exact Nat.ne_of_gt (blk_lt (g := gb151) (o := .cells #[.int .i64 a0_0, .int .i64 a0_1, .int .i64 a0_2, .int .i64 a0_3, .string a0_4, .slice A0_5 l0_5.length c0_5, .slice (some ad152) l0_6.length c0_6] 25 (0, 0)) (by (with_reducible repeat (first | refine blk_drewN ?_ _ | refine blk_drew ?_ | refine blk_alloc ?_ _)); exact BK151.out)) : gb153 ≠ gb151)); clear BK151; clear HB; have BK151 := n0_; have HB := n1_; have BK153 := n2_; have GW153 := n3_; have GE153 := n4_; have NB151_153 := n5_; have NB153_151 := n6_; clear n0_ n1_ n2_ n3_ n4_ n5_ n6_; clear hb hbox hg; have hnb68 := NB153_151.out; have hnc68 := NB151_153.out; have hcz69_0 : w67.cell? ⟨gb153, 0, none⟩ = some (.bool false) := (blk_cell BK153.out 0).trans rfl; have hcz69_1 : w67.cell? ⟨gb153, 1, none⟩ = some (.bool false) := (blk_cell BK153.out 1).trans rfl; have hcz69_2 : w67.cell? ⟨gb153, 2, none⟩ = some (.slice none 0 0) := (blk_cell BK153.out 2).trans rfl; have hcz69_3 : w67.cell? ⟨gb153, 3, none⟩ = some (.slice none 0 0) := (blk_cell BK153.out 3).trans rfl; have hcz69_4 : w67.cell? ⟨gb153, 4, none⟩ = some (.int .i64 0) := (blk_cell BK153.out 4).trans rfl; have hfz69_0 := blk_frozen BK153.out 0; have hfz69_1 := blk_frozen BK153.out 1; have hfz69_2 := blk_frozen BK153.out 2; have hfz69_3 := blk_frozen BK153.out 3; have hfz69_4 := blk_frozen BK153.out 4) | ((with_reducible refine gate_callee (f := 15) rfl ?_); refine goesL_ (some 70) rfl rfl Tryz.func15 (by kernel_rfl) rfl #[.agg #[.bool ((rd_T36 l0_6 x3_2).f1.f0.f0), .slice A152_2 ((rd_T36 l0_6 x3_2).f1.f0.f1.f0).length c152_2, .slice A152_3 ((rd_T36 l0_6 x3_2).f1.f1.f0).length c152_3]] rfl (by (try simp only [List.map_toArray, List.map_cons, List.map_nil]); first | done | rfl | (simp only [List.length_drop, List.length_take]; rfl)) ?_; (with_reducible refine (frac_Q_Sign.calls k2 ((rd_T36 l0_6 x3_2).f1.f0.f0) _ _ ((rd_T36 l0_6 x3_2).f1.f0.f1.f0) _ _ ((rd_T36 l0_6 x3_2).f1.f1.f0) t154 _ ?side1 ?side2 ?side3 ?side4 A26.out).mono ?_); (case side1 => exact Kd.C_below HR152_2.out (by repeat (first | (with_reducible first | exact HB.out | apply below_alloc | apply pw_below_drewN | apply below_drew1 | refine below_set ?_ GE151.out | refine below_set ?_ GE153.out) | exact HB.out))); (case side2 => exact HC152_2.out); (case side3 => exact Kd.C_below HR152_3.out (by repeat (first | (with_reducible first | exact HB.out | apply below_alloc | apply pw_below_drewN | apply below_drew1 | refine below_set ?_ GE151.out | refine below_set ?_ GE153.out) | exact HB.out))); (case side4 => exact HC152_3.out); rintro e w70 ⟨rfl, hb⟩; refine ⟨_, rfl, ?_⟩; have n0_ := Aside0.mk (blk_below (g := gb151) (o := .cells #[.int .i64 a0_0, .int .i64 a0_1, .int .i64 a0_2, .int .i64 a0_3, .string a0_4, .slice A0_5 l0_5.length c0_5, .slice (some ad152) l0_6.length c0_6] 25 (0, 0)) (by (with_reducible repeat (first | refine blk_drewN ?_ _ | refine blk_drew ?_ | refine blk_alloc ?_ _)); refine blk_far ?_ NB151_153.out _; (with_reducible repeat (first | refine blk_drewN ?_ _ | refine blk_drew ?_ | refine blk_alloc ?_ _)); refine blk_far ?_ NB151_153.out _; (with_reducible repeat (first | refine blk_drewN ?_ _ | refine blk_drew ?_ | refine blk_alloc ?_ _)); refine blk_far ?_ NB151_153.out _; (with_reducible repeat (first | refine blk_drewN ?_ _ | refine blk_drew ?_ | refine blk_alloc ?_ _)); refine blk_far ?_ NB151_153.out _; (with_reducible repeat (first | refine blk_drewN ?_ _ | refine blk_drew ?_ | refine blk_alloc ?_ _)); refine blk_far ?_ NB151_153.out _; (with_reducible repeat (first | refine blk_drewN ?_ _ | refine blk_drew ?_ | refine blk_alloc ?_ _)); exact BK151.out) hb); have n1_ := Aside0.mk (blk_below (g := gb153) (o := .cells #[.bool true, .bool ((rd_T36 l0_6 x3_2).f1.f0.f0), .slice A152_2 ((rd_T36 l0_6 x3_2).f1.f0.f1.f0).length c152_2, .slice A152_3 ((rd_T36 l0_6 x3_2).f1.f1.f0).length c152_3, .int .i64 ((rd_T36 l0_6 x3_2).f2)] 36 (0, 0)) (by (with_reducible repeat (first | refine blk_drewN ?_ _ | refine blk_drew ?_ | refine blk_alloc ?_ _)); refine blk_put (cs := #[.bool true, .bool ((rd_T36 l0_6 x3_2).f1.f0.f0), .slice A152_2 ((rd_T36 l0_6 x3_2).f1.f0.f1.f0).length c152_2, .slice A152_3 ((rd_T36 l0_6 x3_2).f1.f1.f0).length c152_3, .int .i64 0]) ?_ 4 _ rfl; (with_reducible repeat (first | refine blk_drewN ?_ _ | refine blk_drew ?_ | refine blk_alloc ?_ _)); refine blk_put (cs := #[.bool true, .bool ((rd_T36 l0_6 x3_2).f1.f0.f0), .slice A152_2 ((rd_T36 l0_6 x3_2).f1.f0.f1.f0).length c152_2, .slice none 0 0, .int .i64 0]) ?_ 3 _ rfl; (with_reducible repeat (first | refine blk_drewN ?_ _ | refine blk_drew ?_ | refine blk_alloc ?_ _)); refine blk_put (cs := #[.bool true, .bool ((rd_T36 l0_6 x3_2).f1.f0.f0), .slice none 0 0, .slice none 0 0, .int .i64 0]) ?_ 2 _ rfl; (with_reducible repeat (first | refine blk_drewN ?_ _ | refine blk_drew ?_ | refine blk_alloc ?_ _)); refine blk_put (cs := #[.bool true, .bool false, .slice none 0 0, .slice none 0 0, .int .i64 0]) ?_ 1 _ rfl; (with_reducible repeat (first | refine blk_drewN ?_ _ | refine blk_drew ?_ | refine blk_alloc ?_ _)); refine blk_put (cs := #[.bool false, .bool false, .slice none 0 0, .slice none 0 0, .int .i64 0]) ?_ 0 _ rfl; (with_reducible repeat (first | refine blk_drewN ?_ _ | refine blk_drew ?_ | refine blk_alloc ?_ _)); exact BK153.out) hb); have n2_ := Aside0.mk (below_step (by repeat (first | (with_reducible first | exact HB.out | apply below_alloc | apply pw_below_drewN | apply below_drew1 | refine below_set ?_ GE151.out | refine below_set ?_ GE153.out) | exact HB.out)) hb); clear BK151; clear BK153; clear HB; have BK151 := n0_; have BK153 := n1_; have HB := n2_; clear n0_ n1_ n2_; (try clear hb); (try clear hb2); (try clear hk); (try clear hi); have hcz71_0 : w70.cell? ⟨gb153, 0, none⟩ = some (.bool true) := (blk_cell BK153.out 0).trans rfl; have hcz71_1 : w70.cell? ⟨gb153, 1, none⟩ = some (.bool ((rd_T36 l0_6 x3_2).f1.f0.f0)) := (blk_cell BK153.out 1).trans rfl; have hcz71_2 : w70.cell? ⟨gb153, 2, none⟩ = some (.slice A152_2 ((rd_T36 l0_6 x3_2).f1.f0.f1.f0).length c152_2) := (blk_cell BK153.out 2).trans rfl; have hcz71_3 : w70.cell? ⟨gb153, 3, none⟩ = some (.slice A152_3 ((rd_T36 l0_6 x3_2).f1.f1.f0).length c152_3) := (blk_cell BK153.out 3).trans rfl; have hcz71_4 : w70.cell? ⟨gb153, 4, none⟩ = some (.int .i64 ((rd_T36 l0_6 x3_2).f2)) := (blk_cell BK153.out 4).trans rfl; have hfz71_0 := blk_frozen BK153.out 0; have hfz71_1 := blk_frozen BK153.out 1; have hfz71_2 := blk_frozen BK153.out 2; have hfz71_3 := blk_frozen BK153.out 3; have hfz71_4 := blk_frozen BK153.out 4))
                          go_ret
                          exact ⟨by first | rfl | (simp [errW_none, errW_some] <;> rfl) | (simp [*, errW_none, errW_some] <;> rfl), by repeat (first | (with_reducible first | exact HB.out | apply below_alloc | apply pw_below_drewN | apply below_drew1 | refine below_set ?_ GE151.out | refine below_set ?_ GE153.out) | exact HB.out)⟩
                        · replace c65 := Bool.eq_false_iff.mpr c65
                          subst c65
                          have H1 : (abaculusshelf_Fine.l0 k2 (wrap64 (x3_2 + 1)) a0_0 a0_1 a0_2 a0_3 a0_4 l0_5 l0_6) = some r := by rw [if_neg (show ¬ (false = true) by decide)] at H; exact H
                          clear H
                          have H := H1
                          clear H1
                          have H' := Aside0.mk H
                          clear H
                          have hcz72_0 : wr.cell? ⟨gb151, 0, none⟩ = some (.int .i64 a0_0) := (blk_cell BK151.out 0).trans rfl
                          have hcz72_1 : wr.cell? ⟨gb151, 1, none⟩ = some (.int .i64 a0_1) := (blk_cell BK151.out 1).trans rfl
                          have hcz72_2 : wr.cell? ⟨gb151, 2, none⟩ = some (.int .i64 a0_2) := (blk_cell BK151.out 2).trans rfl
                          have hcz72_3 : wr.cell? ⟨gb151, 3, none⟩ = some (.int .i64 a0_3) := (blk_cell BK151.out 3).trans rfl
                          have hcz72_4 : wr.cell? ⟨gb151, 4, none⟩ = some (.string a0_4) := (blk_cell BK151.out 4).trans rfl
                          have hcz72_5 : wr.cell? ⟨gb151, 5, none⟩ = some (.slice A0_5 l0_5.length c0_5) := (blk_cell BK151.out 5).trans rfl
                          have hcz72_6 : wr.cell? ⟨gb151, 6, none⟩ = some (.slice A0_6 l0_6.length c0_6) := (blk_cell BK151.out 6).trans rfl
                          have hfz72_0 := blk_frozen BK151.out 0
                          have hfz72_1 := blk_frozen BK151.out 1
                          have hfz72_2 := blk_frozen BK151.out 2
                          have hfz72_3 := blk_frozen BK151.out 3
                          have hfz72_4 := blk_frozen BK151.out 4
                          have hfz72_5 := blk_frozen BK151.out 5
                          have hfz72_6 := blk_frozen BK151.out 6
                          have p152 : 0 ≤ (x3_2 : Int) := of_decide_eq_true (by first | (with_reducible assumption) | assumption)
                          have q152 : x3_2 < (l0_6.length : Int) := of_decide_eq_true (by first | (with_reducible assumption) | assumption)
                          obtain ⟨ad152, A152_2, c152_2, A152_3, c152_3, e152, hx152_0, hx152_1, hx152_2, hx152_3, hx152_4, hl152_2, hi152_2, hl152_3, hi152_3⟩ := at_T36 HR0_6.out x3_2 p152 q152
                          (try rw [← Nbq64.out] at hx152_0)
                          (try rw [← Nbq64.out] at hx152_1)
                          cases e152
                          replace hx152_0 := (HB.out.cell (World.block_lt_of_cell? w _ hx152_0)).trans hx152_0
                          replace hx152_1 := (HB.out.cell (World.block_lt_of_cell? w _ hx152_1)).trans hx152_1
                          replace hx152_2 := (HB.out.cell (World.block_lt_of_cell? w _ hx152_2)).trans hx152_2
                          replace hx152_3 := (HB.out.cell (World.block_lt_of_cell? w _ hx152_3)).trans hx152_3
                          replace hx152_4 := (HB.out.cell (World.block_lt_of_cell? w _ hx152_4)).trans hx152_4
                          have HR152_2 := Aside0.mk hi152_2
                          have HC152_2 := Aside0.mk hl152_2
                          clear hi152_2 hl152_2
                          have HR152_3 := Aside0.mk hi152_3
                          have HC152_3 := Aside0.mk hl152_3
                          clear hi152_3 hl152_3
                          replace p152 := eq_true p152
                          replace q152 := eq_true q152
                          go_wp2_with (first | ((with_reducible refine gate_dst (N := 4) rfl ?_); (try (refine gate_guard (by rfl) ?_; dsimp only)); refine box_event ?hg (N := 4) ?hd (cs := #[.bool false, .bool false, .slice none 0 0, .slice none 0 0, .int .i64 0]) (t := 36) ?hr ?_; (case hd => rfl); (case hg => rfl); (case hr => first | (go_simp; done) | (go_simp; rfl)); intro gb153 hg w73 hbox hb; have n0_ := Aside0.mk (blk_below (g := gb151) (o := .cells #[.int .i64 a0_0, .int .i64 a0_1, .int .i64 a0_2, .int .i64 a0_3, .string a0_4, .slice A0_5 l0_5.length c0_5, .slice (some ad152) l0_6.length c0_6] 25 (0, 0)) (by (with_reducible repeat (first | refine blk_drewN ?_ _ | refine blk_drew ?_ | refine blk_alloc ?_ _)); exact BK151.out) hb); have n1_ := Aside0.mk (below_step (by repeat (first | (with_reducible first | exact HB.out | apply below_alloc | apply pw_below_drewN | apply below_drew1 | refine below_set ?_ GE151.out) | exact HB.out)) hb); have n2_ := Aside0.mk (hbox); have n3_ := Aside0.mk ((by rw [hg]; exact (below_size (by repeat (first | (with_reducible first | exact HB.out | apply below_alloc | apply pw_below_drewN | apply below_drew1 | refine below_set ?_ GE151.out) | exact HB.out))) : w.heap.size ≤ gb153)); have n4_ := Aside0.mk ((by rw [hg]; exact (below_size (by repeat (first | (with_reducible first | exact HB.out | apply below_alloc | apply pw_below_drewN | apply below_drew1 | refine below_set ?_ GE151.out) | exact HB.out))) : w.heap.size ≤ gb153)); have n5_ := Aside0.mk ((by rw [hg]; exact Nat.ne_of_lt (blk_lt (g := gb151) (o := .cells #[.int .i64 a0_0, .int .i64 a0_1, .int .i64 a0_2, .int .i64 a0_3, .string a0_4, .slice A0_5 l0_5.length c0_5, .slice (some ad152) l0_6.length c0_6] 25 (0, 0)) (by (with_reducible repeat (first | refine blk_drewN ?_ _ | refine blk_drew ?_ | refine blk_alloc ?_ _)); exact BK151.out)) : gb151 ≠ gb153)); have n6_ := Aside0.mk ((by rw [hg]; exact Nat.ne_of_gt (blk_lt (g := gb151) (o := .cells #[.int .i64 a0_0, .int .i64 a0_1, .int .i64 a0_2, .int .i64 a0_3, .string a0_4, .slice A0_5 l0_5.length c0_5, .slice (some ad152) l0_6.length c0_6] 25 (0, 0)) (by (with_reducible repeat (first | refine blk_drewN ?_ _ | refine blk_drew ?_ | refine blk_alloc ?_ _)); exact BK151.out)) : gb153 ≠ gb151)); clear BK151; clear HB; have BK151 := n0_; have HB := n1_; have BK153 := n2_; have GW153 := n3_; have GE153 := n4_; have NB151_153 := n5_; have NB153_151 := n6_; clear n0_ n1_ n2_ n3_ n4_ n5_ n6_; clear hb hbox hg; have hnb74 := NB153_151.out; have hnc74 := NB151_153.out; have hcz75_0 : w73.cell? ⟨gb153, 0, none⟩ = some (.bool false) := (blk_cell BK153.out 0).trans rfl; have hcz75_1 : w73.cell? ⟨gb153, 1, none⟩ = some (.bool false) := (blk_cell BK153.out 1).trans rfl; have hcz75_2 : w73.cell? ⟨gb153, 2, none⟩ = some (.slice none 0 0) := (blk_cell BK153.out 2).trans rfl; have hcz75_3 : w73.cell? ⟨gb153, 3, none⟩ = some (.slice none 0 0) := (blk_cell BK153.out 3).trans rfl; have hcz75_4 : w73.cell? ⟨gb153, 4, none⟩ = some (.int .i64 0) := (blk_cell BK153.out 4).trans rfl; have hfz75_0 := blk_frozen BK153.out 0; have hfz75_1 := blk_frozen BK153.out 1; have hfz75_2 := blk_frozen BK153.out 2; have hfz75_3 := blk_frozen BK153.out 3; have hfz75_4 := blk_frozen BK153.out 4) | ((with_reducible refine gate_callee (f := 15) rfl ?_); refine goesL_ (some 70) rfl rfl Tryz.func15 (by kernel_rfl) rfl #[.agg #[.bool ((rd_T36 l0_6 x3_2).f1.f0.f0), .slice A152_2 ((rd_T36 l0_6 x3_2).f1.f0.f1.f0).length c152_2, .slice A152_3 ((rd_T36 l0_6 x3_2).f1.f1.f0).length c152_3]] rfl (by (try simp only [List.map_toArray, List.map_cons, List.map_nil]); first | done | rfl | (simp only [List.length_drop, List.length_take]; rfl)) ?_; (with_reducible refine (frac_Q_Sign.calls k2 ((rd_T36 l0_6 x3_2).f1.f0.f0) _ _ ((rd_T36 l0_6 x3_2).f1.f0.f1.f0) _ _ ((rd_T36 l0_6 x3_2).f1.f1.f0) t154 _ ?side1 ?side2 ?side3 ?side4 A26.out).mono ?_); (case side1 => exact Kd.C_below HR152_2.out (by repeat (first | (with_reducible first | exact HB.out | apply below_alloc | apply pw_below_drewN | apply below_drew1 | refine below_set ?_ GE151.out | refine below_set ?_ GE153.out) | exact HB.out))); (case side2 => exact HC152_2.out); (case side3 => exact Kd.C_below HR152_3.out (by repeat (first | (with_reducible first | exact HB.out | apply below_alloc | apply pw_below_drewN | apply below_drew1 | refine below_set ?_ GE151.out | refine below_set ?_ GE153.out) | exact HB.out))); (case side4 => exact HC152_3.out); rintro e w76 ⟨rfl, hb⟩; refine ⟨_, rfl, ?_⟩; have n0_ := Aside0.mk (blk_below (g := gb151) (o := .cells #[.int .i64 a0_0, .int .i64 a0_1, .int .i64 a0_2, .int .i64 a0_3, .string a0_4, .slice A0_5 l0_5.length c0_5, .slice (some ad152) l0_6.length c0_6] 25 (0, 0)) (by (with_reducible repeat (first | refine blk_drewN ?_ _ | refine blk_drew ?_ | refine blk_alloc ?_ _)); refine blk_far ?_ NB151_153.out _; (with_reducible repeat (first | refine blk_drewN ?_ _ | refine blk_drew ?_ | refine blk_alloc ?_ _)); refine blk_far ?_ NB151_153.out _; (with_reducible repeat (first | refine blk_drewN ?_ _ | refine blk_drew ?_ | refine blk_alloc ?_ _)); refine blk_far ?_ NB151_153.out _; (with_reducible repeat (first | refine blk_drewN ?_ _ | refine blk_drew ?_ | refine blk_alloc ?_ _)); refine blk_far ?_ NB151_153.out _; (with_reducible repeat (first | refine blk_drewN ?_ _ | refine blk_drew ?_ | refine blk_alloc ?_ _)); refine blk_far ?_ NB151_153.out _; (with_reducible repeat (first | refine blk_drewN ?_ _ | refine blk_drew ?_ | refine blk_alloc ?_ _)); exact BK151.out) hb); have n1_ := Aside0.mk (blk_below (g := gb153) (o := .cells #[.bool false, .bool ((rd_T36 l0_6 x3_2).f1.f0.f0), .slice A152_2 ((rd_T36 l0_6 x3_2).f1.f0.f1.f0).length c152_2, .slice A152_3 ((rd_T36 l0_6 x3_2).f1.f1.f0).length c152_3, .int .i64 ((rd_T36 l0_6 x3_2).f2)] 36 (0, 0)) (by (with_reducible repeat (first | refine blk_drewN ?_ _ | refine blk_drew ?_ | refine blk_alloc ?_ _)); refine blk_put (cs := #[.bool false, .bool ((rd_T36 l0_6 x3_2).f1.f0.f0), .slice A152_2 ((rd_T36 l0_6 x3_2).f1.f0.f1.f0).length c152_2, .slice A152_3 ((rd_T36 l0_6 x3_2).f1.f1.f0).length c152_3, .int .i64 0]) ?_ 4 _ rfl; (with_reducible repeat (first | refine blk_drewN ?_ _ | refine blk_drew ?_ | refine blk_alloc ?_ _)); refine blk_put (cs := #[.bool false, .bool ((rd_T36 l0_6 x3_2).f1.f0.f0), .slice A152_2 ((rd_T36 l0_6 x3_2).f1.f0.f1.f0).length c152_2, .slice none 0 0, .int .i64 0]) ?_ 3 _ rfl; (with_reducible repeat (first | refine blk_drewN ?_ _ | refine blk_drew ?_ | refine blk_alloc ?_ _)); refine blk_put (cs := #[.bool false, .bool ((rd_T36 l0_6 x3_2).f1.f0.f0), .slice none 0 0, .slice none 0 0, .int .i64 0]) ?_ 2 _ rfl; (with_reducible repeat (first | refine blk_drewN ?_ _ | refine blk_drew ?_ | refine blk_alloc ?_ _)); refine blk_put (cs := #[.bool false, .bool false, .slice none 0 0, .slice none 0 0, .int .i64 0]) ?_ 1 _ rfl; (with_reducible repeat (first | refine blk_drewN ?_ _ | refine blk_drew ?_ | refine blk_alloc ?_ _)); refine blk_put (cs := #[.bool false, .bool false, .slice none 0 0, .slice none 0 0, .int .i64 0]) ?_ 0 _ rfl; (with_reducible repeat (first | refine blk_drewN ?_ _ | refine blk_drew ?_ | refine blk_alloc ?_ _)); exact BK153.out) hb); have n2_ := Aside0.mk (below_step (by repeat (first | (with_reducible first | exact HB.out | apply below_alloc | apply pw_below_drewN | apply below_drew1 | refine below_set ?_ GE151.out | refine below_set ?_ GE153.out) | exact HB.out)) hb); clear BK151; clear BK153; clear HB; have BK151 := n0_; have BK153 := n1_; have HB := n2_; clear n0_ n1_ n2_; (try clear hb); (try clear hb2); (try clear hk); (try clear hi); have hcz77_0 : w76.cell? ⟨gb153, 0, none⟩ = some (.bool false) := (blk_cell BK153.out 0).trans rfl; have hcz77_1 : w76.cell? ⟨gb153, 1, none⟩ = some (.bool ((rd_T36 l0_6 x3_2).f1.f0.f0)) := (blk_cell BK153.out 1).trans rfl; have hcz77_2 : w76.cell? ⟨gb153, 2, none⟩ = some (.slice A152_2 ((rd_T36 l0_6 x3_2).f1.f0.f1.f0).length c152_2) := (blk_cell BK153.out 2).trans rfl; have hcz77_3 : w76.cell? ⟨gb153, 3, none⟩ = some (.slice A152_3 ((rd_T36 l0_6 x3_2).f1.f1.f0).length c152_3) := (blk_cell BK153.out 3).trans rfl; have hcz77_4 : w76.cell? ⟨gb153, 4, none⟩ = some (.int .i64 ((rd_T36 l0_6 x3_2).f2)) := (blk_cell BK153.out 4).trans rfl; have hfz77_0 := blk_frozen BK153.out 0; have hfz77_1 := blk_frozen BK153.out 1; have hfz77_2 := blk_frozen BK153.out 2; have hfz77_3 := blk_frozen BK153.out 3; have hfz77_4 := blk_frozen BK153.out 4))
                          go_roundg k2
                          case measure => have := HJ1.out; have := HK2.out; omega
                          case rel => exact ⟨(wrap64 (x3_2 + 1)), (by first | rfl | (simp; done) | (simp [*]; done)), H', ⟨by have := HJ1.out; have := HK2.out; omega⟩, ⟨by (with_reducible repeat (first | refine blk_drewN ?_ _ | refine blk_drew ?_ | refine blk_alloc ?_ _)); exact BK151.out⟩, ⟨by repeat (first | (with_reducible first | exact HB.out | apply below_alloc | apply pw_below_drewN | apply below_drew1 | refine below_set ?_ GE151.out | refine below_set ?_ GE153.out) | exact HB.out)⟩⟩
                      · rw [if_neg c63] at H
                        have c63b0 : (((rd_T36 l0_6 x3_2).f2) == 0) = false := beq_eq_false_iff_ne.mpr c63
                        have c63b1 : (((rd_T36 l0_6 x3_2).f2) != 0) = true := bne_iff_ne.mpr c63
                        obtain rfl := Option.some.inj H
                        have hcz78_0 : wr.cell? ⟨gb151, 0, none⟩ = some (.int .i64 a0_0) := (blk_cell BK151.out 0).trans rfl
                        have hcz78_1 : wr.cell? ⟨gb151, 1, none⟩ = some (.int .i64 a0_1) := (blk_cell BK151.out 1).trans rfl
                        have hcz78_2 : wr.cell? ⟨gb151, 2, none⟩ = some (.int .i64 a0_2) := (blk_cell BK151.out 2).trans rfl
                        have hcz78_3 : wr.cell? ⟨gb151, 3, none⟩ = some (.int .i64 a0_3) := (blk_cell BK151.out 3).trans rfl
                        have hcz78_4 : wr.cell? ⟨gb151, 4, none⟩ = some (.string a0_4) := (blk_cell BK151.out 4).trans rfl
                        have hcz78_5 : wr.cell? ⟨gb151, 5, none⟩ = some (.slice A0_5 l0_5.length c0_5) := (blk_cell BK151.out 5).trans rfl
                        have hcz78_6 : wr.cell? ⟨gb151, 6, none⟩ = some (.slice A0_6 l0_6.length c0_6) := (blk_cell BK151.out 6).trans rfl
                        have hfz78_0 := blk_frozen BK151.out 0
                        have hfz78_1 := blk_frozen BK151.out 1
                        have hfz78_2 := blk_frozen BK151.out 2
                        have hfz78_3 := blk_frozen BK151.out 3
                        have hfz78_4 := blk_frozen BK151.out 4
                        have hfz78_5 := blk_frozen BK151.out 5
                        have hfz78_6 := blk_frozen BK151.out 6
                        have p152 : 0 ≤ (x3_2 : Int) := of_decide_eq_true (by first | (with_reducible assumption) | assumption)
                        have q152 : x3_2 < (l0_6.length : Int) := of_decide_eq_true (by first | (with_reducible assumption) | assumption)
                        obtain ⟨ad152, A152_2, c152_2, A152_3, c152_3, e152, hx152_0, hx152_1, hx152_2, hx152_3, hx152_4, hl152_2, hi152_2, hl152_3, hi152_3⟩ := at_T36 HR0_6.out x3_2 p152 q152
                        cases e152
                        replace hx152_0 := (HB.out.cell (World.block_lt_of_cell? w _ hx152_0)).trans hx152_0
                        replace hx152_1 := (HB.out.cell (World.block_lt_of_cell? w _ hx152_1)).trans hx152_1
                        replace hx152_2 := (HB.out.cell (World.block_lt_of_cell? w _ hx152_2)).trans hx152_2
                        replace hx152_3 := (HB.out.cell (World.block_lt_of_cell? w _ hx152_3)).trans hx152_3
                        replace hx152_4 := (HB.out.cell (World.block_lt_of_cell? w _ hx152_4)).trans hx152_4
                        have HR152_2 := Aside0.mk hi152_2
                        have HC152_2 := Aside0.mk hl152_2
                        clear hi152_2 hl152_2
                        have HR152_3 := Aside0.mk hi152_3
                        have HC152_3 := Aside0.mk hl152_3
                        clear hi152_3 hl152_3
                        replace p152 := eq_true p152
                        replace q152 := eq_true q152
                        go_wp2_with (first | ((with_reducible refine gate_dst (N := 4) rfl ?_); (try (refine gate_guard (by rfl) ?_; dsimp only)); refine box_event ?hg (N := 4) ?hd (cs := #[.bool false, .bool false, .slice none 0 0, .slice none 0 0, .int .i64 0]) (t := 36) ?hr ?_; (case hd => rfl); (case hg => rfl); (case hr => first | (go_simp; done) | (go_simp; rfl)); intro gb153 hg w79 hbox hb; have n0_ := Aside0.mk (blk_below (g := gb151) (o := .cells #[.int .i64 a0_0, .int .i64 a0_1, .int .i64 a0_2, .int .i64 a0_3, .string a0_4, .slice A0_5 l0_5.length c0_5, .slice (some ad152) l0_6.length c0_6] 25 (0, 0)) (by (with_reducible repeat (first | refine blk_drewN ?_ _ | refine blk_drew ?_ | refine blk_alloc ?_ _)); exact BK151.out) hb); have n1_ := Aside0.mk (below_step (by repeat (first | (with_reducible first | exact HB.out | apply below_alloc | apply pw_below_drewN | apply below_drew1 | refine below_set ?_ GE151.out) | exact HB.out)) hb); have n2_ := Aside0.mk (hbox); have n3_ := Aside0.mk ((by rw [hg]; exact (below_size (by repeat (first | (with_reducible first | exact HB.out | apply below_alloc | apply pw_below_drewN | apply below_drew1 | refine below_set ?_ GE151.out) | exact HB.out))) : w.heap.size ≤ gb153)); have n4_ := Aside0.mk ((by rw [hg]; exact (below_size (by repeat (first | (with_reducible first | exact HB.out | apply below_alloc | apply pw_below_drewN | apply below_drew1 | refine below_set ?_ GE151.out) | exact HB.out))) : w.heap.size ≤ gb153)); have n5_ := Aside0.mk ((by rw [hg]; exact Nat.ne_of_lt (blk_lt (g := gb151) (o := .cells #[.int .i64 a0_0, .int .i64 a0_1, .int .i64 a0_2, .int .i64 a0_3, .string a0_4, .slice A0_5 l0_5.length c0_5, .slice (some ad152) l0_6.length c0_6] 25 (0, 0)) (by (with_reducible repeat (first | refine blk_drewN ?_ _ | refine blk_drew ?_ | refine blk_alloc ?_ _)); exact BK151.out)) : gb151 ≠ gb153)); have n6_ := Aside0.mk ((by rw [hg]; exact Nat.ne_of_gt (blk_lt (g := gb151) (o := .cells #[.int .i64 a0_0, .int .i64 a0_1, .int .i64 a0_2, .int .i64 a0_3, .string a0_4, .slice A0_5 l0_5.length c0_5, .slice (some ad152) l0_6.length c0_6] 25 (0, 0)) (by (with_reducible repeat (first | refine blk_drewN ?_ _ | refine blk_drew ?_ | refine blk_alloc ?_ _)); exact BK151.out)) : gb153 ≠ gb151)); clear BK151; clear HB; have BK151 := n0_; have HB := n1_; have BK153 := n2_; have GW153 := n3_; have GE153 := n4_; have NB151_153 := n5_; have NB153_151 := n6_; clear n0_ n1_ n2_ n3_ n4_ n5_ n6_; clear hb hbox hg; have hnb80 := NB153_151.out; have hnc80 := NB151_153.out; have hcz81_0 : w79.cell? ⟨gb153, 0, none⟩ = some (.bool false) := (blk_cell BK153.out 0).trans rfl; have hcz81_1 : w79.cell? ⟨gb153, 1, none⟩ = some (.bool false) := (blk_cell BK153.out 1).trans rfl; have hcz81_2 : w79.cell? ⟨gb153, 2, none⟩ = some (.slice none 0 0) := (blk_cell BK153.out 2).trans rfl; have hcz81_3 : w79.cell? ⟨gb153, 3, none⟩ = some (.slice none 0 0) := (blk_cell BK153.out 3).trans rfl; have hcz81_4 : w79.cell? ⟨gb153, 4, none⟩ = some (.int .i64 0) := (blk_cell BK153.out 4).trans rfl; have hfz81_0 := blk_frozen BK153.out 0; have hfz81_1 := blk_frozen BK153.out 1; have hfz81_2 := blk_frozen BK153.out 2; have hfz81_3 := blk_frozen BK153.out 3; have hfz81_4 := blk_frozen BK153.out 4) | ((with_reducible refine gate_callee (f := 15) rfl ?_); refine goesL_ (some 70) rfl rfl Tryz.func15 (by kernel_rfl) rfl #[.agg #[.bool ((rd_T36 l0_6 x3_2).f1.f0.f0), .slice A152_2 ((rd_T36 l0_6 x3_2).f1.f0.f1.f0).length c152_2, .slice A152_3 ((rd_T36 l0_6 x3_2).f1.f1.f0).length c152_3]] rfl (by (try simp only [List.map_toArray, List.map_cons, List.map_nil]); first | done | rfl | (simp only [List.length_drop, List.length_take]; rfl)) ?_; (with_reducible refine (frac_Q_Sign.calls k2 ((rd_T36 l0_6 x3_2).f1.f0.f0) _ _ ((rd_T36 l0_6 x3_2).f1.f0.f1.f0) _ _ ((rd_T36 l0_6 x3_2).f1.f1.f0) t154 _ ?side1 ?side2 ?side3 ?side4 A26.out).mono ?_); (case side1 => exact Kd.C_below HR152_2.out (by repeat (first | (with_reducible first | exact HB.out | apply below_alloc | apply pw_below_drewN | apply below_drew1 | refine below_set ?_ GE151.out | refine below_set ?_ GE153.out) | exact HB.out))); (case side2 => exact HC152_2.out); (case side3 => exact Kd.C_below HR152_3.out (by repeat (first | (with_reducible first | exact HB.out | apply below_alloc | apply pw_below_drewN | apply below_drew1 | refine below_set ?_ GE151.out | refine below_set ?_ GE153.out) | exact HB.out))); (case side4 => exact HC152_3.out); rintro e w82 ⟨rfl, hb⟩; refine ⟨_, rfl, ?_⟩; have n0_ := Aside0.mk (blk_below (g := gb151) (o := .cells #[.int .i64 a0_0, .int .i64 a0_1, .int .i64 a0_2, .int .i64 a0_3, .string a0_4, .slice A0_5 l0_5.length c0_5, .slice (some ad152) l0_6.length c0_6] 25 (0, 0)) (by (with_reducible repeat (first | refine blk_drewN ?_ _ | refine blk_drew ?_ | refine blk_alloc ?_ _)); refine blk_far ?_ NB151_153.out _; (with_reducible repeat (first | refine blk_drewN ?_ _ | refine blk_drew ?_ | refine blk_alloc ?_ _)); refine blk_far ?_ NB151_153.out _; (with_reducible repeat (first | refine blk_drewN ?_ _ | refine blk_drew ?_ | refine blk_alloc ?_ _)); refine blk_far ?_ NB151_153.out _; (with_reducible repeat (first | refine blk_drewN ?_ _ | refine blk_drew ?_ | refine blk_alloc ?_ _)); refine blk_far ?_ NB151_153.out _; (with_reducible repeat (first | refine blk_drewN ?_ _ | refine blk_drew ?_ | refine blk_alloc ?_ _)); refine blk_far ?_ NB151_153.out _; (with_reducible repeat (first | refine blk_drewN ?_ _ | refine blk_drew ?_ | refine blk_alloc ?_ _)); exact BK151.out) hb); have n1_ := Aside0.mk (blk_below (g := gb153) (o := .cells #[.bool ((rd_T36 l0_6 x3_2).f0), .bool ((rd_T36 l0_6 x3_2).f1.f0.f0), .slice A152_2 ((rd_T36 l0_6 x3_2).f1.f0.f1.f0).length c152_2, .slice A152_3 ((rd_T36 l0_6 x3_2).f1.f1.f0).length c152_3, .int .i64 ((rd_T36 l0_6 x3_2).f2)] 36 (0, 0)) (by (with_reducible repeat (first | refine blk_drewN ?_ _ | refine blk_drew ?_ | refine blk_alloc ?_ _)); refine blk_put (cs := #[.bool ((rd_T36 l0_6 x3_2).f0), .bool ((rd_T36 l0_6 x3_2).f1.f0.f0), .slice A152_2 ((rd_T36 l0_6 x3_2).f1.f0.f1.f0).length c152_2, .slice A152_3 ((rd_T36 l0_6 x3_2).f1.f1.f0).length c152_3, .int .i64 0]) ?_ 4 _ rfl; (with_reducible repeat (first | refine blk_drewN ?_ _ | refine blk_drew ?_ | refine blk_alloc ?_ _)); refine blk_put (cs := #[.bool ((rd_T36 l0_6 x3_2).f0), .bool ((rd_T36 l0_6 x3_2).f1.f0.f0), .slice A152_2 ((rd_T36 l0_6 x3_2).f1.f0.f1.f0).length c152_2, .slice none 0 0, .int .i64 0]) ?_ 3 _ rfl; (with_reducible repeat (first | refine blk_drewN ?_ _ | refine blk_drew ?_ | refine blk_alloc ?_ _)); refine blk_put (cs := #[.bool ((rd_T36 l0_6 x3_2).f0), .bool ((rd_T36 l0_6 x3_2).f1.f0.f0), .slice none 0 0, .slice none 0 0, .int .i64 0]) ?_ 2 _ rfl; (with_reducible repeat (first | refine blk_drewN ?_ _ | refine blk_drew ?_ | refine blk_alloc ?_ _)); refine blk_put (cs := #[.bool ((rd_T36 l0_6 x3_2).f0), .bool false, .slice none 0 0, .slice none 0 0, .int .i64 0]) ?_ 1 _ rfl; (with_reducible repeat (first | refine blk_drewN ?_ _ | refine blk_drew ?_ | refine blk_alloc ?_ _)); refine blk_put (cs := #[.bool false, .bool false, .slice none 0 0, .slice none 0 0, .int .i64 0]) ?_ 0 _ rfl; (with_reducible repeat (first | refine blk_drewN ?_ _ | refine blk_drew ?_ | refine blk_alloc ?_ _)); exact BK153.out) hb); have n2_ := Aside0.mk (below_step (by repeat (first | (with_reducible first | exact HB.out | apply below_alloc | apply pw_below_drewN | apply below_drew1 | refine below_set ?_ GE151.out | refine below_set ?_ GE153.out) | exact HB.out)) hb); clear BK151; clear BK153; clear HB; have BK151 := n0_; have BK153 := n1_; have HB := n2_; clear n0_ n1_ n2_; (try clear hb); (try clear hb2); (try clear hk); (try clear hi); have hcz83_0 : w82.cell? ⟨gb153, 0, none⟩ = some (.bool ((rd_T36 l0_6 x3_2).f0)) := (blk_cell BK153.out 0).trans rfl; have hcz83_1 : w82.cell? ⟨gb153, 1, none⟩ = some (.bool ((rd_T36 l0_6 x3_2).f1.f0.f0)) := (blk_cell BK153.out 1).trans rfl; have hcz83_2 : w82.cell? ⟨gb153, 2, none⟩ = some (.slice A152_2 ((rd_T36 l0_6 x3_2).f1.f0.f1.f0).length c152_2) := (blk_cell BK153.out 2).trans rfl; have hcz83_3 : w82.cell? ⟨gb153, 3, none⟩ = some (.slice A152_3 ((rd_T36 l0_6 x3_2).f1.f1.f0).length c152_3) := (blk_cell BK153.out 3).trans rfl; have hcz83_4 : w82.cell? ⟨gb153, 4, none⟩ = some (.int .i64 ((rd_T36 l0_6 x3_2).f2)) := (blk_cell BK153.out 4).trans rfl; have hfz83_0 := blk_frozen BK153.out 0; have hfz83_1 := blk_frozen BK153.out 1; have hfz83_2 := blk_frozen BK153.out 2; have hfz83_3 := blk_frozen BK153.out 3; have hfz83_4 := blk_frozen BK153.out 4))
                        go_ret
                        exact ⟨by first | rfl | (simp [errW_none, errW_some] <;> rfl) | (simp [*, errW_none, errW_some] <;> rfl), by repeat (first | (with_reducible first | exact HB.out | apply below_alloc | apply pw_below_drewN | apply below_drew1 | refine below_set ?_ GE151.out | refine below_set ?_ GE153.out) | exact HB.out)⟩
              · rw [if_neg c25] at H
                exact absurd H (by simp)
            · rw [if_neg c24] at H
              have c24b0 : decide (x3_2 < (l0_6.length : Int)) = false := decide_eq_false c24
              clear c24
              by_cases c84 : (l0_5.length : Int) = 0
              · rw [if_pos c84] at H
                have c84b0 : ((l0_5.length : Int) == 0) = true := beq_iff_eq.mpr c84
                have c84b1 : ((l0_5.length : Int) != 0) = false := bne_eq_false_iff_eq.mpr c84
                clear c84
                by_cases c85 : (l0_6.length : Int) = 0
                · rw [if_pos c85] at H
                  have c85b0 : ((l0_6.length : Int) == 0) = true := beq_iff_eq.mpr c85
                  have c85b1 : ((l0_6.length : Int) != 0) = false := bne_eq_false_iff_eq.mpr c85
                  clear c85
                  obtain rfl := Option.some.inj H
                  have hcz86_0 : wr.cell? ⟨gb151, 0, none⟩ = some (.int .i64 a0_0) := (blk_cell BK151.out 0).trans rfl
                  have hcz86_1 : wr.cell? ⟨gb151, 1, none⟩ = some (.int .i64 a0_1) := (blk_cell BK151.out 1).trans rfl
                  have hcz86_2 : wr.cell? ⟨gb151, 2, none⟩ = some (.int .i64 a0_2) := (blk_cell BK151.out 2).trans rfl
                  have hcz86_3 : wr.cell? ⟨gb151, 3, none⟩ = some (.int .i64 a0_3) := (blk_cell BK151.out 3).trans rfl
                  have hcz86_4 : wr.cell? ⟨gb151, 4, none⟩ = some (.string a0_4) := (blk_cell BK151.out 4).trans rfl
                  have hcz86_5 : wr.cell? ⟨gb151, 5, none⟩ = some (.slice A0_5 l0_5.length c0_5) := (blk_cell BK151.out 5).trans rfl
                  have hcz86_6 : wr.cell? ⟨gb151, 6, none⟩ = some (.slice A0_6 l0_6.length c0_6) := (blk_cell BK151.out 6).trans rfl
                  have hfz86_0 := blk_frozen BK151.out 0
                  have hfz86_1 := blk_frozen BK151.out 1
                  have hfz86_2 := blk_frozen BK151.out 2
                  have hfz86_3 := blk_frozen BK151.out 3
                  have hfz86_4 := blk_frozen BK151.out 4
                  have hfz86_5 := blk_frozen BK151.out 5
                  have hfz86_6 := blk_frozen BK151.out 6
                  go_wp2
                  go_ret
                  exact ⟨by first | rfl | (simp [errW_none, errW_some] <;> rfl) | (simp [*, errW_none, errW_some] <;> rfl), by repeat (first | (with_reducible first | exact HB.out | apply below_alloc | apply pw_below_drewN | apply below_drew1 | refine below_set ?_ GE151.out) | exact HB.out)⟩
                · rw [if_neg c85] at H
                  have c85b0 : ((l0_6.length : Int) == 0) = false := beq_eq_false_iff_ne.mpr c85
                  have c85b1 : ((l0_6.length : Int) != 0) = true := bne_iff_ne.mpr c85
                  have c85b2 : ¬ (l0_6 = []) := fun h_ => c85 (by rw [h_]; rfl)
                  obtain rfl := Option.some.inj H
                  have hcz87_0 : wr.cell? ⟨gb151, 0, none⟩ = some (.int .i64 a0_0) := (blk_cell BK151.out 0).trans rfl
                  have hcz87_1 : wr.cell? ⟨gb151, 1, none⟩ = some (.int .i64 a0_1) := (blk_cell BK151.out 1).trans rfl
                  have hcz87_2 : wr.cell? ⟨gb151, 2, none⟩ = some (.int .i64 a0_2) := (blk_cell BK151.out 2).trans rfl
                  have hcz87_3 : wr.cell? ⟨gb151, 3, none⟩ = some (.int .i64 a0_3) := (blk_cell BK151.out 3).trans rfl
                  have hcz87_4 : wr.cell? ⟨gb151, 4, none⟩ = some (.string a0_4) := (blk_cell BK151.out 4).trans rfl
                  have hcz87_5 : wr.cell? ⟨gb151, 5, none⟩ = some (.slice A0_5 l0_5.length c0_5) := (blk_cell BK151.out 5).trans rfl
                  have hcz87_6 : wr.cell? ⟨gb151, 6, none⟩ = some (.slice A0_6 l0_6.length c0_6) := (blk_cell BK151.out 6).trans rfl
                  have hfz87_0 := blk_frozen BK151.out 0
                  have hfz87_1 := blk_frozen BK151.out 1
                  have hfz87_2 := blk_frozen BK151.out 2
                  have hfz87_3 := blk_frozen BK151.out 3
                  have hfz87_4 := blk_frozen BK151.out 4
                  have hfz87_5 := blk_frozen BK151.out 5
                  have hfz87_6 := blk_frozen BK151.out 6
                  go_wp2
                  go_ret
                  exact ⟨by first | rfl | (simp [errW_none, errW_some] <;> rfl) | (simp [*, errW_none, errW_some] <;> rfl), by repeat (first | (with_reducible first | exact HB.out | apply below_alloc | apply pw_below_drewN | apply below_drew1 | refine below_set ?_ GE151.out) | exact HB.out)⟩
              · rw [if_neg c84] at H
                have c84b0 : ((l0_5.length : Int) == 0) = false := beq_eq_false_iff_ne.mpr c84
                have c84b1 : ((l0_5.length : Int) != 0) = true := bne_iff_ne.mpr c84
                have c84b2 : ¬ (l0_5 = []) := fun h_ => c84 (by rw [h_]; rfl)
                by_cases c88 : a0_0 = 1
                · rw [if_pos c88] at H
                  have c88b0 : (a0_0 == 1) = true := beq_iff_eq.mpr c88
                  have c88b1 : (a0_0 != 1) = false := bne_eq_false_iff_eq.mpr c88
                  clear c88
                  by_cases c89 : (l0_6.length : Int) = 0
                  · rw [if_pos c89] at H
                    have c89b0 : ((l0_6.length : Int) == 0) = true := beq_iff_eq.mpr c89
                    have c89b1 : ((l0_6.length : Int) != 0) = false := bne_eq_false_iff_eq.mpr c89
                    clear c89
                    obtain rfl := Option.some.inj H
                    have hcz90_0 : wr.cell? ⟨gb151, 0, none⟩ = some (.int .i64 a0_0) := (blk_cell BK151.out 0).trans rfl
                    have hcz90_1 : wr.cell? ⟨gb151, 1, none⟩ = some (.int .i64 a0_1) := (blk_cell BK151.out 1).trans rfl
                    have hcz90_2 : wr.cell? ⟨gb151, 2, none⟩ = some (.int .i64 a0_2) := (blk_cell BK151.out 2).trans rfl
                    have hcz90_3 : wr.cell? ⟨gb151, 3, none⟩ = some (.int .i64 a0_3) := (blk_cell BK151.out 3).trans rfl
                    have hcz90_4 : wr.cell? ⟨gb151, 4, none⟩ = some (.string a0_4) := (blk_cell BK151.out 4).trans rfl
                    have hcz90_5 : wr.cell? ⟨gb151, 5, none⟩ = some (.slice A0_5 l0_5.length c0_5) := (blk_cell BK151.out 5).trans rfl
                    have hcz90_6 : wr.cell? ⟨gb151, 6, none⟩ = some (.slice A0_6 l0_6.length c0_6) := (blk_cell BK151.out 6).trans rfl
                    have hfz90_0 := blk_frozen BK151.out 0
                    have hfz90_1 := blk_frozen BK151.out 1
                    have hfz90_2 := blk_frozen BK151.out 2
                    have hfz90_3 := blk_frozen BK151.out 3
                    have hfz90_4 := blk_frozen BK151.out 4
                    have hfz90_5 := blk_frozen BK151.out 5
                    have hfz90_6 := blk_frozen BK151.out 6
                    go_wp2
                    go_ret
                    exact ⟨by first | rfl | (simp [errW_none, errW_some] <;> rfl) | (simp [*, errW_none, errW_some] <;> rfl), by repeat (first | (with_reducible first | exact HB.out | apply below_alloc | apply pw_below_drewN | apply below_drew1 | refine below_set ?_ GE151.out) | exact HB.out)⟩
                  · rw [if_neg c89] at H
                    have c89b0 : ((l0_6.length : Int) == 0) = false := beq_eq_false_iff_ne.mpr c89
                    have c89b1 : ((l0_6.length : Int) != 0) = true := bne_iff_ne.mpr c89
                    have c89b2 : ¬ (l0_6 = []) := fun h_ => c89 (by rw [h_]; rfl)
                    obtain rfl := Option.some.inj H
                    have hcz91_0 : wr.cell? ⟨gb151, 0, none⟩ = some (.int .i64 a0_0) := (blk_cell BK151.out 0).trans rfl
                    have hcz91_1 : wr.cell? ⟨gb151, 1, none⟩ = some (.int .i64 a0_1) := (blk_cell BK151.out 1).trans rfl
                    have hcz91_2 : wr.cell? ⟨gb151, 2, none⟩ = some (.int .i64 a0_2) := (blk_cell BK151.out 2).trans rfl
                    have hcz91_3 : wr.cell? ⟨gb151, 3, none⟩ = some (.int .i64 a0_3) := (blk_cell BK151.out 3).trans rfl
                    have hcz91_4 : wr.cell? ⟨gb151, 4, none⟩ = some (.string a0_4) := (blk_cell BK151.out 4).trans rfl
                    have hcz91_5 : wr.cell? ⟨gb151, 5, none⟩ = some (.slice A0_5 l0_5.length c0_5) := (blk_cell BK151.out 5).trans rfl
                    have hcz91_6 : wr.cell? ⟨gb151, 6, none⟩ = some (.slice A0_6 l0_6.length c0_6) := (blk_cell BK151.out 6).trans rfl
                    have hfz91_0 := blk_frozen BK151.out 0
                    have hfz91_1 := blk_frozen BK151.out 1
                    have hfz91_2 := blk_frozen BK151.out 2
                    have hfz91_3 := blk_frozen BK151.out 3
                    have hfz91_4 := blk_frozen BK151.out 4
                    have hfz91_5 := blk_frozen BK151.out 5
                    have hfz91_6 := blk_frozen BK151.out 6
                    go_wp2
                    go_ret
                    exact ⟨by first | rfl | (simp [errW_none, errW_some] <;> rfl) | (simp [*, errW_none, errW_some] <;> rfl), by repeat (first | (with_reducible first | exact HB.out | apply below_alloc | apply pw_below_drewN | apply below_drew1 | refine below_set ?_ GE151.out) | exact HB.out)⟩
                · rw [if_neg c88] at H
                  have c88b0 : (a0_0 == 1) = false := beq_eq_false_iff_ne.mpr c88
                  have c88b1 : (a0_0 != 1) = true := bne_iff_ne.mpr c88
                  obtain rfl := Option.some.inj H
                  have hcz92_0 : wr.cell? ⟨gb151, 0, none⟩ = some (.int .i64 a0_0) := (blk_cell BK151.out 0).trans rfl
                  have hcz92_1 : wr.cell? ⟨gb151, 1, none⟩ = some (.int .i64 a0_1) := (blk_cell BK151.out 1).trans rfl
                  have hcz92_2 : wr.cell? ⟨gb151, 2, none⟩ = some (.int .i64 a0_2) := (blk_cell BK151.out 2).trans rfl
                  have hcz92_3 : wr.cell? ⟨gb151, 3, none⟩ = some (.int .i64 a0_3) := (blk_cell BK151.out 3).trans rfl
                  have hcz92_4 : wr.cell? ⟨gb151, 4, none⟩ = some (.string a0_4) := (blk_cell BK151.out 4).trans rfl
                  have hcz92_5 : wr.cell? ⟨gb151, 5, none⟩ = some (.slice A0_5 l0_5.length c0_5) := (blk_cell BK151.out 5).trans rfl
                  have hcz92_6 : wr.cell? ⟨gb151, 6, none⟩ = some (.slice A0_6 l0_6.length c0_6) := (blk_cell BK151.out 6).trans rfl
                  have hfz92_0 := blk_frozen BK151.out 0
                  have hfz92_1 := blk_frozen BK151.out 1
                  have hfz92_2 := blk_frozen BK151.out 2
                  have hfz92_3 := blk_frozen BK151.out 3
                  have hfz92_4 := blk_frozen BK151.out 4
                  have hfz92_5 := blk_frozen BK151.out 5
                  have hfz92_6 := blk_frozen BK151.out 6
                  go_wp2
                  go_ret
                  exact ⟨by first | rfl | (simp [errW_none, errW_some] <;> rfl) | (simp [*, errW_none, errW_some] <;> rfl), by repeat (first | (with_reducible first | exact HB.out | apply below_alloc | apply pw_below_drewN | apply below_drew1 | refine below_set ?_ GE151.out) | exact HB.out)⟩

end Go.Proofs.YtcejlemdfadbdaaGreat.QServe
