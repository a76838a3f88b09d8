/- BatchEach: a part of the walk of that statement. No conditions. -/
import Derived.Test.YtoojcilbdeiodaaQEachx0
import Derived.Test.YtoojcilbdeiodaaQEachx1
import Derived.Test.YtoojcilbdeiodaaQEachx2
import Derived.Test.YtoojcilbdeiodaaQEachx3
namespace Go.Proofs.Ytoojcilbdeiodaa.QEach
open Go.RowKit Go.Proofs.YtoojcilbdeiodaaW.PrintWords Go.Proofs.YtoojcilbdeiodaaW.PrintLast Go.Proofs.YtoojcilbdeiodaaW.PrintMore
attribute [local go_sem] max2_int min2_int max_two min_two max_three min_three max_four min_four   -- for this text's walks alone
set_option linter.unusedVariables false
set_option linter.unusedSimpArgs false

/-! ### abaculuslaw38_BatchEach: function 5 -/
mutual
def abaculuslaw38_BatchEach.l0 : Nat → List Int → List (S40) → Int → Int → Int → Int → Option (Bool)
  | 0, _, _, _, _, _, _ => none
  | k + 1, x7, x9, x11, x12, x187000, x187001 => if x12 < (x9.length : Int) then (if 0 ≤ x12 then (if (((rd_T40 x9 x12).f0).length : Int) < 1 then (abaculuslaw38_BatchEach.j1 k x7 x9 x11 x12 (((rd_T40 x9 x12).f0).length : Int) true x187000 x187001) else (abaculuslaw38_BatchEach.j1 k x7 x9 x11 x12 (((rd_T40 x9 x12).f0).length : Int) (decide ((((rd_T40 x9 x12).f0).length : Int) > x187000)) x187000 x187001)) else (none)) else ((abaculuslaw38_known.f k).bind fun t191 => (if t191 = true then (some (x11 == (x7.length : Int))) else (some false)))
def abaculuslaw38_BatchEach.j1 : Nat → List Int → List (S40) → Int → Int → Int → Bool → Int → Int → Option (Bool)
  | 0, _, _, _, _, _, _, _, _ => none
  | k + 1, x7, x9, x11, x12, x13, x50, x187000, x187001 => if x50 = true then (some false) else (abaculuslaw38_BatchEach.l1 k x7 x9 x11 x12 x13 0 x187000 x187001)
def abaculuslaw38_BatchEach.l1 : Nat → List Int → List (S40) → Int → Int → Int → Int → Int → Int → Option (Bool)
  | 0, _, _, _, _, _, _, _, _ => none
  | k + 1, x7, x9, x11, x12, x13, x14, x187000, x187001 => if x14 < x13 then (if 0 ≤ x12 then (if x12 < (x9.length : Int) then (if 0 ≤ x14 then (if x14 < (((rd_T40 x9 x12).f0).length : Int) then (if (rd ((rd_T40 x9 x12).f0) x14) = x11 then (if 0 ≤ x11 then (if x11 < (x7.length : Int) then (if ((rd_T40 x9 x12).f1) < (rd x7 x11) then (some false) else (if ((rd_T40 x9 x12).f1) > (wrap64 ((rd x7 x11) + x187001)) then (some false) else (abaculuslaw38_BatchEach.l1 k x7 x9 (wrap64 (x11 + 1)) x12 x13 (wrap64 (x14 + 1)) x187000 x187001))) else (none)) else (none)) else (some false)) else (none)) else (none)) else (none)) else (none)) else (if x13 < x187000 then (if 0 ≤ x12 then (if x12 < (x9.length : Int) then (if 0 < (((rd_T40 x9 x12).f0).length : Int) then (if 0 ≤ (rd ((rd_T40 x9 x12).f0) 0) then (if (rd ((rd_T40 x9 x12).f0) 0) < (x7.length : Int) then (abaculuslaw38_BatchEach.j3 k x7 x9 x11 x12 x13 (((rd_T40 x9 x12).f1) != (wrap64 ((rd x7 (rd ((rd_T40 x9 x12).f0) 0)) + x187001))) x187000 x187001) else (none)) else (none)) else (none)) else (none)) else (none)) else (abaculuslaw38_BatchEach.j3 k x7 x9 x11 x12 x13 false x187000 x187001))
def abaculuslaw38_BatchEach.j3 : Nat → List Int → List (S40) → Int → Int → Int → Bool → Int → Int → Option (Bool)
  | 0, _, _, _, _, _, _, _, _ => none
  | k + 1, x7, x9, x11, x12, x13, x119, x187000, x187001 => if x119 = true then (some false) else (if x13 < x187000 then (if x11 < (x7.length : Int) then (if 0 ≤ x11 then (if 0 ≤ x12 then (if x12 < (x9.length : Int) then (if (rd x7 x11) ≤ ((rd_T40 x9 x12).f1) then (some false) else (abaculuslaw38_BatchEach.l0 k x7 x9 x11 (wrap64 (x12 + 1)) x187000 x187001)) else (none)) else (none)) else (none)) else (abaculuslaw38_BatchEach.l0 k x7 x9 x11 (wrap64 (x12 + 1)) x187000 x187001)) else (abaculuslaw38_BatchEach.l0 k x7 x9 x11 (wrap64 (x12 + 1)) x187000 x187001))
end
def abaculuslaw38_BatchEach.f (k : Nat) (l0 : List Int) (a1 : Int) (a2 : Int) : Option (Bool) := (abaculuslaw38_times.f k l0 7).bind fun t181 => ((abaculushand_Pick.f a1 5).bind fun t184 => ((abaculushand_Pick.f a2 9).bind fun t185 => ((batch_Form.f k t181 (wrap64 (t184 + 1)) t185).bind fun bt187 => (if bt187.2 = 0 then (abaculuslaw38_BatchEach.l0 k t181 bt187.1 0 0 (wrap64 (t184 + 1)) t185) else (some false)))))
theorem abaculuslaw38_BatchEach.mono_l : ∀ k, (∀ y0 y1 y2 y3 y4 y5, LeO (abaculuslaw38_BatchEach.l0 k y0 y1 y2 y3 y4 y5) (abaculuslaw38_BatchEach.l0 (k + 1) y0 y1 y2 y3 y4 y5)) ∧ (∀ y0 y1 y2 y3 y4 y5 y6 y7, LeO (abaculuslaw38_BatchEach.j1 k y0 y1 y2 y3 y4 y5 y6 y7) (abaculuslaw38_BatchEach.j1 (k + 1) y0 y1 y2 y3 y4 y5 y6 y7)) ∧ (∀ y0 y1 y2 y3 y4 y5 y6 y7, LeO (abaculuslaw38_BatchEach.l1 k y0 y1 y2 y3 y4 y5 y6 y7) (abaculuslaw38_BatchEach.l1 (k + 1) y0 y1 y2 y3 y4 y5 y6 y7)) ∧ (∀ y0 y1 y2 y3 y4 y5 y6 y7, LeO (abaculuslaw38_BatchEach.j3 k y0 y1 y2 y3 y4 y5 y6 y7) (abaculuslaw38_BatchEach.j3 (k + 1) y0 y1 y2 y3 y4 y5 y6 y7))
  | 0 => ⟨fun _ _ _ _ _ _ r h => by simp [abaculuslaw38_BatchEach.l0] at h, fun _ _ _ _ _ _ _ _ r h => by simp [abaculuslaw38_BatchEach.j1] at h, fun _ _ _ _ _ _ _ _ r h => by simp [abaculuslaw38_BatchEach.l1] at h, fun _ _ _ _ _ _ _ _ r h => by simp [abaculuslaw38_BatchEach.j3] at h⟩
  | k + 1 => by
    obtain ⟨ih0, ih1, ih2, ih3⟩ := abaculuslaw38_BatchEach.mono_l k
    refine ⟨?_, ?_, ?_, ?_⟩
    · intro y0 y1 y2 y3 y4 y5
      unfold abaculuslaw38_BatchEach.l0
      repeat' first
      | (with_reducible exact ih0 _ _ _ _ _ _)
      | (with_reducible exact ih1 _ _ _ _ _ _ _ _)
      | (with_reducible exact ih2 _ _ _ _ _ _ _ _)
      | (with_reducible exact ih3 _ _ _ _ _ _ _ _)
      | (with_reducible exact abaculuslaw38_known.mono _)
      | (with_reducible exact abaculuslaw38_times.mono _ _ _)
      | (with_reducible exact batch_Form.mono _ _ _ _)
      | (with_reducible exact LeO.refl _)
      | (with_reducible exact LeO.none _)
      | (with_reducible refine LeO.ite ?_ ?_)
      | (with_reducible refine LeO.bind ?_ (fun _ => ?_))
      | exact ih0 _ _ _ _ _ _
      | exact ih1 _ _ _ _ _ _ _ _
      | exact ih2 _ _ _ _ _ _ _ _
      | exact ih3 _ _ _ _ _ _ _ _
      | exact abaculuslaw38_known.mono _
      | exact abaculuslaw38_times.mono _ _ _
      | exact batch_Form.mono _ _ _ _
      | exact LeO.none _
      | refine LeO.ite ?_ ?_
      | refine LeO.bind ?_ (fun _ => ?_)
    · intro y0 y1 y2 y3 y4 y5 y6 y7
      unfold abaculuslaw38_BatchEach.j1
      repeat' first
      | (with_reducible exact ih0 _ _ _ _ _ _)
      | (with_reducible exact ih1 _ _ _ _ _ _ _ _)
      | (with_reducible exact ih2 _ _ _ _ _ _ _ _)
      | (with_reducible exact ih3 _ _ _ _ _ _ _ _)
      | (with_reducible exact abaculuslaw38_known.mono _)
      | (with_reducible exact abaculuslaw38_times.mono _ _ _)
      | (with_reducible exact batch_Form.mono _ _ _ _)
      | (with_reducible exact LeO.refl _)
      | (with_reducible exact LeO.none _)
      | (with_reducible refine LeO.ite ?_ ?_)
      | (with_reducible refine LeO.bind ?_ (fun _ => ?_))
      | exact ih0 _ _ _ _ _ _
      | exact ih1 _ _ _ _ _ _ _ _
      | exact ih2 _ _ _ _ _ _ _ _
      | exact ih3 _ _ _ _ _ _ _ _
      | exact abaculuslaw38_known.mono _
      | exact abaculuslaw38_times.mono _ _ _
      | exact batch_Form.mono _ _ _ _
      | exact LeO.none _
      | refine LeO.ite ?_ ?_
      | refine LeO.bind ?_ (fun _ => ?_)
    · intro y0 y1 y2 y3 y4 y5 y6 y7
      unfold abaculuslaw38_BatchEach.l1
      repeat' first
      | (with_reducible exact ih0 _ _ _ _ _ _)
      | (with_reducible exact ih1 _ _ _ _ _ _ _ _)
      | (with_reducible exact ih2 _ _ _ _ _ _ _ _)
      | (with_reducible exact ih3 _ _ _ _ _ _ _ _)
      | (with_reducible exact abaculuslaw38_known.mono _)
      | (with_reducible exact abaculuslaw38_times.mono _ _ _)
      | (with_reducible exact batch_Form.mono _ _ _ _)
      | (with_reducible exact LeO.refl _)
      | (with_reducible exact LeO.none _)
      | (with_reducible refine LeO.ite ?_ ?_)
      | (with_reducible refine LeO.bind ?_ (fun _ => ?_))
      | exact ih0 _ _ _ _ _ _
      | exact ih1 _ _ _ _ _ _ _ _
      | exact ih2 _ _ _ _ _ _ _ _
      | exact ih3 _ _ _ _ _ _ _ _
      | exact abaculuslaw38_known.mono _
      | exact abaculuslaw38_times.mono _ _ _
      | exact batch_Form.mono _ _ _ _
      | exact LeO.none _
      | refine LeO.ite ?_ ?_
      | refine LeO.bind ?_ (fun _ => ?_)
    · intro y0 y1 y2 y3 y4 y5 y6 y7
      unfold abaculuslaw38_BatchEach.j3
      repeat' first
      | (with_reducible exact ih0 _ _ _ _ _ _)
      | (with_reducible exact ih1 _ _ _ _ _ _ _ _)
      | (with_reducible exact ih2 _ _ _ _ _ _ _ _)
      | (with_reducible exact ih3 _ _ _ _ _ _ _ _)
      | (with_reducible exact abaculuslaw38_known.mono _)
      | (with_reducible exact abaculuslaw38_times.mono _ _ _)
      | (with_reducible exact batch_Form.mono _ _ _ _)
      | (with_reducible exact LeO.refl _)
      | (with_reducible exact LeO.none _)
      | (with_reducible refine LeO.ite ?_ ?_)
      | (with_reducible refine LeO.bind ?_ (fun _ => ?_))
      | exact ih0 _ _ _ _ _ _
      | exact ih1 _ _ _ _ _ _ _ _
      | exact ih2 _ _ _ _ _ _ _ _
      | exact ih3 _ _ _ _ _ _ _ _
      | exact abaculuslaw38_known.mono _
      | exact abaculuslaw38_times.mono _ _ _
      | exact batch_Form.mono _ _ _ _
      | exact LeO.none _
      | refine LeO.ite ?_ ?_
      | refine LeO.bind ?_ (fun _ => ?_)
theorem abaculuslaw38_BatchEach.mono : ∀ a0 a1 a2 k, LeO (abaculuslaw38_BatchEach.f k a0 a1 a2) (abaculuslaw38_BatchEach.f (k + 1) a0 a1 a2) := by
  intro a0 a1 a2 k
  obtain ⟨ih0, ih1, ih2, ih3⟩ := abaculuslaw38_BatchEach.mono_l k
  unfold abaculuslaw38_BatchEach.f
  repeat' first
      | (with_reducible exact ih0 _ _ _ _ _ _)
      | (with_reducible exact ih1 _ _ _ _ _ _ _ _)
      | (with_reducible exact ih2 _ _ _ _ _ _ _ _)
      | (with_reducible exact ih3 _ _ _ _ _ _ _ _)
      | (with_reducible exact abaculuslaw38_known.mono _)
      | (with_reducible exact abaculuslaw38_times.mono _ _ _)
      | (with_reducible exact batch_Form.mono _ _ _ _)
      | (with_reducible exact LeO.refl _)
      | (with_reducible exact LeO.none _)
      | (with_reducible refine LeO.ite ?_ ?_)
      | (with_reducible refine LeO.bind ?_ (fun _ => ?_))
      | exact ih0 _ _ _ _ _ _
      | exact ih1 _ _ _ _ _ _ _ _
      | exact ih2 _ _ _ _ _ _ _ _
      | exact ih3 _ _ _ _ _ _ _ _
      | exact abaculuslaw38_known.mono _
      | exact abaculuslaw38_times.mono _ _ _
      | exact batch_Form.mono _ _ _ _
      | exact LeO.none _
      | refine LeO.ite ?_ ?_
      | refine LeO.bind ?_ (fun _ => ?_)
set_option maxHeartbeats 8000000 in
set_option maxRecDepth 100000 in
theorem abaculuslaw38_BatchEach.calls (k : Nat) (A0 : Option Addr) (c0 : Nat) (l0 : List Int) (a1 : Int) (a2 : Int) (r : Bool) (w : World) (hr0 : Kd.C (Kd.int .i64) w A0 l0.length l0) (hc0 : l0.length ≤ c0) (h : abaculuslaw38_BatchEach.f k l0 a1 a2 = some r) :
    Calls Try.prog 5 #[.slice A0 l0.length c0, .int .i64 a1, .int .i64 a2] w fun e w' => e = .returned (.bool r) ∧ Below w.heap.size w w' := by
  have hu26 := Try.underlying26
  have HR0 := Aside0.mk hr0
  have HC0 := Aside0.mk hc0
  clear hr0 hc0
  have HB := Aside0.mk (Below.refl w.heap.size w)
  have H : ((abaculuslaw38_times.f k l0 7).bind fun t181 => ((abaculushand_Pick.f a1 5).bind fun t184 => ((abaculushand_Pick.f a2 9).bind fun t185 => ((batch_Form.f k t181 (wrap64 (t184 + 1)) t185).bind fun bt187 => (if bt187.2 = 0 then (abaculuslaw38_BatchEach.l0 k t181 bt187.1 0 0 (wrap64 (t184 + 1)) t185) else (some false)))))) = some r := h
  clear h
  replace H := Option.bind_eq_some_iff.mp H
  obtain ⟨t181, A40, H⟩ := H
  replace H : ((abaculushand_Pick.f a1 5).bind fun t184 => ((abaculushand_Pick.f a2 9).bind fun t185 => ((batch_Form.f k t181 (wrap64 (t184 + 1)) t185).bind fun bt187 => (if bt187.2 = 0 then (abaculuslaw38_BatchEach.l0 k t181 bt187.1 0 0 (wrap64 (t184 + 1)) t185) else (some false))))) = some r := H
  have A4 := Aside0.mk A40
  clear A40
  replace H := Option.bind_eq_some_iff.mp H
  obtain ⟨t184, A50, H⟩ := H
  replace H : ((abaculushand_Pick.f a2 9).bind fun t185 => ((batch_Form.f k t181 (wrap64 (t184 + 1)) t185).bind fun bt187 => (if bt187.2 = 0 then (abaculuslaw38_BatchEach.l0 k t181 bt187.1 0 0 (wrap64 (t184 + 1)) t185) else (some false)))) = some r := H
  have A5 := Aside0.mk A50
  clear A50
  replace H := Option.bind_eq_some_iff.mp H
  obtain ⟨t185, A60, H⟩ := H
  replace H : ((batch_Form.f k t181 (wrap64 (t184 + 1)) t185).bind fun bt187 => (if bt187.2 = 0 then (abaculuslaw38_BatchEach.l0 k t181 bt187.1 0 0 (wrap64 (t184 + 1)) t185) else (some false))) = some r := H
  have A6 := Aside0.mk A60
  clear A60
  replace H := Option.bind_eq_some_iff.mp H
  obtain ⟨⟨t187, t190⟩, A70, H⟩ := H
  replace H : (if t190 = 0 then (abaculuslaw38_BatchEach.l0 k t181 t187 0 0 (wrap64 (t184 + 1)) t185) else (some false)) = some r := H
  have A7 := Aside0.mk A70
  clear A70
  by_cases c8 : t190 = 0
  · rw [if_pos c8] at H
    have c8b0 : (t190 == 0) = true := beq_iff_eq.mpr c8
    have c8b1 : (t190 != 0) = false := bne_eq_false_iff_eq.mpr c8
    clear c8
    have H' := Aside0.mk H
    clear H
    go_enter Try.func5, Try.ntmps5
    go_wp2_with (first | (go_at_call 7; (with_reducible refine (abaculuslaw38_times.calls k _ _ l0 7 t181 _ ?side1 ?side2 A4.out).mono ?_); (case side1 => repeat (first | exact HR0.out | (with_reducible refine Kd.C_alloc ?_ _) | (with_reducible refine Kd.C_drewN ?_ _) | (with_reducible refine Kd.C_drew ?_))); (case side2 => exact HC0.out); rintro e w9 ⟨v182, rfl, ho0, hb⟩; have n0_ := Aside0.mk (Kd.R_lower ho0 (below_size (by repeat (first | (with_reducible first | exact HB.out | apply below_alloc | apply pw_below_drewN | apply below_drew1) | exact HB.out)))); have n1_ := Aside0.mk (below_step (by repeat (first | (with_reducible first | exact HB.out | apply below_alloc | apply pw_below_drewN | apply below_drew1) | exact HB.out)) hb); clear HB; have HO183 := n0_; have HB := n1_; clear n0_ n1_; (try clear hb); (try clear hb2); (try clear hk); (try clear hi); (try clear ho0)) | (go_at_call 8; (with_reducible refine (abaculushand_Pick.calls a1 5 t184 _ A5.out).mono ?_); rintro e w' ⟨rfl, ⟨nd, rfl⟩⟩; (try first | exact ⟨rfl, _, World.drewN_drewN _ _ _⟩ | exact ⟨rfl, _, Eq.trans (World.drewN_drewN _ _ _) (congrArg (World.drewN _) (Nat.add_assoc _ _ _))⟩)) | (go_at_call 8; (with_reducible refine (abaculushand_Pick.calls a2 9 t185 _ A6.out).mono ?_); rintro e w' ⟨rfl, ⟨nd, rfl⟩⟩; (try first | exact ⟨rfl, _, World.drewN_drewN _ _ _⟩ | exact ⟨rfl, _, Eq.trans (World.drewN_drewN _ _ _) (congrArg (World.drewN _) (Nat.add_assoc _ _ _))⟩)) | ((with_reducible refine gate_dst (N := 8) rfl ?_); (try (refine gate_guard (by rfl) ?_; dsimp only)); refine box_event ?hg (N := 8) ?hd (cs := #[.int .i64 0, .int .i64 0]) (t := 26) ?hr ?_; (case hd => rfl); (case hg => rfl); (case hr => first | (go_simp; done) | (go_simp; rfl)); intro gb186 hg w10 hbox hb; have n0_ := Aside0.mk (Kd.R_below (by (with_reducible repeat (first | apply Kd.R_alloc | apply Kd.R_drewN | apply Kd.R_drew)); exact HO183.out) hb); have n1_ := Aside0.mk (below_step (by repeat (first | (with_reducible first | exact HB.out | apply below_alloc | apply pw_below_drewN | apply below_drew1) | exact HB.out)) hb); have n2_ := Aside0.mk (hbox); have n3_ := Aside0.mk ((by rw [hg]; exact (below_size (by repeat (first | (with_reducible first | exact HB.out | apply below_alloc | apply pw_below_drewN | apply below_drew1) | exact HB.out))) : w.heap.size ≤ gb186)); have n4_ := Aside0.mk ((by rw [hg]; exact (below_size (by repeat (first | (with_reducible first | exact HB.out | apply below_alloc | apply pw_below_drewN | apply below_drew1) | exact HB.out))) : w.heap.size ≤ gb186)); clear HO183; clear HB; have HO183 := n0_; have HB := n1_; have BK186 := n2_; have GW186 := n3_; have GE186 := n4_; clear n0_ n1_ n2_ n3_ n4_; clear hb hbox hg; have hcz11_0 : w10.cell? ⟨gb186, 0, none⟩ = some (.int .i64 0) := (blk_cell BK186.out 0).trans rfl; have hcz11_1 : w10.cell? ⟨gb186, 1, none⟩ = some (.int .i64 0) := (blk_cell BK186.out 1).trans rfl; have hfz11_0 := blk_frozen BK186.out 0; have hfz11_1 := blk_frozen BK186.out 1; obtain ⟨Ao12, co12, eo12⟩ := Kd.R_slice HO183.out; subst eo12) | (go_at_call 9; (with_reducible refine (batch_Form.calls k _ _ t181 (wrap64 (t184 + 1)) t185 t187 t190 _ ?side1 ?side2 A7.out).mono ?_); (case side1 => refine (Kd.R_reads' (e := 3) (base := w.heap.size) (ok := fun k_ => True) (n := t181.length) (c := co12) ?_).2.2; exact (by (with_reducible repeat (first | apply Kd.R_alloc | apply Kd.R_drewN | apply Kd.R_drew)); exact (Kd.R_mono (Kd.R_far (p := ⟨gb186, 1, none⟩) (Kd.R_far (p := ⟨gb186, 0, none⟩) (Kd.R_types HO183.out BK186.out (by decide)) (fun _ hk => hk.2) (.int .i64 (wrap64 (t184 + 1)))) (fun _ hk => hk.2) (.int .i64 t185)) (fun _ h_ => h_.1)))); (case side2 => exact (Kd.R_reads' HO183.out).2.1); rintro e w13 ⟨v188, rfl, ho0, hb⟩; have n0_ := Aside0.mk (Kd.R_below (by (with_reducible repeat (first | apply Kd.R_alloc | apply Kd.R_drewN | apply Kd.R_drew)); exact (Kd.R_mono (Kd.R_far (p := ⟨gb186, 1, none⟩) (Kd.R_far (p := ⟨gb186, 0, none⟩) (Kd.R_types HO183.out BK186.out (by decide)) (fun _ hk => hk.2) (.int .i64 (wrap64 (t184 + 1)))) (fun _ hk => hk.2) (.int .i64 t185)) (fun _ h_ => h_.1))) hb); have n1_ := Aside0.mk (Kd.N_lower (Kd.N_mono (ok' := fun k_ => some k_ ≠ (.slice Ao12 t181.length co12 : Value).ownBlock ∧ k_ ≠ gb186) ho0 (fun k_ hk_ => ⟨(Kd.fresh' (Kd.R_lt (by (with_reducible repeat (first | apply Kd.R_alloc | apply Kd.R_drewN | apply Kd.R_drew)); exact (Kd.R_mono (Kd.R_far (p := ⟨gb186, 1, none⟩) (Kd.R_far (p := ⟨gb186, 0, none⟩) (Kd.R_types HO183.out BK186.out (by decide)) (fun _ hk => hk.2) (.int .i64 (wrap64 (t184 + 1)))) (fun _ hk => hk.2) (.int .i64 t185)) (fun _ h_ => h_.1)))) k_ hk_), (Kd.freshB (g := gb186) (o := .cells #[.int .i64 (wrap64 (t184 + 1)), .int .i64 t185] 26 (0, 0)) (by (with_reducible repeat (first | refine blk_drewN ?_ _ | refine blk_drew ?_ | refine blk_alloc ?_ _)); refine blk_put (cs := #[.int .i64 (wrap64 (t184 + 1)), .int .i64 0]) ?_ 1 _ rfl; (with_reducible repeat (first | refine blk_drewN ?_ _ | refine blk_drew ?_ | refine blk_alloc ?_ _)); refine blk_put (cs := #[.int .i64 0, .int .i64 0]) ?_ 0 _ rfl; (with_reducible repeat (first | refine blk_drewN ?_ _ | refine blk_drew ?_ | refine blk_alloc ?_ _)); exact BK186.out) k_ hk_)⟩)) (below_size (by repeat (first | (with_reducible first | exact HB.out | apply below_alloc | apply pw_below_drewN | apply below_drew1 | refine below_set ?_ GE186.out) | exact HB.out)))); have n2_ := Aside0.mk (blk_below (g := gb186) (o := .cells #[.int .i64 (wrap64 (t184 + 1)), .int .i64 t185] 26 (0, 0)) (by (with_reducible repeat (first | refine blk_drewN ?_ _ | refine blk_drew ?_ | refine blk_alloc ?_ _)); refine blk_put (cs := #[.int .i64 (wrap64 (t184 + 1)), .int .i64 0]) ?_ 1 _ rfl; (with_reducible repeat (first | refine blk_drewN ?_ _ | refine blk_drew ?_ | refine blk_alloc ?_ _)); refine blk_put (cs := #[.int .i64 0, .int .i64 0]) ?_ 0 _ rfl; (with_reducible repeat (first | refine blk_drewN ?_ _ | refine blk_drew ?_ | refine blk_alloc ?_ _)); exact BK186.out) hb); have n3_ := Aside0.mk (below_step (by repeat (first | (with_reducible first | exact HB.out | apply below_alloc | apply pw_below_drewN | apply below_drew1 | refine below_set ?_ GE186.out) | exact HB.out)) hb); clear HO183; clear BK186; clear HB; have HO183 := n0_; have HO189 := n1_; have BK186 := n2_; have HB := n3_; clear n0_ n1_ n2_ n3_; (try clear hb); (try clear hb2); (try clear hk); (try clear hi); (try clear ho0)))
    repeat (go_quiet (first | (go_at_call 7; (with_reducible refine (abaculuslaw38_times.calls k _ _ l0 7 t181 _ ?side1 ?side2 A4.out).mono ?_); (case side1 => repeat (first | exact HR0.out | (with_reducible refine Kd.C_alloc ?_ _) | (with_reducible refine Kd.C_drewN ?_ _) | (with_reducible refine Kd.C_drew ?_))); (case side2 => exact HC0.out); rintro e w9 ⟨v182, rfl, ho0, hb⟩; have n0_ := Aside0.mk (Kd.R_lower ho0 (below_size (by repeat (first | (with_reducible first | exact HB.out | apply below_alloc | apply pw_below_drewN | apply below_drew1) | exact HB.out)))); have n1_ := Aside0.mk (below_step (by repeat (first | (with_reducible first | exact HB.out | apply below_alloc | apply pw_below_drewN | apply below_drew1) | exact HB.out)) hb); clear HB; have HO183 := n0_; have HB := n1_; clear n0_ n1_; (try clear hb); (try clear hb2); (try clear hk); (try clear hi); (try clear ho0)) | (go_at_call 8; (with_reducible refine (abaculushand_Pick.calls a1 5 t184 _ A5.out).mono ?_); rintro e w' ⟨rfl, ⟨nd, rfl⟩⟩; (try first | exact ⟨rfl, _, World.drewN_drewN _ _ _⟩ | exact ⟨rfl, _, Eq.trans (World.drewN_drewN _ _ _) (congrArg (World.drewN _) (Nat.add_assoc _ _ _))⟩)) | (go_at_call 8; (with_reducible refine (abaculushand_Pick.calls a2 9 t185 _ A6.out).mono ?_); rintro e w' ⟨rfl, ⟨nd, rfl⟩⟩; (try first | exact ⟨rfl, _, World.drewN_drewN _ _ _⟩ | exact ⟨rfl, _, Eq.trans (World.drewN_drewN _ _ _) (congrArg (World.drewN _) (Nat.add_assoc _ _ _))⟩)) | ((with_reducible refine gate_dst (N := 8) rfl ?_); (try (refine gate_guard (by rfl) ?_; dsimp only)); refine box_event ?hg (N := 8) ?hd (cs := #[.int .i64 0, .int .i64 0]) (t := 26) ?hr ?_; (case hd => rfl); (case hg => rfl); (case hr => first | (go_simp; done) | (go_simp; rfl)); intro gb186 hg w10 hbox hb; have n0_ := Aside0.mk (Kd.R_below (by (with_reducible repeat (first | apply Kd.R_alloc | apply Kd.R_drewN | apply Kd.R_drew)); exact HO183.out) hb); have n1_ := Aside0.mk (below_step (by repeat (first | (with_reducible first | exact HB.out | apply below_alloc | apply pw_below_drewN | apply below_drew1) | exact HB.out)) hb); have n2_ := Aside0.mk (hbox); have n3_ := Aside0.mk ((by rw [hg]; exact (below_size (by repeat (first | (with_reducible first | exact HB.out | apply below_alloc | apply pw_below_drewN | apply below_drew1) | exact HB.out))) : w.heap.size ≤ gb186)); have n4_ := Aside0.mk ((by rw [hg]; exact (below_size (by repeat (first | (with_reducible first | exact HB.out | apply below_alloc | apply pw_below_drewN | apply below_drew1) | exact HB.out))) : w.heap.size ≤ gb186)); clear HO183; clear HB; have HO183 := n0_; have HB := n1_; have BK186 := n2_; have GW186 := n3_; have GE186 := n4_; clear n0_ n1_ n2_ n3_ n4_; clear hb hbox hg; have hcz11_0 : w10.cell? ⟨gb186, 0, none⟩ = some (.int .i64 0) := (blk_cell BK186.out 0).trans rfl; have hcz11_1 : w10.cell? ⟨gb186, 1, none⟩ = some (.int .i64 0) := (blk_cell BK186.out 1).trans rfl; have hfz11_0 := blk_frozen BK186.out 0; have hfz11_1 := blk_frozen BK186.out 1; obtain ⟨Ao12, co12, eo12⟩ := Kd.R_slice HO183.out; subst eo12) | (go_at_call 9; (with_reducible refine (batch_Form.calls k _ _ t181 (wrap64 (t184 + 1)) t185 t187 t190 _ ?side1 ?side2 A7.out).mono ?_); (case side1 => refine (Kd.R_reads' (e := 3) (base := w.heap.size) (ok := fun k_ => True) (n := t181.length) (c := co12) ?_).2.2; exact (by (with_reducible repeat (first | apply Kd.R_alloc | apply Kd.R_drewN | apply Kd.R_drew)); exact (Kd.R_mono (Kd.R_far (p := ⟨gb186, 1, none⟩) (Kd.R_far (p := ⟨gb186, 0, none⟩) (Kd.R_types HO183.out BK186.out (by decide)) (fun _ hk => hk.2) (.int .i64 (wrap64 (t184 + 1)))) (fun _ hk => hk.2) (.int .i64 t185)) (fun _ h_ => h_.1)))); (case side2 => exact (Kd.R_reads' HO183.out).2.1); rintro e w13 ⟨v188, rfl, ho0, hb⟩; have n0_ := Aside0.mk (Kd.R_below (by (with_reducible repeat (first | apply Kd.R_alloc | apply Kd.R_drewN | apply Kd.R_drew)); exact (Kd.R_mono (Kd.R_far (p := ⟨gb186, 1, none⟩) (Kd.R_far (p := ⟨gb186, 0, none⟩) (Kd.R_types HO183.out BK186.out (by decide)) (fun _ hk => hk.2) (.int .i64 (wrap64 (t184 + 1)))) (fun _ hk => hk.2) (.int .i64 t185)) (fun _ h_ => h_.1))) hb); have n1_ := Aside0.mk (Kd.N_lower (Kd.N_mono (ok' := fun k_ => some k_ ≠ (.slice Ao12 t181.length co12 : Value).ownBlock ∧ k_ ≠ gb186) ho0 (fun k_ hk_ => ⟨(Kd.fresh' (Kd.R_lt (by (with_reducible repeat (first | apply Kd.R_alloc | apply Kd.R_drewN | apply Kd.R_drew)); exact (Kd.R_mono (Kd.R_far (p := ⟨gb186, 1, none⟩) (Kd.R_far (p := ⟨gb186, 0, none⟩) (Kd.R_types HO183.out BK186.out (by decide)) (fun _ hk => hk.2) (.int .i64 (wrap64 (t184 + 1)))) (fun _ hk => hk.2) (.int .i64 t185)) (fun _ h_ => h_.1)))) k_ hk_), (Kd.freshB (g := gb186) (o := .cells #[.int .i64 (wrap64 (t184 + 1)), .int .i64 t185] 26 (0, 0)) (by (with_reducible repeat (first | refine blk_drewN ?_ _ | refine blk_drew ?_ | refine blk_alloc ?_ _)); refine blk_put (cs := #[.int .i64 (wrap64 (t184 + 1)), .int .i64 0]) ?_ 1 _ rfl; (with_reducible repeat (first | refine blk_drewN ?_ _ | refine blk_drew ?_ | refine blk_alloc ?_ _)); refine blk_put (cs := #[.int .i64 0, .int .i64 0]) ?_ 0 _ rfl; (with_reducible repeat (first | refine blk_drewN ?_ _ | refine blk_drew ?_ | refine blk_alloc ?_ _)); exact BK186.out) k_ hk_)⟩)) (below_size (by repeat (first | (with_reducible first | exact HB.out | apply below_alloc | apply pw_below_drewN | apply below_drew1 | refine below_set ?_ GE186.out) | exact HB.out)))); have n2_ := Aside0.mk (blk_below (g := gb186) (o := .cells #[.int .i64 (wrap64 (t184 + 1)), .int .i64 t185] 26 (0, 0)) (by (with_reducible repeat (first | refine blk_drewN ?_ _ | refine blk_drew ?_ | refine blk_alloc ?_ _)); refine blk_put (cs := #[.int .i64 (wrap64 (t184 + 1)), .int .i64 0]) ?_ 1 _ rfl; (with_reducible repeat (first | refine blk_drewN ?_ _ | refine blk_drew ?_ | refine blk_alloc ?_ _)); refine blk_put (cs := #[.int .i64 0, .int .i64 0]) ?_ 0 _ rfl; (with_reducible repeat (first | refine blk_drewN ?_ _ | refine blk_drew ?_ | refine blk_alloc ?_ _)); exact BK186.out) hb); have n3_ := Aside0.mk (below_step (by repeat (first | (with_reducible first | exact HB.out | apply below_alloc | apply pw_below_drewN | apply below_drew1 | refine below_set ?_ GE186.out) | exact HB.out)) hb); clear HO183; clear BK186; clear HB; have HO183 := n0_; have HO189 := n1_; have BK186 := n2_; have HB := n3_; clear n0_ n1_ n2_ n3_; (try clear hb); (try clear hb2); (try clear hk); (try clear hi); (try clear ho0))); try go_wp2_with (first | (go_at_call 7; (with_reducible refine (abaculuslaw38_times.calls k _ _ l0 7 t181 _ ?side1 ?side2 A4.out).mono ?_); (case side1 => repeat (first | exact HR0.out | (with_reducible refine Kd.C_alloc ?_ _) | (with_reducible refine Kd.C_drewN ?_ _) | (with_reducible refine Kd.C_drew ?_))); (case side2 => exact HC0.out); rintro e w9 ⟨v182, rfl, ho0, hb⟩; have n0_ := Aside0.mk (Kd.R_lower ho0 (below_size (by repeat (first | (with_reducible first | exact HB.out | apply below_alloc | apply pw_below_drewN | apply below_drew1) | exact HB.out)))); have n1_ := Aside0.mk (below_step (by repeat (first | (with_reducible first | exact HB.out | apply below_alloc | apply pw_below_drewN | apply below_drew1) | exact HB.out)) hb); clear HB; have HO183 := n0_; have HB := n1_; clear n0_ n1_; (try clear hb); (try clear hb2); (try clear hk); (try clear hi); (try clear ho0)) | (go_at_call 8; (with_reducible refine (abaculushand_Pick.calls a1 5 t184 _ A5.out).mono ?_); rintro e w' ⟨rfl, ⟨nd, rfl⟩⟩; (try first | exact ⟨rfl, _, World.drewN_drewN _ _ _⟩ | exact ⟨rfl, _, Eq.trans (World.drewN_drewN _ _ _) (congrArg (World.drewN _) (Nat.add_assoc _ _ _))⟩)) | (go_at_call 8; (with_reducible refine (abaculushand_Pick.calls a2 9 t185 _ A6.out).mono ?_); rintro e w' ⟨rfl, ⟨nd, rfl⟩⟩; (try first | exact ⟨rfl, _, World.drewN_drewN _ _ _⟩ | exact ⟨rfl, _, Eq.trans (World.drewN_drewN _ _ _) (congrArg (World.drewN _) (Nat.add_assoc _ _ _))⟩)) | ((with_reducible refine gate_dst (N := 8) rfl ?_); (try (refine gate_guard (by rfl) ?_; dsimp only)); refine box_event ?hg (N := 8) ?hd (cs := #[.int .i64 0, .int .i64 0]) (t := 26) ?hr ?_; (case hd => rfl); (case hg => rfl); (case hr => first | (go_simp; done) | (go_simp; rfl)); intro gb186 hg w10 hbox hb; have n0_ := Aside0.mk (Kd.R_below (by (with_reducible repeat (first | apply Kd.R_alloc | apply Kd.R_drewN | apply Kd.R_drew)); exact HO183.out) hb); have n1_ := Aside0.mk (below_step (by repeat (first | (with_reducible first | exact HB.out | apply below_alloc | apply pw_below_drewN | apply below_drew1) | exact HB.out)) hb); have n2_ := Aside0.mk (hbox); have n3_ := Aside0.mk ((by rw [hg]; exact (below_size (by repeat (first | (with_reducible first | exact HB.out | apply below_alloc | apply pw_below_drewN | apply below_drew1) | exact HB.out))) : w.heap.size ≤ gb186)); have n4_ := Aside0.mk ((by rw [hg]; exact (below_size (by repeat (first | (with_reducible first | exact HB.out | apply below_alloc | apply pw_below_drewN | apply below_drew1) | exact HB.out))) : w.heap.size ≤ gb186)); clear HO183; clear HB; have HO183 := n0_; have HB := n1_; have BK186 := n2_; have GW186 := n3_; have GE186 := n4_; clear n0_ n1_ n2_ n3_ n4_; clear hb hbox hg; have hcz11_0 : w10.cell? ⟨gb186, 0, none⟩ = some (.int .i64 0) := (blk_cell BK186.out 0).trans rfl; have hcz11_1 : w10.cell? ⟨gb186, 1, none⟩ = some (.int .i64 0) := (blk_cell BK186.out 1).trans rfl; have hfz11_0 := blk_frozen BK186.out 0; have hfz11_1 := blk_frozen BK186.out 1; obtain ⟨Ao12, co12, eo12⟩ := Kd.R_slice HO183.out; subst eo12) | (go_at_call 9; (with_reducible refine (batch_Form.calls k _ _ t181 (wrap64 (t184 + 1)) t185 t187 t190 _ ?side1 ?side2 A7.out).mono ?_); (case side1 => refine (Kd.R_reads' (e := 3) (base := w.heap.size) (ok := fun k_ => True) (n := t181.length) (c := co12) ?_).2.2; exact (by (with_reducible repeat (first | apply Kd.R_alloc | apply Kd.R_drewN | apply Kd.R_drew)); exact (Kd.R_mono (Kd.R_far (p := ⟨gb186, 1, none⟩) (Kd.R_far (p := ⟨gb186, 0, none⟩) (Kd.R_types HO183.out BK186.out (by decide)) (fun _ hk => hk.2) (.int .i64 (wrap64 (t184 + 1)))) (fun _ hk => hk.2) (.int .i64 t185)) (fun _ h_ => h_.1)))); (case side2 => exact (Kd.R_reads' HO183.out).2.1); rintro e w13 ⟨v188, rfl, ho0, hb⟩; have n0_ := Aside0.mk (Kd.R_below (by (with_reducible repeat (first | apply Kd.R_alloc | apply Kd.R_drewN | apply Kd.R_drew)); exact (Kd.R_mono (Kd.R_far (p := ⟨gb186, 1, none⟩) (Kd.R_far (p := ⟨gb186, 0, none⟩) (Kd.R_types HO183.out BK186.out (by decide)) (fun _ hk => hk.2) (.int .i64 (wrap64 (t184 + 1)))) (fun _ hk => hk.2) (.int .i64 t185)) (fun _ h_ => h_.1))) hb); have n1_ := Aside0.mk (Kd.N_lower (Kd.N_mono (ok' := fun k_ => some k_ ≠ (.slice Ao12 t181.length co12 : Value).ownBlock ∧ k_ ≠ gb186) ho0 (fun k_ hk_ => ⟨(Kd.fresh' (Kd.R_lt (by (with_reducible repeat (first | apply Kd.R_alloc | apply Kd.R_drewN | apply Kd.R_drew)); exact (Kd.R_mono (Kd.R_far (p := ⟨gb186, 1, none⟩) (Kd.R_far (p := ⟨gb186, 0, none⟩) (Kd.R_types HO183.out BK186.out (by decide)) (fun _ hk => hk.2) (.int .i64 (wrap64 (t184 + 1)))) (fun _ hk => hk.2) (.int .i64 t185)) (fun _ h_ => h_.1)))) k_ hk_), (Kd.freshB (g := gb186) (o := .cells #[.int .i64 (wrap64 (t184 + 1)), .int .i64 t185] 26 (0, 0)) (by (with_reducible repeat (first | refine blk_drewN ?_ _ | refine blk_drew ?_ | refine blk_alloc ?_ _)); refine blk_put (cs := #[.int .i64 (wrap64 (t184 + 1)), .int .i64 0]) ?_ 1 _ rfl; (with_reducible repeat (first | refine blk_drewN ?_ _ | refine blk_drew ?_ | refine blk_alloc ?_ _)); refine blk_put (cs := #[.int .i64 0, .int .i64 0]) ?_ 0 _ rfl; (with_reducible repeat (first | refine blk_drewN ?_ _ | refine blk_drew ?_ | refine blk_alloc ?_ _)); exact BK186.out) k_ hk_)⟩)) (below_size (by repeat (first | (with_reducible first | exact HB.out | apply below_alloc | apply pw_below_drewN | apply below_drew1 | refine below_set ?_ GE186.out) | exact HB.out)))); have n2_ := Aside0.mk (blk_below (g := gb186) (o := .cells #[.int .i64 (wrap64 (t184 + 1)), .int .i64 t185] 26 (0, 0)) (by (with_reducible repeat (first | refine blk_drewN ?_ _ | refine blk_drew ?_ | refine blk_alloc ?_ _)); refine blk_put (cs := #[.int .i64 (wrap64 (t184 + 1)), .int .i64 0]) ?_ 1 _ rfl; (with_reducible repeat (first | refine blk_drewN ?_ _ | refine blk_drew ?_ | refine blk_alloc ?_ _)); refine blk_put (cs := #[.int .i64 0, .int .i64 0]) ?_ 0 _ rfl; (with_reducible repeat (first | refine blk_drewN ?_ _ | refine blk_drew ?_ | refine blk_alloc ?_ _)); exact BK186.out) hb); have n3_ := Aside0.mk (below_step (by repeat (first | (with_reducible first | exact HB.out | apply below_alloc | apply pw_below_drewN | apply below_drew1 | refine below_set ?_ GE186.out) | exact HB.out)) hb); clear HO183; clear BK186; clear HB; have HO183 := n0_; have HO189 := n1_; have BK186 := n2_; have HB := n3_; clear n0_ n1_ n2_ n3_; (try clear hb); (try clear hb2); (try clear hk); (try clear hi); (try clear ho0))))
    go_loopg [11, 12] k (fun kq v11 v12 w' => ∃ (x11_1 : Int) (x12_1 : Int), v11 = .int .i64 x11_1 ∧ v12 = .int .i64 x12_1 ∧ Aside0 (abaculuslaw38_BatchEach.l0 kq t181 t187 x11_1 x12_1 (wrap64 (t184 + 1)) t185 = some r) ∧ Aside0 (kq ≤ k) ∧ Aside0 (Kd.R (Kd.int .i64) 3 w' w.heap.size (fun _ => True) (.slice Ao12 t181.length co12) t181) ∧ Aside0 (Kd.N k40 40 w' w.heap.size (fun k_ => some k_ ≠ ((.slice Ao12 t181.length co12) : Value).ownBlock ∧ k_ ≠ gb186) v188 t187) ∧ Aside0 (w'.heap[gb186]? = some (.cells #[.int .i64 (wrap64 (t184 + 1)), .int .i64 t185] 26 (0, 0))) ∧ Aside0 (Below w.heap.size w w'))
    case atStart => exact ⟨(0), (0), (by first | rfl | (simp; done) | (simp [*]; done)), (by first | rfl | (simp; done) | (simp [*]; done)), H', ⟨Nat.le_refl _⟩, ⟨by (with_reducible repeat (first | apply Kd.R_alloc | apply Kd.R_drewN | apply Kd.R_drew)); exact HO183.out⟩, ⟨by (with_reducible repeat (first | apply Kd.N_alloc | apply Kd.N_drewN | apply Kd.N_drew)); exact HO189.out⟩, ⟨by (with_reducible repeat (first | refine blk_drewN ?_ _ | refine blk_drew ?_ | refine blk_alloc ?_ _)); exact BK186.out⟩, ⟨by repeat (first | (with_reducible first | exact HB.out | apply below_alloc | apply pw_below_drewN | apply below_drew1 | refine below_set ?_ GE186.out) | exact HB.out)⟩⟩
    case round =>
      clear H'
      try clear p2
      try clear c5
      try clear p6
      try clear c8
      try clear c8b0
      try clear c8b1
      try clear hcz11_0
      try clear hcz11_1
      try clear hfz11_0
      try clear hfz11_1
      obtain ⟨x11_1, x12_1, rfl, rfl, HA, HK1, HO_7, HO_9, BK186, HB⟩ := hrel
      cases gk with
      | zero => exact absurd HA.out (by simp [abaculuslaw38_BatchEach.l0])
      | succ k1 =>
        have H := HA.out
        clear HA
        simp only [abaculuslaw38_BatchEach.l0] at H
        by_cases c14 : x12_1 < (t187.length : Int)
        · rw [if_pos c14] at H
          have c14b0 : decide (x12_1 < (t187.length : Int)) = true := decide_eq_true c14
          clear c14
          by_cases c15 : 0 ≤ x12_1
          · rw [if_pos c15] at H
            have c15b0 : decide (0 ≤ x12_1) = true := decide_eq_true c15
            clear c15
            have HC16 := Aside0.mk H
            clear H
            obtain ⟨Ao17, co17, eo17⟩ := Kd.N_slice HO_9.out
            subst eo17
            have p192 : 0 ≤ (x12_1 : Int) := of_decide_eq_true (by first | (with_reducible assumption) | assumption)
            have q192 : x12_1 < (t187.length : Int) := of_decide_eq_true (by first | (with_reducible assumption) | assumption)
            obtain ⟨ad192, A192_0, c192_0, e192, hx192_0, hx192_1, hl192_0, hi192_0⟩ := at_T40 (Kd.N_reads' HO_9.out).2.2 x12_1 p192 q192
            cases e192
            obtain ⟨ce192, hce192, hMe192, hcc192⟩ := Kd.N_get HO_9.out z40 x12_1 p192 (by first | exact q192 | exact of_decide_eq_true (by first | (with_reducible assumption) | assumption) | (have e_ := (Kd.N_reads' HO_9.out).1; omega))
            obtain ⟨ua192_0, uc192_0, rfl, ul192_0, ge192_0⟩ := k40_openF hMe192
            have hv192_0 := hcc192 0 _ rfl
            rw [Nat.add_zero] at hv192_0
            replace hv192_0 := Option.some.inj (hv192_0.symm.trans hx192_0)
            injection hv192_0 with hva_ hvn_ hvc_
            rw [hva_] at ge192_0
            rw [hvc_] at ul192_0
            have HL192_0 := Aside0.mk (show Kd.V (Kd.int .i64) 3 _ w.heap.size _ _ ((rd_T40 t187 x12_1).f0) from Kd.V_mk ul192_0 ge192_0)
            clear hva_ hvn_ hvc_ ge192_0 ul192_0
            clear hcc192 hce192
            have HR192_0 := Aside0.mk hi192_0
            have HC192_0 := Aside0.mk hl192_0
            clear hi192_0 hl192_0
            replace p192 := eq_true p192
            replace q192 := eq_true q192
            go_upto_region 11 with (fail)
            repeat (go_quiet (fail); go_upto_region 11 with (fail))
            go_cut [50] (fun v50 wc => ∃ (kq : Nat) (x50_15 : Bool), v50 = .bool x50_15 ∧ Aside0 (abaculuslaw38_BatchEach.j1 kq t181 t187 x11_1 x12_1 (((rd_T40 t187 x12_1).f0).length : Int) x50_15 (wrap64 (t184 + 1)) t185 = some r) ∧ Aside0 (kq ≤ k1) ∧ Aside0 (Kd.R (Kd.int .i64) 3 wc w.heap.size (fun _ => True) (.slice Ao12 t181.length co12) t181) ∧ Aside0 (Kd.N k40 40 wc w.heap.size (fun k_ => some k_ ≠ ((.slice Ao12 t181.length co12) : Value).ownBlock ∧ k_ ≠ gb186) (.slice (some ad192) t187.length co17) t187) ∧ Aside0 (wc.heap[gb186]? = some (.cells #[.int .i64 (wrap64 (t184 + 1)), .int .i64 t185] 26 (0, 0))) ∧ Aside0 (Kd.C (Kd.int .i64) wc A192_0 ((rd_T40 t187 x12_1).f0).length ((rd_T40 t187 x12_1).f0)) ∧ Aside0 (Below w.heap.size w wc))
            case first =>
              have H := HC16.out
              clear HC16
              by_cases c18 : (((rd_T40 t187 x12_1).f0).length : Int) < 1
              · rw [if_pos c18] at H
                have c18b0 : decide ((((rd_T40 t187 x12_1).f0).length : Int) < 1) = true := decide_eq_true c18
                have c18b1 : decide (((rd_T40 t187 x12_1).f0).length < 1) = true := decide_eq_true (by omega)
                clear c18
                (first | rw [c18b0] | (simp only [i64_w, i32_w]; rw [c18b0]) | skip)
                have H' := Aside0.mk H
                clear H
                go_wp2
                repeat (go_quiet (fail); try go_wp2)
                go_meet
                case rel => exact ⟨_, (true), (by first | rfl | (simp; done) | (simp [*]; done)), H', ⟨by have := HK1.out; first | omega | exact Nat.le_refl _⟩, ⟨by (with_reducible repeat (first | apply Kd.R_alloc | apply Kd.R_drewN | apply Kd.R_drew)); exact HO_7.out⟩, ⟨by (with_reducible repeat (first | apply Kd.N_alloc | apply Kd.N_drewN | apply Kd.N_drew)); exact HO_9.out⟩, ⟨by (with_reducible repeat (first | refine blk_drewN ?_ _ | refine blk_drew ?_ | refine blk_alloc ?_ _)); exact BK186.out⟩, ⟨by repeat (first | (with_reducible exact HR192_0.out) | (with_reducible refine Kd.C_alloc ?_ _) | (with_reducible refine Kd.C_drewN ?_ _) | (with_reducible refine Kd.C_drew ?_) | exact HR192_0.out)⟩, ⟨by repeat (first | (with_reducible first | exact HB.out | apply below_alloc | apply pw_below_drewN | apply below_drew1 | refine below_set ?_ GE186.out) | exact HB.out)⟩⟩
              · rw [if_neg c18] at H
                have c18b0 : decide ((((rd_T40 t187 x12_1).f0).length : Int) < 1) = false := decide_eq_false c18
                have c18b1 : decide (((rd_T40 t187 x12_1).f0).length < 1) = false := decide_eq_false (by omega)
                clear c18
                (first | rw [c18b0] | (simp only [i64_w, i32_w]; rw [c18b0]) | skip)
                have H' := Aside0.mk H
                clear H
                have hcz19_0 : wr.cell? ⟨gb186, 0, none⟩ = some (.int .i64 (wrap64 (t184 + 1))) := (blk_cell BK186.out 0).trans rfl
                have hcz19_1 : wr.cell? ⟨gb186, 1, none⟩ = some (.int .i64 t185) := (blk_cell BK186.out 1).trans rfl
                have hfz19_0 := blk_frozen BK186.out 0
                have hfz19_1 := blk_frozen BK186.out 1
                go_wp2
                repeat (go_quiet (fail); try go_wp2)
                go_meet
                case rel => exact ⟨_, (decide ((((rd_T40 t187 x12_1).f0).length : Int) > (wrap64 (t184 + 1)))), (by first | rfl | (simp; done) | (simp [*]; done)), H', ⟨by have := HK1.out; first | omega | exact Nat.le_refl _⟩, ⟨by (with_reducible repeat (first | apply Kd.R_alloc | apply Kd.R_drewN | apply Kd.R_drew)); exact HO_7.out⟩, ⟨by (with_reducible repeat (first | apply Kd.N_alloc | apply Kd.N_drewN | apply Kd.N_drew)); exact HO_9.out⟩, ⟨by (with_reducible repeat (first | refine blk_drewN ?_ _ | refine blk_drew ?_ | refine blk_alloc ?_ _)); exact BK186.out⟩, ⟨by repeat (first | (with_reducible exact HR192_0.out) | (with_reducible refine Kd.C_alloc ?_ _) | (with_reducible refine Kd.C_drewN ?_ _) | (with_reducible refine Kd.C_drew ?_) | exact HR192_0.out)⟩, ⟨by repeat (first | (with_reducible first | exact HB.out | apply below_alloc | apply pw_below_drewN | apply below_drew1 | refine below_set ?_ GE186.out) | exact HB.out)⟩⟩
            case rest =>
              clear HC16
              try clear c1
              try clear p1
              try clear q1
              try clear hx1
              try clear p2
              try clear c5
              try clear p6
              try clear c8
              try clear c8b0
              try clear c8b1
              try clear c14
              try clear c14b0
              try clear c15
              try clear c15b0
              try clear c18
              try clear c18b0
              try clear c18b1
              try clear c19
              try clear p19
              try clear q19
              try clear hx19
              try clear hcz11_0
              try clear hcz11_1
              try clear hcz19_0
              try clear hcz19_1
              try clear hfz11_0
              try clear hfz11_1
              try clear hfz19_0
              try clear hfz19_1
              try clear hx192_0
              try clear hx192_1
              try clear p192
              try clear p2
              try clear p6
              try clear q192
              obtain ⟨kq, x50_15, rfl, HA, HJ15, HO_7, HO_9, BK186, HR192_0, HB⟩ := hcut
              cases kq with
              | zero => exact absurd HA.out (by simp [abaculuslaw38_BatchEach.j1])
              | succ kj15 =>
                have H := HA.out
                clear HA
                simp only [abaculuslaw38_BatchEach.j1] at H
                by_cases c20 : x50_15 = true
                · subst c20
                  have H1 : (some false) = some r := by rw [if_pos rfl] at H; exact H
                  clear H
                  have H := H1
                  clear H1
                  obtain rfl := Option.some.inj H
                  go_wp2
                  repeat (go_quiet (fail); try go_wp2)
                  go_ret
                  exact ⟨by first | rfl | (simp [errW_none, errW_some] <;> rfl) | (simp [*, errW_none, errW_some] <;> rfl), by repeat (first | (with_reducible first | exact HB.out | apply below_alloc | apply pw_below_drewN | apply below_drew1 | refine below_set ?_ GE186.out) | exact HB.out)⟩
                · replace c20 := Bool.eq_false_iff.mpr c20
                  subst c20
                  have H1 : (abaculuslaw38_BatchEach.l1 kj15 t181 t187 x11_1 x12_1 (((rd_T40 t187 x12_1).f0).length : Int) 0 (wrap64 (t184 + 1)) t185) = some r := by rw [if_neg (show ¬ (false = true) by decide)] at H; exact H
                  clear H
                  have H := H1
                  clear H1
                  have H' := Aside0.mk H
                  clear H
                  go_wp2
                  repeat (go_quiet (fail); try go_wp2)
                  go_loopg [11, 14] kj15 (fun kq v11 v14 w' => ∃ (x11_3 : Int) (x14_3 : Int), v11 = .int .i64 x11_3 ∧ v14 = .int .i64 x14_3 ∧ Aside0 (abaculuslaw38_BatchEach.l1 kq t181 t187 x11_3 x12_1 (((rd_T40 t187 x12_1).f0).length : Int) x14_3 (wrap64 (t184 + 1)) t185 = some r) ∧ Aside0 (kq ≤ kj15) ∧ Aside0 (Kd.R (Kd.int .i64) 3 w' w.heap.size (fun _ => True) (.slice Ao12 t181.length co12) t181) ∧ Aside0 (Kd.N k40 40 w' w.heap.size (fun k_ => some k_ ≠ ((.slice Ao12 t181.length co12) : Value).ownBlock ∧ k_ ≠ gb186) (.slice (some ad192) t187.length co17) t187) ∧ Aside0 (w'.heap[gb186]? = some (.cells #[.int .i64 (wrap64 (t184 + 1)), .int .i64 t185] 26 (0, 0))) ∧ Aside0 (Kd.C (Kd.int .i64) w' A192_0 ((rd_T40 t187 x12_1).f0).length ((rd_T40 t187 x12_1).f0)) ∧ Aside0 (Below w.heap.size w w'))
                  case atStart => exact ⟨(x11_1), (0), (by first | rfl | (simp; done) | (simp [*]; done)), (by first | rfl | (simp; done) | (simp [*]; done)), H', ⟨Nat.le_refl _⟩, ⟨by (with_reducible repeat (first | apply Kd.R_alloc | apply Kd.R_drewN | apply Kd.R_drew)); exact HO_7.out⟩, ⟨by (with_reducible repeat (first | apply Kd.N_alloc | apply Kd.N_drewN | apply Kd.N_drew)); exact HO_9.out⟩, ⟨by (with_reducible repeat (first | refine blk_drewN ?_ _ | refine blk_drew ?_ | refine blk_alloc ?_ _)); exact BK186.out⟩, ⟨by repeat (first | (with_reducible exact HR192_0.out) | (with_reducible refine Kd.C_alloc ?_ _) | (with_reducible refine Kd.C_drewN ?_ _) | (with_reducible refine Kd.C_drew ?_) | exact HR192_0.out)⟩, ⟨by repeat (first | (with_reducible first | exact HB.out | apply below_alloc | apply pw_below_drewN | apply below_drew1 | refine below_set ?_ GE186.out) | exact HB.out)⟩⟩
                  case round =>
                    clear H'
                    try clear c1
                    try clear p1
                    try clear q1
                    try clear hx1
                    try clear c2
                    try clear p2
                    try clear c5
                    try clear p6
                    try clear c8
                    try clear c8b0
                    try clear c8b1
                    try clear c14
                    try clear c14b0
                    try clear c15
                    try clear c15b0
                    try clear c18
                    try clear c18b0
                    try clear c18b1
                    try clear c19
                    try clear p19
                    try clear q19
                    try clear hx19
                    try clear c20
                    try clear hcz11_0
                    try clear hcz11_1
                    try clear hcz19_0
                    try clear hcz19_1
                    try clear hfz11_0
                    try clear hfz11_1
                    try clear hfz19_0
                    try clear hfz19_1
                    try clear hx192_0
                    try clear hx192_1
                    try clear p1
                    try clear p19
                    try clear p192
                    try clear p2
                    try clear p6
                    try clear q1
                    try clear q19
                    try clear q192
                    obtain ⟨x11_3, x14_3, rfl, rfl, HA, HK3, HO_7, HO_9, BK186, HR192_0, HB⟩ := hrel
                    cases gk with
                    | zero => exact absurd HA.out (by simp [abaculuslaw38_BatchEach.l1])
                    | succ k3 =>
                      have H := HA.out
                      clear HA
                      simp only [abaculuslaw38_BatchEach.l1] at H
                      by_cases c21 : x14_3 < (((rd_T40 t187 x12_1).f0).length : Int)
                      · rw [if_pos c21] at H
                        have c21b0 : decide (x14_3 < (((rd_T40 t187 x12_1).f0).length : Int)) = true := decide_eq_true c21
                        clear c21
                        by_cases c22 : 0 ≤ x12_1
                        · rw [if_pos c22] at H
                          have c22b0 : decide (0 ≤ x12_1) = true := decide_eq_true c22
                          clear c22
                          by_cases c23 : x12_1 < (t187.length : Int)
                          · rw [if_pos c23] at H
                            have c23b0 : decide (x12_1 < (t187.length : Int)) = true := decide_eq_true c23
                            clear c23
                            by_cases c24 : 0 ≤ x14_3
                            · rw [if_pos c24] at H
                              have c24b0 : decide (0 ≤ x14_3) = true := decide_eq_true c24
                              clear c24
                              by_cases c25 : x14_3 < (((rd_T40 t187 x12_1).f0).length : Int)
                              · rw [if_pos c25] at H
                                have c25b0 : decide (x14_3 < (((rd_T40 t187 x12_1).f0).length : Int)) = true := decide_eq_true c25
                                clear c25
                                by_cases c26 : (rd ((rd_T40 t187 x12_1).f0) x14_3) = x11_3
                                · rw [if_pos c26] at H
                                  have c26b0 : ((rd ((rd_T40 t187 x12_1).f0) x14_3) == x11_3) = true := beq_iff_eq.mpr c26
                                  have c26b1 : ((rd ((rd_T40 t187 x12_1).f0) x14_3) != x11_3) = false := bne_eq_false_iff_eq.mpr c26
                                  clear c26
                                  by_cases c27 : 0 ≤ x11_3
                                  · rw [if_pos c27] at H
                                    have c27b0 : decide (0 ≤ x11_3) = true := decide_eq_true c27
                                    clear c27
                                    by_cases c28 : x11_3 < (t181.length : Int)
                                    · rw [if_pos c28] at H
                                      have c28b0 : decide (x11_3 < (t181.length : Int)) = true := decide_eq_true c28
                                      clear c28
                                      by_cases c29 : ((rd_T40 t187 x12_1).f1) < (rd t181 x11_3)
                                      · rw [if_pos c29] at H
                                        have c29b0 : decide (((rd_T40 t187 x12_1).f1) < (rd t181 x11_3)) = true := decide_eq_true c29
                                        clear c29
                                        obtain rfl := Option.some.inj H
                                        have p193 : 0 ≤ (x12_1 : Int) := of_decide_eq_true (by first | (with_reducible assumption) | assumption)
                                        have q193 : x12_1 < (t187.length : Int) := of_decide_eq_true (by first | (with_reducible assumption) | assumption)
                                        obtain ⟨ad193, A193_0, c193_0, e193, hx193_0, hx193_1, hl193_0, hi193_0⟩ := at_T40 (Kd.N_reads' HO_9.out).2.2 x12_1 p193 q193
                                        obtain rfl : ad192 = ad193 := (by injection e193)
                                        obtain ⟨ce193, hce193, hMe193, hcc193⟩ := Kd.N_get HO_9.out z40 x12_1 p193 (by first | exact q193 | exact of_decide_eq_true (by first | (with_reducible assumption) | assumption) | (have e_ := (Kd.N_reads' HO_9.out).1; omega))
                                        obtain ⟨ua193_0, uc193_0, rfl, ul193_0, ge193_0⟩ := k40_openF hMe193
                                        have hv193_0 := hcc193 0 _ rfl
                                        rw [Nat.add_zero] at hv193_0
                                        replace hv193_0 := Option.some.inj (hv193_0.symm.trans hx193_0)
                                        injection hv193_0 with hva_ hvn_ hvc_
                                        rw [hva_] at ge193_0
                                        rw [hvc_] at ul193_0
                                        have HL193_0 := Aside0.mk (show Kd.V (Kd.int .i64) 3 _ w.heap.size _ _ ((rd_T40 t187 x12_1).f0) from Kd.V_mk ul193_0 ge193_0)
                                        clear hva_ hvn_ hvc_ ge193_0 ul193_0
                                        clear hcc193 hce193
                                        have HR193_0 := Aside0.mk hi193_0
                                        have HC193_0 := Aside0.mk hl193_0
                                        clear hi193_0 hl193_0
                                        replace p193 := eq_true p193
                                        replace q193 := eq_true q193
                                        have p194 : 0 ≤ (x14_3 : Int) := of_decide_eq_true (by first | (with_reducible assumption) | assumption)
                                        have q194 : x14_3 < (((rd_T40 t187 x12_1).f0).length : Int) := of_decide_eq_true (by first | (with_reducible assumption) | assumption)
                                        obtain ⟨ad194, e194, hx194_0⟩ := Kd.at_int (by repeat (first | (with_reducible exact HR193_0.out) | (with_reducible refine Kd.C_alloc ?_ _) | (with_reducible refine Kd.C_drewN ?_ _) | (with_reducible refine Kd.C_drew ?_) | exact HR193_0.out)) x14_3 p194 q194
                                        cases e194
                                        replace p194 := eq_true p194
                                        replace q194 := eq_true q194
                                        have p195 : 0 ≤ (x12_1 : Int) := of_decide_eq_true (by first | (with_reducible assumption) | assumption)
                                        have q195 : x12_1 < (t187.length : Int) := of_decide_eq_true (by first | (with_reducible assumption) | assumption)
                                        obtain ⟨ad195, A195_0, c195_0, e195, hx195_0, hx195_1, hl195_0, hi195_0⟩ := at_T40 (Kd.N_reads' HO_9.out).2.2 x12_1 p195 q195
                                        obtain rfl : ad192 = ad195 := (by injection e195)
                                        obtain ⟨ce195, hce195, hMe195, hcc195⟩ := Kd.N_get HO_9.out z40 x12_1 p195 (by first | exact q195 | exact of_decide_eq_true (by first | (with_reducible assumption) | assumption) | (have e_ := (Kd.N_reads' HO_9.out).1; omega))
                                        obtain ⟨ua195_0, uc195_0, rfl, ul195_0, ge195_0⟩ := k40_openF hMe195
                                        have hv195_0 := hcc195 0 _ rfl
                                        rw [Nat.add_zero] at hv195_0
                                        replace hv195_0 := Option.some.inj (hv195_0.symm.trans hx195_0)
                                        injection hv195_0 with hva_ hvn_ hvc_
                                        rw [hva_] at ge195_0
                                        rw [hvc_] at ul195_0
                                        have HL195_0 := Aside0.mk (show Kd.V (Kd.int .i64) 3 _ w.heap.size _ _ ((rd_T40 t187 x12_1).f0) from Kd.V_mk ul195_0 ge195_0)
                                        clear hva_ hvn_ hvc_ ge195_0 ul195_0
                                        clear hcc195 hce195
                                        have HR195_0 := Aside0.mk hi195_0
                                        have HC195_0 := Aside0.mk hl195_0
                                        clear hi195_0 hl195_0
                                        replace p195 := eq_true p195
                                        replace q195 := eq_true q195
                                        have ea_ := Option.some.inj (hx193_0.symm.trans hx195_0)
                                        injection ea_ with ea_ en_ ec_
                                        subst ea_
                                        subst ec_
                                        clear en_
                                        have p196 : 0 ≤ (x11_3 : Int) := of_decide_eq_true (by first | (with_reducible assumption) | assumption)
                                        have q196 : x11_3 < (t181.length : Int) := of_decide_eq_true (by first | (with_reducible assumption) | assumption)
                                        obtain ⟨ad196, e196, hx196_0⟩ := Kd.at_int (Kd.R_reads' HO_7.out).2.2 x11_3 p196 q196
                                        cases e196
                                        replace p196 := eq_true p196
                                        replace q196 := eq_true q196
                                        go_wp2
                                        repeat (go_quiet (fail); try go_wp2)
                                        go_ret
                                        exact ⟨by first | rfl | (simp [errW_none, errW_some] <;> rfl) | (simp [*, errW_none, errW_some] <;> rfl), by repeat (first | (with_reducible first | exact HB.out | apply below_alloc | apply pw_below_drewN | apply below_drew1 | refine below_set ?_ GE186.out) | exact HB.out)⟩
                                      · rw [if_neg c29] at H
                                        have c29b0 : decide (((rd_T40 t187 x12_1).f1) < (rd t181 x11_3)) = false := decide_eq_false c29
                                        clear c29
                                        by_cases c30 : ((rd_T40 t187 x12_1).f1) > (wrap64 ((rd t181 x11_3) + t185))
                                        · rw [if_pos c30] at H
                                          have c30b0 : decide ((wrap64 ((rd t181 x11_3) + t185)) < ((rd_T40 t187 x12_1).f1)) = true := decide_eq_true c30
                                          clear c30
                                          obtain rfl := Option.some.inj H
                                          have p193 : 0 ≤ (x12_1 : Int) := of_decide_eq_true (by first | (with_reducible assumption) | assumption)
                                          have q193 : x12_1 < (t187.length : Int) := of_decide_eq_true (by first | (with_reducible assumption) | assumption)
                                          obtain ⟨ad193, A193_0, c193_0, e193, hx193_0, hx193_1, hl193_0, hi193_0⟩ := at_T40 (Kd.N_reads' HO_9.out).2.2 x12_1 p193 q193
                                          obtain rfl : ad192 = ad193 := (by injection e193)
                                          obtain ⟨ce193, hce193, hMe193, hcc193⟩ := Kd.N_get HO_9.out z40 x12_1 p193 (by first | exact q193 | exact of_decide_eq_true (by first | (with_reducible assumption) | assumption) | (have e_ := (Kd.N_reads' HO_9.out).1; omega))
                                          obtain ⟨ua193_0, uc193_0, rfl, ul193_0, ge193_0⟩ := k40_openF hMe193
                                          have hv193_0 := hcc193 0 _ rfl
                                          rw [Nat.add_zero] at hv193_0
                                          replace hv193_0 := Option.some.inj (hv193_0.symm.trans hx193_0)
                                          injection hv193_0 with hva_ hvn_ hvc_
                                          rw [hva_] at ge193_0
                                          rw [hvc_] at ul193_0
                                          have HL193_0 := Aside0.mk (show Kd.V (Kd.int .i64) 3 _ w.heap.size _ _ ((rd_T40 t187 x12_1).f0) from Kd.V_mk ul193_0 ge193_0)
                                          clear hva_ hvn_ hvc_ ge193_0 ul193_0
                                          clear hcc193 hce193
                                          have HR193_0 := Aside0.mk hi193_0
                                          have HC193_0 := Aside0.mk hl193_0
                                          clear hi193_0 hl193_0
                                          replace p193 := eq_true p193
                                          replace q193 := eq_true q193
                                          have p194 : 0 ≤ (x14_3 : Int) := of_decide_eq_true (by first | (with_reducible assumption) | assumption)
                                          have q194 : x14_3 < (((rd_T40 t187 x12_1).f0).length : Int) := of_decide_eq_true (by first | (with_reducible assumption) | assumption)
                                          obtain ⟨ad194, e194, hx194_0⟩ := Kd.at_int (by repeat (first | (with_reducible exact HR193_0.out) | (with_reducible refine Kd.C_alloc ?_ _) | (with_reducible refine Kd.C_drewN ?_ _) | (with_reducible refine Kd.C_drew ?_) | exact HR193_0.out)) x14_3 p194 q194
                                          cases e194
                                          replace p194 := eq_true p194
                                          replace q194 := eq_true q194
                                          have p195 : 0 ≤ (x12_1 : Int) := of_decide_eq_true (by first | (with_reducible assumption) | assumption)
                                          have q195 : x12_1 < (t187.length : Int) := of_decide_eq_true (by first | (with_reducible assumption) | assumption)
                                          obtain ⟨ad195, A195_0, c195_0, e195, hx195_0, hx195_1, hl195_0, hi195_0⟩ := at_T40 (Kd.N_reads' HO_9.out).2.2 x12_1 p195 q195
                                          obtain rfl : ad192 = ad195 := (by injection e195)
                                          obtain ⟨ce195, hce195, hMe195, hcc195⟩ := Kd.N_get HO_9.out z40 x12_1 p195 (by first | exact q195 | exact of_decide_eq_true (by first | (with_reducible assumption) | assumption) | (have e_ := (Kd.N_reads' HO_9.out).1; omega))
                                          obtain ⟨ua195_0, uc195_0, rfl, ul195_0, ge195_0⟩ := k40_openF hMe195
                                          have hv195_0 := hcc195 0 _ rfl
                                          rw [Nat.add_zero] at hv195_0
                                          replace hv195_0 := Option.some.inj (hv195_0.symm.trans hx195_0)
                                          injection hv195_0 with hva_ hvn_ hvc_
                                          rw [hva_] at ge195_0
                                          rw [hvc_] at ul195_0
                                          have HL195_0 := Aside0.mk (show Kd.V (Kd.int .i64) 3 _ w.heap.size _ _ ((rd_T40 t187 x12_1).f0) from Kd.V_mk ul195_0 ge195_0)
                                          clear hva_ hvn_ hvc_ ge195_0 ul195_0
                                          clear hcc195 hce195
                                          have HR195_0 := Aside0.mk hi195_0
                                          have HC195_0 := Aside0.mk hl195_0
                                          clear hi195_0 hl195_0
                                          replace p195 := eq_true p195
                                          replace q195 := eq_true q195
                                          have ea_ := Option.some.inj (hx193_0.symm.trans hx195_0)
                                          injection ea_ with ea_ en_ ec_
                                          subst ea_
                                          subst ec_
                                          clear en_
                                          have p196 : 0 ≤ (x11_3 : Int) := of_decide_eq_true (by first | (with_reducible assumption) | assumption)
                                          have q196 : x11_3 < (t181.length : Int) := of_decide_eq_true (by first | (with_reducible assumption) | assumption)
                                          obtain ⟨ad196, e196, hx196_0⟩ := Kd.at_int (Kd.R_reads' HO_7.out).2.2 x11_3 p196 q196
                                          cases e196
                                          replace p196 := eq_true p196
                                          replace q196 := eq_true q196
                                          have p197 : 0 ≤ (x12_1 : Int) := of_decide_eq_true (by first | (with_reducible assumption) | assumption)
                                          have q197 : x12_1 < (t187.length : Int) := of_decide_eq_true (by first | (with_reducible assumption) | assumption)
                                          obtain ⟨ad197, A197_0, c197_0, e197, hx197_0, hx197_1, hl197_0, hi197_0⟩ := at_T40 (Kd.N_reads' HO_9.out).2.2 x12_1 p197 q197
                                          obtain rfl : ad192 = ad197 := (by injection e197)
                                          obtain ⟨ce197, hce197, hMe197, hcc197⟩ := Kd.N_get HO_9.out z40 x12_1 p197 (by first | exact q197 | exact of_decide_eq_true (by first | (with_reducible assumption) | assumption) | (have e_ := (Kd.N_reads' HO_9.out).1; omega))
                                          obtain ⟨ua197_0, uc197_0, rfl, ul197_0, ge197_0⟩ := k40_openF hMe197
                                          have hv197_0 := hcc197 0 _ rfl
                                          rw [Nat.add_zero] at hv197_0
                                          replace hv197_0 := Option.some.inj (hv197_0.symm.trans hx197_0)
                                          injection hv197_0 with hva_ hvn_ hvc_
                                          rw [hva_] at ge197_0
                                          rw [hvc_] at ul197_0
                                          have HL197_0 := Aside0.mk (show Kd.V (Kd.int .i64) 3 _ w.heap.size _ _ ((rd_T40 t187 x12_1).f0) from Kd.V_mk ul197_0 ge197_0)
                                          clear hva_ hvn_ hvc_ ge197_0 ul197_0
                                          clear hcc197 hce197
                                          have HR197_0 := Aside0.mk hi197_0
                                          have HC197_0 := Aside0.mk hl197_0
                                          clear hi197_0 hl197_0
                                          replace p197 := eq_true p197
                                          replace q197 := eq_true q197
                                          have ea_ := Option.some.inj (hx193_0.symm.trans hx197_0)
                                          injection ea_ with ea_ en_ ec_
                                          subst ea_
                                          subst ec_
                                          clear en_
                                          have p198 : 0 ≤ (x11_3 : Int) := of_decide_eq_true (by first | (with_reducible assumption) | assumption)
                                          have q198 : x11_3 < (t181.length : Int) := of_decide_eq_true (by first | (with_reducible assumption) | assumption)
                                          obtain ⟨ad198, e198, hx198_0⟩ := Kd.at_int (Kd.R_reads' HO_7.out).2.2 x11_3 p198 q198
                                          obtain rfl : ad196 = ad198 := (by injection e198)
                                          replace p198 := eq_true p198
                                          replace q198 := eq_true q198
                                          have hcz31_0 : wr.cell? ⟨gb186, 0, none⟩ = some (.int .i64 (wrap64 (t184 + 1))) := (blk_cell BK186.out 0).trans rfl
                                          have hcz31_1 : wr.cell? ⟨gb186, 1, none⟩ = some (.int .i64 t185) := (blk_cell BK186.out 1).trans rfl
                                          have hfz31_0 := blk_frozen BK186.out 0
                                          have hfz31_1 := blk_frozen BK186.out 1
                                          go_wp2
                                          repeat (go_quiet (fail); try go_wp2)
                                          go_ret
                                          exact ⟨by first | rfl | (simp [errW_none, errW_some] <;> rfl) | (simp [*, errW_none, errW_some] <;> rfl), by repeat (first | (with_reducible first | exact HB.out | apply below_alloc | apply pw_below_drewN | apply below_drew1 | refine below_set ?_ GE186.out) | exact HB.out)⟩
                                        · rw [if_neg c30] at H
                                          have c30b0 : decide ((wrap64 ((rd t181 x11_3) + t185)) < ((rd_T40 t187 x12_1).f1)) = false := decide_eq_false c30
                                          clear c30
                                          have H' := Aside0.mk H
                                          clear H
                                          have p193 : 0 ≤ (x12_1 : Int) := of_decide_eq_true (by first | (with_reducible assumption) | assumption)
                                          have q193 : x12_1 < (t187.length : Int) := of_decide_eq_true (by first | (with_reducible assumption) | assumption)
                                          obtain ⟨ad193, A193_0, c193_0, e193, hx193_0, hx193_1, hl193_0, hi193_0⟩ := at_T40 (Kd.N_reads' HO_9.out).2.2 x12_1 p193 q193
                                          obtain rfl : ad192 = ad193 := (by injection e193)
                                          obtain ⟨ce193, hce193, hMe193, hcc193⟩ := Kd.N_get HO_9.out z40 x12_1 p193 (by first | exact q193 | exact of_decide_eq_true (by first | (with_reducible assumption) | assumption) | (have e_ := (Kd.N_reads' HO_9.out).1; omega))
                                          obtain ⟨ua193_0, uc193_0, rfl, ul193_0, ge193_0⟩ := k40_openF hMe193
                                          have hv193_0 := hcc193 0 _ rfl
                                          rw [Nat.add_zero] at hv193_0
                                          replace hv193_0 := Option.some.inj (hv193_0.symm.trans hx193_0)
                                          injection hv193_0 with hva_ hvn_ hvc_
                                          rw [hva_] at ge193_0
                                          rw [hvc_] at ul193_0
                                          have HL193_0 := Aside0.mk (show Kd.V (Kd.int .i64) 3 _ w.heap.size _ _ ((rd_T40 t187 x12_1).f0) from Kd.V_mk ul193_0 ge193_0)
                                          clear hva_ hvn_ hvc_ ge193_0 ul193_0
                                          clear hcc193 hce193
                                          have HR193_0 := Aside0.mk hi193_0
                                          have HC193_0 := Aside0.mk hl193_0
                                          clear hi193_0 hl193_0
                                          replace p193 := eq_true p193
                                          replace q193 := eq_true q193
                                          have p194 : 0 ≤ (x14_3 : Int) := of_decide_eq_true (by first | (with_reducible assumption) | assumption)
                                          have q194 : x14_3 < (((rd_T40 t187 x12_1).f0).length : Int) := of_decide_eq_true (by first | (with_reducible assumption) | assumption)
                                          obtain ⟨ad194, e194, hx194_0⟩ := Kd.at_int (by repeat (first | (with_reducible exact HR193_0.out) | (with_reducible refine Kd.C_alloc ?_ _) | (with_reducible refine Kd.C_drewN ?_ _) | (with_reducible refine Kd.C_drew ?_) | exact HR193_0.out)) x14_3 p194 q194
                                          cases e194
                                          replace p194 := eq_true p194
                                          replace q194 := eq_true q194
                                          have p195 : 0 ≤ (x12_1 : Int) := of_decide_eq_true (by first | (with_reducible assumption) | assumption)
                                          have q195 : x12_1 < (t187.length : Int) := of_decide_eq_true (by first | (with_reducible assumption) | assumption)
                                          obtain ⟨ad195, A195_0, c195_0, e195, hx195_0, hx195_1, hl195_0, hi195_0⟩ := at_T40 (Kd.N_reads' HO_9.out).2.2 x12_1 p195 q195
                                          obtain rfl : ad192 = ad195 := (by injection e195)
                                          obtain ⟨ce195, hce195, hMe195, hcc195⟩ := Kd.N_get HO_9.out z40 x12_1 p195 (by first | exact q195 | exact of_decide_eq_true (by first | (with_reducible assumption) | assumption) | (have e_ := (Kd.N_reads' HO_9.out).1; omega))
                                          obtain ⟨ua195_0, uc195_0, rfl, ul195_0, ge195_0⟩ := k40_openF hMe195
                                          have hv195_0 := hcc195 0 _ rfl
                                          rw [Nat.add_zero] at hv195_0
                                          replace hv195_0 := Option.some.inj (hv195_0.symm.trans hx195_0)
                                          injection hv195_0 with hva_ hvn_ hvc_
                                          rw [hva_] at ge195_0
                                          rw [hvc_] at ul195_0
                                          have HL195_0 := Aside0.mk (show Kd.V (Kd.int .i64) 3 _ w.heap.size _ _ ((rd_T40 t187 x12_1).f0) from Kd.V_mk ul195_0 ge195_0)
                                          clear hva_ hvn_ hvc_ ge195_0 ul195_0
                                          clear hcc195 hce195
                                          have HR195_0 := Aside0.mk hi195_0
                                          have HC195_0 := Aside0.mk hl195_0
                                          clear hi195_0 hl195_0
                                          replace p195 := eq_true p195
                                          replace q195 := eq_true q195
                                          have ea_ := Option.some.inj (hx193_0.symm.trans hx195_0)
                                          injection ea_ with ea_ en_ ec_
                                          subst ea_
                                          subst ec_
                                          clear en_
                                          have p196 : 0 ≤ (x11_3 : Int) := of_decide_eq_true (by first | (with_reducible assumption) | assumption)
                                          have q196 : x11_3 < (t181.length : Int) := of_decide_eq_true (by first | (with_reducible assumption) | assumption)
                                          obtain ⟨ad196, e196, hx196_0⟩ := Kd.at_int (Kd.R_reads' HO_7.out).2.2 x11_3 p196 q196
                                          cases e196
                                          replace p196 := eq_true p196
                                          replace q196 := eq_true q196
                                          have p197 : 0 ≤ (x12_1 : Int) := of_decide_eq_true (by first | (with_reducible assumption) | assumption)
                                          have q197 : x12_1 < (t187.length : Int) := of_decide_eq_true (by first | (with_reducible assumption) | assumption)
                                          obtain ⟨ad197, A197_0, c197_0, e197, hx197_0, hx197_1, hl197_0, hi197_0⟩ := at_T40 (Kd.N_reads' HO_9.out).2.2 x12_1 p197 q197
                                          obtain rfl : ad192 = ad197 := (by injection e197)
                                          obtain ⟨ce197, hce197, hMe197, hcc197⟩ := Kd.N_get HO_9.out z40 x12_1 p197 (by first | exact q197 | exact of_decide_eq_true (by first | (with_reducible assumption) | assumption) | (have e_ := (Kd.N_reads' HO_9.out).1; omega))
                                          obtain ⟨ua197_0, uc197_0, rfl, ul197_0, ge197_0⟩ := k40_openF hMe197
                                          have hv197_0 := hcc197 0 _ rfl
                                          rw [Nat.add_zero] at hv197_0
                                          replace hv197_0 := Option.some.inj (hv197_0.symm.trans hx197_0)
                                          injection hv197_0 with hva_ hvn_ hvc_
                                          rw [hva_] at ge197_0
                                          rw [hvc_] at ul197_0
                                          have HL197_0 := Aside0.mk (show Kd.V (Kd.int .i64) 3 _ w.heap.size _ _ ((rd_T40 t187 x12_1).f0) from Kd.V_mk ul197_0 ge197_0)
                                          clear hva_ hvn_ hvc_ ge197_0 ul197_0
                                          clear hcc197 hce197
                                          have HR197_0 := Aside0.mk hi197_0
                                          have HC197_0 := Aside0.mk hl197_0
                                          clear hi197_0 hl197_0
                                          replace p197 := eq_true p197
                                          replace q197 := eq_true q197
                                          have ea_ := Option.some.inj (hx193_0.symm.trans hx197_0)
                                          injection ea_ with ea_ en_ ec_
                                          subst ea_
                                          subst ec_
                                          clear en_
                                          have p198 : 0 ≤ (x11_3 : Int) := of_decide_eq_true (by first | (with_reducible assumption) | assumption)
                                          have q198 : x11_3 < (t181.length : Int) := of_decide_eq_true (by first | (with_reducible assumption) | assumption)
                                          obtain ⟨ad198, e198, hx198_0⟩ := Kd.at_int (Kd.R_reads' HO_7.out).2.2 x11_3 p198 q198
                                          obtain rfl : ad196 = ad198 := (by injection e198)
                                          replace p198 := eq_true p198
                                          replace q198 := eq_true q198
                                          have hcz32_0 : wr.cell? ⟨gb186, 0, none⟩ = some (.int .i64 (wrap64 (t184 + 1))) := (blk_cell BK186.out 0).trans rfl
                                          have hcz32_1 : wr.cell? ⟨gb186, 1, none⟩ = some (.int .i64 t185) := (blk_cell BK186.out 1).trans rfl
                                          have hfz32_0 := blk_frozen BK186.out 0
                                          have hfz32_1 := blk_frozen BK186.out 1
                                          go_wp2
                                          repeat (go_quiet (fail); try go_wp2)
                                          go_roundg k3
                                          case measure => have := HK1.out; have := HJ15.out; have := HK3.out; omega
                                          case rel => exact ⟨(wrap64 (x11_3 + 1)), (wrap64 (x14_3 + 1)), (by first | rfl | (simp; done) | (simp [*]; done)), (by first | rfl | (simp; done) | (simp [*]; done)), H', ⟨by have := HK1.out; have := HJ15.out; have := HK3.out; omega⟩, ⟨by (with_reducible repeat (first | apply Kd.R_alloc | apply Kd.R_drewN | apply Kd.R_drew)); exact HO_7.out⟩, ⟨by (with_reducible repeat (first | apply Kd.N_alloc | apply Kd.N_drewN | apply Kd.N_drew)); exact HO_9.out⟩, ⟨by (with_reducible repeat (first | refine blk_drewN ?_ _ | refine blk_drew ?_ | refine blk_alloc ?_ _)); exact BK186.out⟩, ⟨by repeat (first | (with_reducible exact HR192_0.out) | (with_reducible refine Kd.C_alloc ?_ _) | (with_reducible refine Kd.C_drewN ?_ _) | (with_reducible refine Kd.C_drew ?_) | exact HR192_0.out)⟩, ⟨by repeat (first | (with_reducible first | exact HB.out | apply below_alloc | apply pw_below_drewN | apply below_drew1 | refine below_set ?_ GE186.out) | exact HB.out)⟩⟩
                                    · rw [if_neg c28] at H
                                      exact absurd H (by simp)
                                  · rw [if_neg c27] at H
                                    exact absurd H (by simp)
                                · rw [if_neg c26] at H
                                  have c26b0 : ((rd ((rd_T40 t187 x12_1).f0) x14_3) == x11_3) = false := beq_eq_false_iff_ne.mpr c26
                                  have c26b1 : ((rd ((rd_T40 t187 x12_1).f0) x14_3) != x11_3) = true := bne_iff_ne.mpr c26
                                  obtain rfl := Option.some.inj H
                                  have p193 : 0 ≤ (x12_1 : Int) := of_decide_eq_true (by first | (with_reducible assumption) | assumption)
                                  have q193 : x12_1 < (t187.length : Int) := of_decide_eq_true (by first | (with_reducible assumption) | assumption)
                                  obtain ⟨ad193, A193_0, c193_0, e193, hx193_0, hx193_1, hl193_0, hi193_0⟩ := at_T40 (Kd.N_reads' HO_9.out).2.2 x12_1 p193 q193
                                  obtain rfl : ad192 = ad193 := (by injection e193)
                                  obtain ⟨ce193, hce193, hMe193, hcc193⟩ := Kd.N_get HO_9.out z40 x12_1 p193 (by first | exact q193 | exact of_decide_eq_true (by first | (with_reducible assumption) | assumption) | (have e_ := (Kd.N_reads' HO_9.out).1; omega))
                                  obtain ⟨ua193_0, uc193_0, rfl, ul193_0, ge193_0⟩ := k40_openF hMe193
                                  have hv193_0 := hcc193 0 _ rfl
                                  rw [Nat.add_zero] at hv193_0
                                  replace hv193_0 := Option.some.inj (hv193_0.symm.trans hx193_0)
                                  injection hv193_0 with hva_ hvn_ hvc_
                                  rw [hva_] at ge193_0
                                  rw [hvc_] at ul193_0
                                  have HL193_0 := Aside0.mk (show Kd.V (Kd.int .i64) 3 _ w.heap.size _ _ ((rd_T40 t187 x12_1).f0) from Kd.V_mk ul193_0 ge193_0)
                                  clear hva_ hvn_ hvc_ ge193_0 ul193_0
                                  clear hcc193 hce193
                                  have HR193_0 := Aside0.mk hi193_0
                                  have HC193_0 := Aside0.mk hl193_0
                                  clear hi193_0 hl193_0
                                  replace p193 := eq_true p193
                                  replace q193 := eq_true q193
                                  have p194 : 0 ≤ (x14_3 : Int) := of_decide_eq_true (by first | (with_reducible assumption) | assumption)
                                  have q194 : x14_3 < (((rd_T40 t187 x12_1).f0).length : Int) := of_decide_eq_true (by first | (with_reducible assumption) | assumption)
                                  obtain ⟨ad194, e194, hx194_0⟩ := Kd.at_int (by repeat (first | (with_reducible exact HR193_0.out) | (with_reducible refine Kd.C_alloc ?_ _) | (with_reducible refine Kd.C_drewN ?_ _) | (with_reducible refine Kd.C_drew ?_) | exact HR193_0.out)) x14_3 p194 q194
                                  cases e194
                                  replace p194 := eq_true p194
                                  replace q194 := eq_true q194
                                  go_wp2
                                  repeat (go_quiet (fail); try go_wp2)
                                  go_ret
                                  exact ⟨by first | rfl | (simp [errW_none, errW_some] <;> rfl) | (simp [*, errW_none, errW_some] <;> rfl), by repeat (first | (with_reducible first | exact HB.out | apply below_alloc | apply pw_below_drewN | apply below_drew1 | refine below_set ?_ GE186.out) | exact HB.out)⟩
                              · rw [if_neg c25] at H
                                exact absurd H (by simp)
                            · rw [if_neg c24] at H
                              exact absurd H (by simp)
                          · rw [if_neg c23] at H
                            exact absurd H (by simp)
                        · rw [if_neg c22] at H
                          exact absurd H (by simp)
                      · rw [if_neg c21] at H
                        have c21b0 : decide (x14_3 < (((rd_T40 t187 x12_1).f0).length : Int)) = false := decide_eq_false c21
                        clear c21
                        have HC33 := Aside0.mk H
                        clear H
                        go_upto_region 19 with (fail)
                        repeat (go_quiet (fail); go_upto_region 19 with (fail))
                        go_cut [119] (fun v119 wc => ∃ (kq : Nat) (x119_32 : Bool), v119 = .bool x119_32 ∧ Aside0 (abaculuslaw38_BatchEach.j3 kq t181 t187 x11_3 x12_1 (((rd_T40 t187 x12_1).f0).length : Int) x119_32 (wrap64 (t184 + 1)) t185 = some r) ∧ Aside0 (kq ≤ k3) ∧ Aside0 (Kd.R (Kd.int .i64) 3 wc w.heap.size (fun _ => True) (.slice Ao12 t181.length co12) t181) ∧ Aside0 (Kd.N k40 40 wc w.heap.size (fun k_ => some k_ ≠ ((.slice Ao12 t181.length co12) : Value).ownBlock ∧ k_ ≠ gb186) (.slice (some ad192) t187.length co17) t187) ∧ Aside0 (wc.heap[gb186]? = some (.cells #[.int .i64 (wrap64 (t184 + 1)), .int .i64 t185] 26 (0, 0))) ∧ Aside0 (Kd.C (Kd.int .i64) wc A192_0 ((rd_T40 t187 x12_1).f0).length ((rd_T40 t187 x12_1).f0)) ∧ Aside0 (Below w.heap.size w wc))
                        case first =>
                          have H := HC33.out
                          clear HC33
                          by_cases c34 : (((rd_T40 t187 x12_1).f0).length : Int) < (wrap64 (t184 + 1))
                          · rw [if_pos c34] at H
                            have c34b0 : decide ((((rd_T40 t187 x12_1).f0).length : Int) < (wrap64 (t184 + 1))) = true := decide_eq_true c34
                            clear c34
                            (first | rw [c34b0] | (simp only [i64_w, i32_w]; rw [c34b0]) | skip)
                            by_cases c35 : 0 ≤ x12_1
                            · rw [if_pos c35] at H
                              have c35b0 : decide (0 ≤ x12_1) = true := decide_eq_true c35
                              clear c35
                              by_cases c36 : x12_1 < (t187.length : Int)
                              · rw [if_pos c36] at H
                                have c36b0 : decide (x12_1 < (t187.length : Int)) = true := decide_eq_true c36
                                clear c36
                                by_cases c37 : 0 < (((rd_T40 t187 x12_1).f0).length : Int)
                                · rw [if_pos c37] at H
                                  have c37b0 : decide (0 < (((rd_T40 t187 x12_1).f0).length : Int)) = true := decide_eq_true c37
                                  have c37b1 : decide (0 < ((rd_T40 t187 x12_1).f0).length) = true := decide_eq_true (by omega)
                                  clear c37
                                  by_cases c38 : 0 ≤ (rd ((rd_T40 t187 x12_1).f0) 0)
                                  · rw [if_pos c38] at H
                                    have c38b0 : decide (0 ≤ (rd ((rd_T40 t187 x12_1).f0) 0)) = true := decide_eq_true c38
                                    clear c38
                                    by_cases c39 : (rd ((rd_T40 t187 x12_1).f0) 0) < (t181.length : Int)
                                    · rw [if_pos c39] at H
                                      have c39b0 : decide ((rd ((rd_T40 t187 x12_1).f0) 0) < (t181.length : Int)) = true := decide_eq_true c39
                                      clear c39
                                      have H' := Aside0.mk H
                                      clear H
                                      have hcz40_0 : wr.cell? ⟨gb186, 0, none⟩ = some (.int .i64 (wrap64 (t184 + 1))) := (blk_cell BK186.out 0).trans rfl
                                      have hcz40_1 : wr.cell? ⟨gb186, 1, none⟩ = some (.int .i64 t185) := (blk_cell BK186.out 1).trans rfl
                                      have hfz40_0 := blk_frozen BK186.out 0
                                      have hfz40_1 := blk_frozen BK186.out 1
                                      have p199 : 0 ≤ (x12_1 : Int) := of_decide_eq_true (by first | (with_reducible assumption) | assumption)
                                      have q199 : x12_1 < (t187.length : Int) := of_decide_eq_true (by first | (with_reducible assumption) | assumption)
                                      obtain ⟨ad199, A199_0, c199_0, e199, hx199_0, hx199_1, hl199_0, hi199_0⟩ := at_T40 (Kd.N_reads' HO_9.out).2.2 x12_1 p199 q199
                                      obtain rfl : ad192 = ad199 := (by injection e199)
                                      obtain ⟨ce199, hce199, hMe199, hcc199⟩ := Kd.N_get HO_9.out z40 x12_1 p199 (by first | exact q199 | exact of_decide_eq_true (by first | (with_reducible assumption) | assumption) | (have e_ := (Kd.N_reads' HO_9.out).1; omega))
                                      obtain ⟨ua199_0, uc199_0, rfl, ul199_0, ge199_0⟩ := k40_openF hMe199
                                      have hv199_0 := hcc199 0 _ rfl
                                      rw [Nat.add_zero] at hv199_0
                                      replace hv199_0 := Option.some.inj (hv199_0.symm.trans hx199_0)
                                      injection hv199_0 with hva_ hvn_ hvc_
                                      rw [hva_] at ge199_0
                                      rw [hvc_] at ul199_0
                                      have HL199_0 := Aside0.mk (show Kd.V (Kd.int .i64) 3 _ w.heap.size _ _ ((rd_T40 t187 x12_1).f0) from Kd.V_mk ul199_0 ge199_0)
                                      clear hva_ hvn_ hvc_ ge199_0 ul199_0
                                      clear hcc199 hce199
                                      have HR199_0 := Aside0.mk hi199_0
                                      have HC199_0 := Aside0.mk hl199_0
                                      clear hi199_0 hl199_0
                                      replace p199 := eq_true p199
                                      replace q199 := eq_true q199
                                      have p200 : 0 ≤ (x12_1 : Int) := of_decide_eq_true (by first | (with_reducible assumption) | assumption)
                                      have q200 : x12_1 < (t187.length : Int) := of_decide_eq_true (by first | (with_reducible assumption) | assumption)
                                      obtain ⟨ad200, A200_0, c200_0, e200, hx200_0, hx200_1, hl200_0, hi200_0⟩ := at_T40 (Kd.N_reads' HO_9.out).2.2 x12_1 p200 q200
                                      obtain rfl : ad192 = ad200 := (by injection e200)
                                      obtain ⟨ce200, hce200, hMe200, hcc200⟩ := Kd.N_get HO_9.out z40 x12_1 p200 (by first | exact q200 | exact of_decide_eq_true (by first | (with_reducible assumption) | assumption) | (have e_ := (Kd.N_reads' HO_9.out).1; omega))
                                      obtain ⟨ua200_0, uc200_0, rfl, ul200_0, ge200_0⟩ := k40_openF hMe200
                                      have hv200_0 := hcc200 0 _ rfl
                                      rw [Nat.add_zero] at hv200_0
                                      replace hv200_0 := Option.some.inj (hv200_0.symm.trans hx200_0)
                                      injection hv200_0 with hva_ hvn_ hvc_
                                      rw [hva_] at ge200_0
                                      rw [hvc_] at ul200_0
                                      have HL200_0 := Aside0.mk (show Kd.V (Kd.int .i64) 3 _ w.heap.size _ _ ((rd_T40 t187 x12_1).f0) from Kd.V_mk ul200_0 ge200_0)
                                      clear hva_ hvn_ hvc_ ge200_0 ul200_0
                                      clear hcc200 hce200
                                      have HR200_0 := Aside0.mk hi200_0
                                      have HC200_0 := Aside0.mk hl200_0
                                      clear hi200_0 hl200_0
                                      replace p200 := eq_true p200
                                      replace q200 := eq_true q200
                                      have ea_ := Option.some.inj (hx199_0.symm.trans hx200_0)
                                      injection ea_ with ea_ en_ ec_
                                      subst ea_
                                      subst ec_
                                      clear en_
                                      have p201 : 0 ≤ (0 : Int) := (by omega)
                                      have q201 : 0 < (((rd_T40 t187 x12_1).f0).length : Int) := of_decide_eq_true (by first | (with_reducible assumption) | assumption)
                                      obtain ⟨ad201, e201, hx201_0⟩ := Kd.at_int (by repeat (first | (with_reducible exact HR200_0.out) | (with_reducible refine Kd.C_alloc ?_ _) | (with_reducible refine Kd.C_drewN ?_ _) | (with_reducible refine Kd.C_drew ?_) | exact HR200_0.out)) 0 p201 q201
                                      cases e201
                                      have qi201 : (0 < ((rd_T40 t187 x12_1).f0).length) = True := eq_true (by omega)
                                      (try rw [show ((0 : Int)).toNat = 0 from rfl] at hx201_0)
                                      (try rw [Addr.add_zero'] at hx201_0)
                                      replace p201 := eq_true p201
                                      replace q201 := eq_true q201
                                      have p202 : 0 ≤ ((rd ((rd_T40 t187 x12_1).f0) 0) : Int) := of_decide_eq_true (by first | (with_reducible assumption) | assumption)
                                      have q202 : (rd ((rd_T40 t187 x12_1).f0) 0) < (t181.length : Int) := of_decide_eq_true (by first | (with_reducible assumption) | assumption)
                                      obtain ⟨ad202, e202, hx202_0⟩ := Kd.at_int (Kd.R_reads' HO_7.out).2.2 (rd ((rd_T40 t187 x12_1).f0) 0) p202 q202
                                      cases e202
                                      replace p202 := eq_true p202
                                      replace q202 := eq_true q202
                                      go_wp2
                                      repeat (go_quiet (fail); try go_wp2)
                                      go_meet
                                      case rel => exact ⟨_, ((((rd_T40 t187 x12_1).f1) != (wrap64 ((rd t181 (rd ((rd_T40 t187 x12_1).f0) 0)) + t185)))), (by first | rfl | (simp; done) | (simp [*]; done)), H', ⟨by have := HK1.out; have := HJ15.out; have := HK3.out; first | omega | exact Nat.le_refl _⟩, ⟨by (with_reducible repeat (first | apply Kd.R_alloc | apply Kd.R_drewN | apply Kd.R_drew)); exact HO_7.out⟩, ⟨by (with_reducible repeat (first | apply Kd.N_alloc | apply Kd.N_drewN | apply Kd.N_drew)); exact HO_9.out⟩, ⟨by (with_reducible repeat (first | refine blk_drewN ?_ _ | refine blk_drew ?_ | refine blk_alloc ?_ _)); exact BK186.out⟩, ⟨by repeat (first | (with_reducible exact HR192_0.out) | (with_reducible refine Kd.C_alloc ?_ _) | (with_reducible refine Kd.C_drewN ?_ _) | (with_reducible refine Kd.C_drew ?_) | exact HR192_0.out)⟩, ⟨by repeat (first | (with_reducible first | exact HB.out | apply below_alloc | apply pw_below_drewN | apply below_drew1 | refine below_set ?_ GE186.out) | exact HB.out)⟩⟩
                                    · rw [if_neg c39] at H
                                      exact absurd H (by simp)
                                  · rw [if_neg c38] at H
                                    exact absurd H (by simp)
                                · rw [if_neg c37] at H
                                  exact absurd H (by simp)
                              · rw [if_neg c36] at H
                                exact absurd H (by simp)
                            · rw [if_neg c35] at H
                              exact absurd H (by simp)
                          · rw [if_neg c34] at H
                            have c34b0 : decide ((((rd_T40 t187 x12_1).f0).length : Int) < (wrap64 (t184 + 1))) = false := decide_eq_false c34
                            clear c34
                            (first | rw [c34b0] | (simp only [i64_w, i32_w]; rw [c34b0]) | skip)
                            have H' := Aside0.mk H
                            clear H
                            have hcz41_0 : wr.cell? ⟨gb186, 0, none⟩ = some (.int .i64 (wrap64 (t184 + 1))) := (blk_cell BK186.out 0).trans rfl
                            have hcz41_1 : wr.cell? ⟨gb186, 1, none⟩ = some (.int .i64 t185) := (blk_cell BK186.out 1).trans rfl
                            have hfz41_0 := blk_frozen BK186.out 0
                            have hfz41_1 := blk_frozen BK186.out 1
                            go_wp2
                            repeat (go_quiet (fail); try go_wp2)
                            go_meet
                            case rel => exact ⟨_, (false), (by first | rfl | (simp; done) | (simp [*]; done)), H', ⟨by have := HK1.out; have := HJ15.out; have := HK3.out; first | omega | exact Nat.le_refl _⟩, ⟨by (with_reducible repeat (first | apply Kd.R_alloc | apply Kd.R_drewN | apply Kd.R_drew)); exact HO_7.out⟩, ⟨by (with_reducible repeat (first | apply Kd.N_alloc | apply Kd.N_drewN | apply Kd.N_drew)); exact HO_9.out⟩, ⟨by (with_reducible repeat (first | refine blk_drewN ?_ _ | refine blk_drew ?_ | refine blk_alloc ?_ _)); exact BK186.out⟩, ⟨by repeat (first | (with_reducible exact HR192_0.out) | (with_reducible refine Kd.C_alloc ?_ _) | (with_reducible refine Kd.C_drewN ?_ _) | (with_reducible refine Kd.C_drew ?_) | exact HR192_0.out)⟩, ⟨by repeat (first | (with_reducible first | exact HB.out | apply below_alloc | apply pw_below_drewN | apply below_drew1 | refine below_set ?_ GE186.out) | exact HB.out)⟩⟩
                        case rest =>
                          clear HC33
                          try clear c1
                          try clear p1
                          try clear q1
                          try clear hx1
                          try clear c2
                          try clear p2
                          try clear q2
                          try clear hx2
                          try clear qi2
                          try clear c3
                          try clear c5
                          try clear p6
                          try clear c8
                          try clear c8b0
                          try clear c8b1
                          try clear c14
                          try clear c14b0
                          try clear c15
                          try clear c15b0
                          try clear c18
                          try clear c18b0
                          try clear c18b1
                          try clear c19
                          try clear p19
                          try clear q19
                          try clear hx19
                          try clear c20
                          try clear p20
                          try clear q20
                          try clear hx20
                          try clear qi20
                          try clear c21
                          try clear c21b0
                          try clear c22
                          try clear c22b0
                          try clear c23
                          try clear c23b0
                          try clear c24
                          try clear c24b0
                          try clear c25
                          try clear c25b0
                          try clear c26
                          try clear c26b0
                          try clear c26b1
                          try clear c27
                          try clear c27b0
                          try clear c28
                          try clear c28b0
                          try clear c29
                          try clear c29b0
                          try clear c30
                          try clear c30b0
                          try clear c34
                          try clear c34b0
                          try clear c35
                          try clear c35b0
                          try clear c36
                          try clear c36b0
                          try clear c37
                          try clear c37b0
                          try clear c37b1
                          try clear c38
                          try clear c38b0
                          try clear c39
                          try clear c39b0
                          try clear hcz11_0
                          try clear hcz11_1
                          try clear hcz19_0
                          try clear hcz19_1
                          try clear hcz31_0
                          try clear hcz31_1
                          try clear hcz32_0
                          try clear hcz32_1
                          try clear hcz40_0
                          try clear hcz40_1
                          try clear hcz41_0
                          try clear hcz41_1
                          try clear hfz11_0
                          try clear hfz11_1
                          try clear hfz19_0
                          try clear hfz19_1
                          try clear hfz31_0
                          try clear hfz31_1
                          try clear hfz32_0
                          try clear hfz32_1
                          try clear hfz40_0
                          try clear hfz40_1
                          try clear hfz41_0
                          try clear hfz41_1
                          try clear hx192_0
                          try clear hx192_1
                          try clear hx193_0
                          try clear hx193_1
                          try clear hx194_0
                          try clear hx195_0
                          try clear hx195_1
                          try clear hx196_0
                          try clear hx197_0
                          try clear hx197_1
                          try clear hx198_0
                          try clear hx199_0
                          try clear hx199_1
                          try clear hx200_0
                          try clear hx200_1
                          try clear hx201_0
                          try clear hx202_0
                          try clear p1
                          try clear p19
                          try clear p192
                          try clear p193
                          try clear p194
                          try clear p195
                          try clear p196
                          try clear p197
                          try clear p198
                          try clear p199
                          try clear p2
                          try clear p200
                          try clear p201
                          try clear p202
                          try clear p6
                          try clear q1
                          try clear q19
                          try clear q192
                          try clear q193
                          try clear q194
                          try clear q195
                          try clear q196
                          try clear q197
                          try clear q198
                          try clear q199
                          try clear q200
                          try clear q201
                          try clear q202
                          obtain ⟨kq, x119_32, rfl, HA, HJ32, HO_7, HO_9, BK186, HR192_0, HB⟩ := hcut
                          cases kq with
                          | zero => exact absurd HA.out (by simp [abaculuslaw38_BatchEach.j3])
                          | succ kj32 =>
                            have H := HA.out
                            clear HA
                            simp only [abaculuslaw38_BatchEach.j3] at H
                            by_cases c42 : x119_32 = true
                            · subst c42
                              have H1 : (some false) = some r := by rw [if_pos rfl] at H; exact H
                              clear H
                              have H := H1
                              clear H1
                              obtain rfl := Option.some.inj H
                              go_wp2
                              repeat (go_quiet (fail); try go_wp2)
                              go_ret
                              exact ⟨by first | rfl | (simp [errW_none, errW_some] <;> rfl) | (simp [*, errW_none, errW_some] <;> rfl), by repeat (first | (with_reducible first | exact HB.out | apply below_alloc | apply pw_below_drewN | apply below_drew1 | refine below_set ?_ GE186.out) | exact HB.out)⟩
                            · replace c42 := Bool.eq_false_iff.mpr c42
                              subst c42
                              have H1 : (if (((rd_T40 t187 x12_1).f0).length : Int) < (wrap64 (t184 + 1)) then (if x11_3 < (t181.length : Int) then (if 0 ≤ x11_3 then (if 0 ≤ x12_1 then (if x12_1 < (t187.length : Int) then (if (rd t181 x11_3) ≤ ((rd_T40 t187 x12_1).f1) then (some false) else (abaculuslaw38_BatchEach.l0 kj32 t181 t187 x11_3 (wrap64 (x12_1 + 1)) (wrap64 (t184 + 1)) t185)) else (none)) else (none)) else (none)) else (abaculuslaw38_BatchEach.l0 kj32 t181 t187 x11_3 (wrap64 (x12_1 + 1)) (wrap64 (t184 + 1)) t185)) else (abaculuslaw38_BatchEach.l0 kj32 t181 t187 x11_3 (wrap64 (x12_1 + 1)) (wrap64 (t184 + 1)) t185)) = some r := by rw [if_neg (show ¬ (false = true) by decide)] at H; exact H
                              clear H
                              have H := H1
                              clear H1
                              by_cases c43 : (((rd_T40 t187 x12_1).f0).length : Int) < (wrap64 (t184 + 1))
                              · rw [if_pos c43] at H
                                have c43b0 : decide ((((rd_T40 t187 x12_1).f0).length : Int) < (wrap64 (t184 + 1))) = true := decide_eq_true c43
                                clear c43
                                by_cases c44 : x11_3 < (t181.length : Int)
                                · rw [if_pos c44] at H
                                  have c44b0 : decide (x11_3 < (t181.length : Int)) = true := decide_eq_true c44
                                  clear c44
                                  by_cases c45 : 0 ≤ x11_3
                                  · rw [if_pos c45] at H
                                    have c45b0 : decide (0 ≤ x11_3) = true := decide_eq_true c45
                                    clear c45
                                    by_cases c46 : 0 ≤ x12_1
                                    · rw [if_pos c46] at H
                                      have c46b0 : decide (0 ≤ x12_1) = true := decide_eq_true c46
                                      clear c46
                                      by_cases c47 : x12_1 < (t187.length : Int)
                                      · rw [if_pos c47] at H
                                        have c47b0 : decide (x12_1 < (t187.length : Int)) = true := decide_eq_true c47
                                        clear c47
                                        by_cases c48 : (rd t181 x11_3) ≤ ((rd_T40 t187 x12_1).f1)
                                        · rw [if_pos c48] at H
                                          have c48b0 : decide ((rd t181 x11_3) ≤ ((rd_T40 t187 x12_1).f1)) = true := decide_eq_true c48
                                          clear c48
                                          obtain rfl := Option.some.inj H
                                          have hcz49_0 : wc.cell? ⟨gb186, 0, none⟩ = some (.int .i64 (wrap64 (t184 + 1))) := (blk_cell BK186.out 0).trans rfl
                                          have hcz49_1 : wc.cell? ⟨gb186, 1, none⟩ = some (.int .i64 t185) := (blk_cell BK186.out 1).trans rfl
                                          have hfz49_0 := blk_frozen BK186.out 0
                                          have hfz49_1 := blk_frozen BK186.out 1
                                          have p203 : 0 ≤ (x11_3 : Int) := of_decide_eq_true (by first | (with_reducible assumption) | assumption)
                                          have q203 : x11_3 < (t181.length : Int) := of_decide_eq_true (by first | (with_reducible assumption) | assumption)
                                          obtain ⟨ad203, e203, hx203_0⟩ := Kd.at_int (Kd.R_reads' HO_7.out).2.2 x11_3 p203 q203
                                          cases e203
                                          replace p203 := eq_true p203
                                          replace q203 := eq_true q203
                                          have p204 : 0 ≤ (x12_1 : Int) := of_decide_eq_true (by first | (with_reducible assumption) | assumption)
                                          have q204 : x12_1 < (t187.length : Int) := of_decide_eq_true (by first | (with_reducible assumption) | assumption)
                                          obtain ⟨ad204, A204_0, c204_0, e204, hx204_0, hx204_1, hl204_0, hi204_0⟩ := at_T40 (Kd.N_reads' HO_9.out).2.2 x12_1 p204 q204
                                          obtain rfl : ad192 = ad204 := (by injection e204)
                                          obtain ⟨ce204, hce204, hMe204, hcc204⟩ := Kd.N_get HO_9.out z40 x12_1 p204 (by first | exact q204 | exact of_decide_eq_true (by first | (with_reducible assumption) | assumption) | (have e_ := (Kd.N_reads' HO_9.out).1; omega))
                                          obtain ⟨ua204_0, uc204_0, rfl, ul204_0, ge204_0⟩ := k40_openF hMe204
                                          have hv204_0 := hcc204 0 _ rfl
                                          rw [Nat.add_zero] at hv204_0
                                          replace hv204_0 := Option.some.inj (hv204_0.symm.trans hx204_0)
                                          injection hv204_0 with hva_ hvn_ hvc_
                                          rw [hva_] at ge204_0
                                          rw [hvc_] at ul204_0
                                          have HL204_0 := Aside0.mk (show Kd.V (Kd.int .i64) 3 _ w.heap.size _ _ ((rd_T40 t187 x12_1).f0) from Kd.V_mk ul204_0 ge204_0)
                                          clear hva_ hvn_ hvc_ ge204_0 ul204_0
                                          clear hcc204 hce204
                                          have HR204_0 := Aside0.mk hi204_0
                                          have HC204_0 := Aside0.mk hl204_0
                                          clear hi204_0 hl204_0
                                          replace p204 := eq_true p204
                                          replace q204 := eq_true q204
                                          go_wp2
                                          repeat (go_quiet (fail); try go_wp2)
                                          go_ret
                                          exact ⟨by first | rfl | (simp [errW_none, errW_some] <;> rfl) | (simp [*, errW_none, errW_some] <;> rfl), by repeat (first | (with_reducible first | exact HB.out | apply below_alloc | apply pw_below_drewN | apply below_drew1 | refine below_set ?_ GE186.out) | exact HB.out)⟩
                                        · rw [if_neg c48] at H
                                          have c48b0 : decide ((rd t181 x11_3) ≤ ((rd_T40 t187 x12_1).f1)) = false := decide_eq_false c48
                                          clear c48
                                          have H' := Aside0.mk H
                                          clear H
                                          have hcz50_0 : wc.cell? ⟨gb186, 0, none⟩ = some (.int .i64 (wrap64 (t184 + 1))) := (blk_cell BK186.out 0).trans rfl
                                          have hcz50_1 : wc.cell? ⟨gb186, 1, none⟩ = some (.int .i64 t185) := (blk_cell BK186.out 1).trans rfl
                                          have hfz50_0 := blk_frozen BK186.out 0
                                          have hfz50_1 := blk_frozen BK186.out 1
                                          have p203 : 0 ≤ (x11_3 : Int) := of_decide_eq_true (by first | (with_reducible assumption) | assumption)
                                          have q203 : x11_3 < (t181.length : Int) := of_decide_eq_true (by first | (with_reducible assumption) | assumption)
                                          obtain ⟨ad203, e203, hx203_0⟩ := Kd.at_int (Kd.R_reads' HO_7.out).2.2 x11_3 p203 q203
                                          cases e203
                                          replace p203 := eq_true p203
                                          replace q203 := eq_true q203
                                          have p204 : 0 ≤ (x12_1 : Int) := of_decide_eq_true (by first | (with_reducible assumption) | assumption)
                                          have q204 : x12_1 < (t187.length : Int) := of_decide_eq_true (by first | (with_reducible assumption) | assumption)
                                          obtain ⟨ad204, A204_0, c204_0, e204, hx204_0, hx204_1, hl204_0, hi204_0⟩ := at_T40 (Kd.N_reads' HO_9.out).2.2 x12_1 p204 q204
                                          obtain rfl : ad192 = ad204 := (by injection e204)
                                          obtain ⟨ce204, hce204, hMe204, hcc204⟩ := Kd.N_get HO_9.out z40 x12_1 p204 (by first | exact q204 | exact of_decide_eq_true (by first | (with_reducible assumption) | assumption) | (have e_ := (Kd.N_reads' HO_9.out).1; omega))
                                          obtain ⟨ua204_0, uc204_0, rfl, ul204_0, ge204_0⟩ := k40_openF hMe204
                                          have hv204_0 := hcc204 0 _ rfl
                                          rw [Nat.add_zero] at hv204_0
                                          replace hv204_0 := Option.some.inj (hv204_0.symm.trans hx204_0)
                                          injection hv204_0 with hva_ hvn_ hvc_
                                          rw [hva_] at ge204_0
                                          rw [hvc_] at ul204_0
                                          have HL204_0 := Aside0.mk (show Kd.V (Kd.int .i64) 3 _ w.heap.size _ _ ((rd_T40 t187 x12_1).f0) from Kd.V_mk ul204_0 ge204_0)
                                          clear hva_ hvn_ hvc_ ge204_0 ul204_0
                                          clear hcc204 hce204
                                          have HR204_0 := Aside0.mk hi204_0
                                          have HC204_0 := Aside0.mk hl204_0
                                          clear hi204_0 hl204_0
                                          replace p204 := eq_true p204
                                          replace q204 := eq_true q204
                                          go_wp2
                                          repeat (go_quiet (fail); try go_wp2)
                                          go_roundg kj32
                                          case measure => have := HK1.out; have := HJ15.out; have := HK3.out; have := HJ32.out; omega
                                          case rel => exact ⟨(x11_3), (wrap64 (x12_1 + 1)), (by first | rfl | (simp; done) | (simp [*]; done)), (by first | rfl | (simp; done) | (simp [*]; done)), H', ⟨by have := HK1.out; have := HJ15.out; have := HK3.out; have := HJ32.out; omega⟩, ⟨by (with_reducible repeat (first | apply Kd.R_alloc | apply Kd.R_drewN | apply Kd.R_drew)); exact HO_7.out⟩, ⟨by (with_reducible repeat (first | apply Kd.N_alloc | apply Kd.N_drewN | apply Kd.N_drew)); exact HO_9.out⟩, ⟨by (with_reducible repeat (first | refine blk_drewN ?_ _ | refine blk_drew ?_ | refine blk_alloc ?_ _)); exact BK186.out⟩, ⟨by repeat (first | (with_reducible first | exact HB.out | apply below_alloc | apply pw_below_drewN | apply below_drew1 | refine below_set ?_ GE186.out) | exact HB.out)⟩⟩
                                      · rw [if_neg c47] at H
                                        exact absurd H (by simp)
                                    · rw [if_neg c46] at H
                                      exact absurd H (by simp)
                                  · rw [if_neg c45] at H
                                    exact absurd H (by simp)
                                · rw [if_neg c44] at H
                                  have c44b0 : decide (x11_3 < (t181.length : Int)) = false := decide_eq_false c44
                                  clear c44
                                  have H' := Aside0.mk H
                                  clear H
                                  have hcz51_0 : wc.cell? ⟨gb186, 0, none⟩ = some (.int .i64 (wrap64 (t184 + 1))) := (blk_cell BK186.out 0).trans rfl
                                  have hcz51_1 : wc.cell? ⟨gb186, 1, none⟩ = some (.int .i64 t185) := (blk_cell BK186.out 1).trans rfl
                                  have hfz51_0 := blk_frozen BK186.out 0
                                  have hfz51_1 := blk_frozen BK186.out 1
                                  go_wp2
                                  repeat (go_quiet (fail); try go_wp2)
                                  go_roundg kj32
                                  case measure => have := HK1.out; have := HJ15.out; have := HK3.out; have := HJ32.out; omega
                                  case rel => exact ⟨(x11_3), (wrap64 (x12_1 + 1)), (by first | rfl | (simp; done) | (simp [*]; done)), (by first | rfl | (simp; done) | (simp [*]; done)), H', ⟨by have := HK1.out; have := HJ15.out; have := HK3.out; have := HJ32.out; omega⟩, ⟨by (with_reducible repeat (first | apply Kd.R_alloc | apply Kd.R_drewN | apply Kd.R_drew)); exact HO_7.out⟩, ⟨by (with_reducible repeat (first | apply Kd.N_alloc | apply Kd.N_drewN | apply Kd.N_drew)); exact HO_9.out⟩, ⟨by (with_reducible repeat (first | refine blk_drewN ?_ _ | refine blk_drew ?_ | refine blk_alloc ?_ _)); exact BK186.out⟩, ⟨by repeat (first | (with_reducible first | exact HB.out | apply below_alloc | apply pw_below_drewN | apply below_drew1 | refine below_set ?_ GE186.out) | exact HB.out)⟩⟩
                              · rw [if_neg c43] at H
                                have c43b0 : decide ((((rd_T40 t187 x12_1).f0).length : Int) < (wrap64 (t184 + 1))) = false := decide_eq_false c43
                                clear c43
                                have H' := Aside0.mk H
                                clear H
                                have hcz52_0 : wc.cell? ⟨gb186, 0, none⟩ = some (.int .i64 (wrap64 (t184 + 1))) := (blk_cell BK186.out 0).trans rfl
                                have hcz52_1 : wc.cell? ⟨gb186, 1, none⟩ = some (.int .i64 t185) := (blk_cell BK186.out 1).trans rfl
                                have hfz52_0 := blk_frozen BK186.out 0
                                have hfz52_1 := blk_frozen BK186.out 1
                                go_wp2
                                repeat (go_quiet (fail); try go_wp2)
                                go_roundg kj32
                                case measure => have := HK1.out; have := HJ15.out; have := HK3.out; have := HJ32.out; omega
                                case rel => exact ⟨(x11_3), (wrap64 (x12_1 + 1)), (by first | rfl | (simp; done) | (simp [*]; done)), (by first | rfl | (simp; done) | (simp [*]; done)), H', ⟨by have := HK1.out; have := HJ15.out; have := HK3.out; have := HJ32.out; omega⟩, ⟨by (with_reducible repeat (first | apply Kd.R_alloc | apply Kd.R_drewN | apply Kd.R_drew)); exact HO_7.out⟩, ⟨by (with_reducible repeat (first | apply Kd.N_alloc | apply Kd.N_drewN | apply Kd.N_drew)); exact HO_9.out⟩, ⟨by (with_reducible repeat (first | refine blk_drewN ?_ _ | refine blk_drew ?_ | refine blk_alloc ?_ _)); exact BK186.out⟩, ⟨by repeat (first | (with_reducible first | exact HB.out | apply below_alloc | apply pw_below_drewN | apply below_drew1 | refine below_set ?_ GE186.out) | exact HB.out)⟩⟩
          · rw [if_neg c15] at H
            exact absurd H (by simp)
        · rw [if_neg c14] at H
          have c14b0 : decide (x12_1 < (t187.length : Int)) = false := decide_eq_false c14
          clear c14
          replace H := Option.bind_eq_some_iff.mp H
          obtain ⟨t191, A530, H⟩ := H
          replace H : (if t191 = true then (some (x11_1 == (t181.length : Int))) else (some false)) = some r := H
          have A53 := Aside0.mk A530
          clear A530
          by_cases c54 : t191 = true
          · subst c54
            have H1 : (some (x11_1 == (t181.length : Int))) = some r := by rw [if_pos rfl] at H; exact H
            clear H
            have H := H1
            clear H1
            obtain rfl := Option.some.inj H
            obtain ⟨Ao55, co55, eo55⟩ := Kd.N_slice HO_9.out
            subst eo55
            go_wp2_with (first | (go_at_call 11; (with_reducible refine (abaculuslaw38_known.calls k1  true _ A53.out).mono ?_); rintro e w56 ⟨rfl, hb⟩; have n0_ := Aside0.mk (Kd.R_below (by (with_reducible repeat (first | apply Kd.R_alloc | apply Kd.R_drewN | apply Kd.R_drew)); exact HO_7.out) hb); have n1_ := Aside0.mk (Kd.N_below (by (with_reducible repeat (first | apply Kd.N_alloc | apply Kd.N_drewN | apply Kd.N_drew)); exact HO_9.out) hb); have n2_ := Aside0.mk (blk_below (g := gb186) (o := .cells #[.int .i64 (wrap64 (t184 + 1)), .int .i64 t185] 26 (0, 0)) (by (with_reducible repeat (first | refine blk_drewN ?_ _ | refine blk_drew ?_ | refine blk_alloc ?_ _)); exact BK186.out) hb); have n3_ := Aside0.mk (below_step (by repeat (first | (with_reducible first | exact HB.out | apply below_alloc | apply pw_below_drewN | apply below_drew1 | refine below_set ?_ GE186.out) | exact HB.out)) hb); clear HO_7; clear HO_9; clear BK186; clear HB; have HO_7 := n0_; have HO_9 := n1_; have BK186 := n2_; have HB := n3_; clear n0_ n1_ n2_ n3_; (try clear hb); (try clear hb2); (try clear hk); (try clear hi)))
            repeat (go_quiet (first | (go_at_call 11; (with_reducible refine (abaculuslaw38_known.calls k1  true _ A53.out).mono ?_); rintro e w56 ⟨rfl, hb⟩; have n0_ := Aside0.mk (Kd.R_below (by (with_reducible repeat (first | apply Kd.R_alloc | apply Kd.R_drewN | apply Kd.R_drew)); exact HO_7.out) hb); have n1_ := Aside0.mk (Kd.N_below (by (with_reducible repeat (first | apply Kd.N_alloc | apply Kd.N_drewN | apply Kd.N_drew)); exact HO_9.out) hb); have n2_ := Aside0.mk (blk_below (g := gb186) (o := .cells #[.int .i64 (wrap64 (t184 + 1)), .int .i64 t185] 26 (0, 0)) (by (with_reducible repeat (first | refine blk_drewN ?_ _ | refine blk_drew ?_ | refine blk_alloc ?_ _)); exact BK186.out) hb); have n3_ := Aside0.mk (below_step (by repeat (first | (with_reducible first | exact HB.out | apply below_alloc | apply pw_below_drewN | apply below_drew1 | refine below_set ?_ GE186.out) | exact HB.out)) hb); clear HO_7; clear HO_9; clear BK186; clear HB; have HO_7 := n0_; have HO_9 := n1_; have BK186 := n2_; have HB := n3_; clear n0_ n1_ n2_ n3_; (try clear hb); (try clear hb2); (try clear hk); (try clear hi))); try go_wp2_with (first | (go_at_call 11; (with_reducible refine (abaculuslaw38_known.calls k1  true _ A53.out).mono ?_); rintro e w56 ⟨rfl, hb⟩; have n0_ := Aside0.mk (Kd.R_below (by (with_reducible repeat (first | apply Kd.R_alloc | apply Kd.R_drewN | apply Kd.R_drew)); exact HO_7.out) hb); have n1_ := Aside0.mk (Kd.N_below (by (with_reducible repeat (first | apply Kd.N_alloc | apply Kd.N_drewN | apply Kd.N_drew)); exact HO_9.out) hb); have n2_ := Aside0.mk (blk_below (g := gb186) (o := .cells #[.int .i64 (wrap64 (t184 + 1)), .int .i64 t185] 26 (0, 0)) (by (with_reducible repeat (first | refine blk_drewN ?_ _ | refine blk_drew ?_ | refine blk_alloc ?_ _)); exact BK186.out) hb); have n3_ := Aside0.mk (below_step (by repeat (first | (with_reducible first | exact HB.out | apply below_alloc | apply pw_below_drewN | apply below_drew1 | refine below_set ?_ GE186.out) | exact HB.out)) hb); clear HO_7; clear HO_9; clear BK186; clear HB; have HO_7 := n0_; have HO_9 := n1_; have BK186 := n2_; have HB := n3_; clear n0_ n1_ n2_ n3_; (try clear hb); (try clear hb2); (try clear hk); (try clear hi))))
            go_ret
            exact ⟨by first | rfl | (simp [errW_none, errW_some] <;> rfl) | (simp [*, errW_none, errW_some] <;> rfl), by repeat (first | (with_reducible first | exact HB.out | apply below_alloc | apply pw_below_drewN | apply below_drew1 | refine below_set ?_ GE186.out) | exact HB.out)⟩
          · replace c54 := Bool.eq_false_iff.mpr c54
            subst c54
            have H1 : (some false) = some r := by rw [if_neg (show ¬ (false = true) by decide)] at H; exact H
            clear H
            have H := H1
            clear H1
            obtain rfl := Option.some.inj H
            obtain ⟨Ao57, co57, eo57⟩ := Kd.N_slice HO_9.out
            subst eo57
            go_wp2_with (first | (go_at_call 11; (with_reducible refine (abaculuslaw38_known.calls k1  false _ A53.out).mono ?_); rintro e w58 ⟨rfl, hb⟩; have n0_ := Aside0.mk (Kd.R_below (by (with_reducible repeat (first | apply Kd.R_alloc | apply Kd.R_drewN | apply Kd.R_drew)); exact HO_7.out) hb); have n1_ := Aside0.mk (Kd.N_below (by (with_reducible repeat (first | apply Kd.N_alloc | apply Kd.N_drewN | apply Kd.N_drew)); exact HO_9.out) hb); have n2_ := Aside0.mk (blk_below (g := gb186) (o := .cells #[.int .i64 (wrap64 (t184 + 1)), .int .i64 t185] 26 (0, 0)) (by (with_reducible repeat (first | refine blk_drewN ?_ _ | refine blk_drew ?_ | refine blk_alloc ?_ _)); exact BK186.out) hb); have n3_ := Aside0.mk (below_step (by repeat (first | (with_reducible first | exact HB.out | apply below_alloc | apply pw_below_drewN | apply below_drew1 | refine below_set ?_ GE186.out) | exact HB.out)) hb); clear HO_7; clear HO_9; clear BK186; clear HB; have HO_7 := n0_; have HO_9 := n1_; have BK186 := n2_; have HB := n3_; clear n0_ n1_ n2_ n3_; (try clear hb); (try clear hb2); (try clear hk); (try clear hi)))
            repeat (go_quiet (first | (go_at_call 11; (with_reducible refine (abaculuslaw38_known.calls k1  false _ A53.out).mono ?_); rintro e w58 ⟨rfl, hb⟩; have n0_ := Aside0.mk (Kd.R_below (by (with_reducible repeat (first | apply Kd.R_alloc | apply Kd.R_drewN | apply Kd.R_drew)); exact HO_7.out) hb); have n1_ := Aside0.mk (Kd.N_below (by (with_reducible repeat (first | apply Kd.N_alloc | apply Kd.N_drewN | apply Kd.N_drew)); exact HO_9.out) hb); have n2_ := Aside0.mk (blk_below (g := gb186) (o := .cells #[.int .i64 (wrap64 (t184 + 1)), .int .i64 t185] 26 (0, 0)) (by (with_reducible repeat (first | refine blk_drewN ?_ _ | refine blk_drew ?_ | refine blk_alloc ?_ _)); exact BK186.out) hb); have n3_ := Aside0.mk (below_step (by repeat (first | (with_reducible first | exact HB.out | apply below_alloc | apply pw_below_drewN | apply below_drew1 | refine below_set ?_ GE186.out) | exact HB.out)) hb); clear HO_7; clear HO_9; clear BK186; clear HB; have HO_7 := n0_; have HO_9 := n1_; have BK186 := n2_; have HB := n3_; clear n0_ n1_ n2_ n3_; (try clear hb); (try clear hb2); (try clear hk); (try clear hi))); try go_wp2_with (first | (go_at_call 11; (with_reducible refine (abaculuslaw38_known.calls k1  false _ A53.out).mono ?_); rintro e w58 ⟨rfl, hb⟩; have n0_ := Aside0.mk (Kd.R_below (by (with_reducible repeat (first | apply Kd.R_alloc | apply Kd.R_drewN | apply Kd.R_drew)); exact HO_7.out) hb); have n1_ := Aside0.mk (Kd.N_below (by (with_reducible repeat (first | apply Kd.N_alloc | apply Kd.N_drewN | apply Kd.N_drew)); exact HO_9.out) hb); have n2_ := Aside0.mk (blk_below (g := gb186) (o := .cells #[.int .i64 (wrap64 (t184 + 1)), .int .i64 t185] 26 (0, 0)) (by (with_reducible repeat (first | refine blk_drewN ?_ _ | refine blk_drew ?_ | refine blk_alloc ?_ _)); exact BK186.out) hb); have n3_ := Aside0.mk (below_step (by repeat (first | (with_reducible first | exact HB.out | apply below_alloc | apply pw_below_drewN | apply below_drew1 | refine below_set ?_ GE186.out) | exact HB.out)) hb); clear HO_7; clear HO_9; clear BK186; clear HB; have HO_7 := n0_; have HO_9 := n1_; have BK186 := n2_; have HB := n3_; clear n0_ n1_ n2_ n3_; (try clear hb); (try clear hb2); (try clear hk); (try clear hi))))
            go_ret
            exact ⟨by first | rfl | (simp [errW_none, errW_some] <;> rfl) | (simp [*, errW_none, errW_some] <;> rfl), by repeat (first | (with_reducible first | exact HB.out | apply below_alloc | apply pw_below_drewN | apply below_drew1 | refine below_set ?_ GE186.out) | exact HB.out)⟩
  · rw [if_neg c8] at H
    have c8b0 : (t190 == 0) = false := beq_eq_false_iff_ne.mpr c8
    have c8b1 : (t190 != 0) = true := bne_iff_ne.mpr c8
    obtain rfl := Option.some.inj H
    go_enter Try.func5, Try.ntmps5
    go_wp2_with (first | (go_at_call 7; (with_reducible refine (abaculuslaw38_times.calls k _ _ l0 7 t181 _ ?side1 ?side2 A4.out).mono ?_); (case side1 => repeat (first | exact HR0.out | (with_reducible refine Kd.C_alloc ?_ _) | (with_reducible refine Kd.C_drewN ?_ _) | (with_reducible refine Kd.C_drew ?_))); (case side2 => exact HC0.out); rintro e w59 ⟨v182, rfl, ho0, hb⟩; have n0_ := Aside0.mk (Kd.R_lower ho0 (below_size (by repeat (first | (with_reducible first | exact HB.out | apply below_alloc | apply pw_below_drewN | apply below_drew1) | exact HB.out)))); have n1_ := Aside0.mk (below_step (by repeat (first | (with_reducible first | exact HB.out | apply below_alloc | apply pw_below_drewN | apply below_drew1) | exact HB.out)) hb); clear HB; have HO183 := n0_; have HB := n1_; clear n0_ n1_; (try clear hb); (try clear hb2); (try clear hk); (try clear hi); (try clear ho0)) | (go_at_call 8; (with_reducible refine (abaculushand_Pick.calls a1 5 t184 _ A5.out).mono ?_); rintro e w' ⟨rfl, ⟨nd, rfl⟩⟩; (try first | exact ⟨rfl, _, World.drewN_drewN _ _ _⟩ | exact ⟨rfl, _, Eq.trans (World.drewN_drewN _ _ _) (congrArg (World.drewN _) (Nat.add_assoc _ _ _))⟩)) | (go_at_call 8; (with_reducible refine (abaculushand_Pick.calls a2 9 t185 _ A6.out).mono ?_); rintro e w' ⟨rfl, ⟨nd, rfl⟩⟩; (try first | exact ⟨rfl, _, World.drewN_drewN _ _ _⟩ | exact ⟨rfl, _, Eq.trans (World.drewN_drewN _ _ _) (congrArg (World.drewN _) (Nat.add_assoc _ _ _))⟩)) | ((with_reducible refine gate_dst (N := 8) rfl ?_); (try (refine gate_guard (by rfl) ?_; dsimp only)); refine box_event ?hg (N := 8) ?hd (cs := #[.int .i64 0, .int .i64 0]) (t := 26) ?hr ?_; (case hd => rfl); (case hg => rfl); (case hr => first | (go_simp; done) | (go_simp; rfl)); intro gb186 hg w60 hbox hb; have n0_ := Aside0.mk (Kd.R_below (by (with_reducible repeat (first | apply Kd.R_alloc | apply Kd.R_drewN | apply Kd.R_drew)); exact HO183.out) hb); have n1_ := Aside0.mk (below_step (by repeat (first | (with_reducible first | exact HB.out | apply below_alloc | apply pw_below_drewN | apply below_drew1) | exact HB.out)) hb); have n2_ := Aside0.mk (hbox); have n3_ := Aside0.mk ((by rw [hg]; exact (below_size (by repeat (first | (with_reducible first | exact HB.out | apply below_alloc | apply pw_below_drewN | apply below_drew1) | exact HB.out))) : w.heap.size ≤ gb186)); have n4_ := Aside0.mk ((by rw [hg]; exact (below_size (by repeat (first | (with_reducible first | exact HB.out | apply below_alloc | apply pw_below_drewN | apply below_drew1) | exact HB.out))) : w.heap.size ≤ gb186)); clear HO183; clear HB; have HO183 := n0_; have HB := n1_; have BK186 := n2_; have GW186 := n3_; have GE186 := n4_; clear n0_ n1_ n2_ n3_ n4_; clear hb hbox hg; have hcz61_0 : w60.cell? ⟨gb186, 0, none⟩ = some (.int .i64 0) := (blk_cell BK186.out 0).trans rfl; have hcz61_1 : w60.cell? ⟨gb186, 1, none⟩ = some (.int .i64 0) := (blk_cell BK186.out 1).trans rfl; have hfz61_0 := blk_frozen BK186.out 0; have hfz61_1 := blk_frozen BK186.out 1; obtain ⟨Ao62, co62, eo62⟩ := Kd.R_slice HO183.out; subst eo62) | (go_at_call 9; (with_reducible refine (batch_Form.calls k _ _ t181 (wrap64 (t184 + 1)) t185 t187 t190 _ ?side1 ?side2 A7.out).mono ?_); (case side1 => refine (Kd.R_reads' (e := 3) (base := w.heap.size) (ok := fun k_ => True) (n := t181.length) (c := co62) ?_).2.2; exact (by (with_reducible repeat (first | apply Kd.R_alloc | apply Kd.R_drewN | apply Kd.R_drew)); exact (Kd.R_mono (Kd.R_far (p := ⟨gb186, 1, none⟩) (Kd.R_far (p := ⟨gb186, 0, none⟩) (Kd.R_types HO183.out BK186.out (by decide)) (fun _ hk => hk.2) (.int .i64 (wrap64 (t184 + 1)))) (fun _ hk => hk.2) (.int .i64 t185)) (fun _ h_ => h_.1)))); (case side2 => exact (Kd.R_reads' HO183.out).2.1); rintro e w63 ⟨v188, rfl, ho0, hb⟩; have n0_ := Aside0.mk (Kd.R_below (by (with_reducible repeat (first | apply Kd.R_alloc | apply Kd.R_drewN | apply Kd.R_drew)); exact (Kd.R_mono (Kd.R_far (p := ⟨gb186, 1, none⟩) (Kd.R_far (p := ⟨gb186, 0, none⟩) (Kd.R_types HO183.out BK186.out (by decide)) (fun _ hk => hk.2) (.int .i64 (wrap64 (t184 + 1)))) (fun _ hk => hk.2) (.int .i64 t185)) (fun _ h_ => h_.1))) hb); have n1_ := Aside0.mk (Kd.N_lower (Kd.N_mono (ok' := fun k_ => some k_ ≠ (.slice Ao62 t181.length co62 : Value).ownBlock ∧ k_ ≠ gb186) ho0 (fun k_ hk_ => ⟨(Kd.fresh' (Kd.R_lt (by (with_reducible repeat (first | apply Kd.R_alloc | apply Kd.R_drewN | apply Kd.R_drew)); exact (Kd.R_mono (Kd.R_far (p := ⟨gb186, 1, none⟩) (Kd.R_far (p := ⟨gb186, 0, none⟩) (Kd.R_types HO183.out BK186.out (by decide)) (fun _ hk => hk.2) (.int .i64 (wrap64 (t184 + 1)))) (fun _ hk => hk.2) (.int .i64 t185)) (fun _ h_ => h_.1)))) k_ hk_), (Kd.freshB (g := gb186) (o := .cells #[.int .i64 (wrap64 (t184 + 1)), .int .i64 t185] 26 (0, 0)) (by (with_reducible repeat (first | refine blk_drewN ?_ _ | refine blk_drew ?_ | refine blk_alloc ?_ _)); refine blk_put (cs := #[.int .i64 (wrap64 (t184 + 1)), .int .i64 0]) ?_ 1 _ rfl; (with_reducible repeat (first | refine blk_drewN ?_ _ | refine blk_drew ?_ | refine blk_alloc ?_ _)); refine blk_put (cs := #[.int .i64 0, .int .i64 0]) ?_ 0 _ rfl; (with_reducible repeat (first | refine blk_drewN ?_ _ | refine blk_drew ?_ | refine blk_alloc ?_ _)); exact BK186.out) k_ hk_)⟩)) (below_size (by repeat (first | (with_reducible first | exact HB.out | apply below_alloc | apply pw_below_drewN | apply below_drew1 | refine below_set ?_ GE186.out) | exact HB.out)))); have n2_ := Aside0.mk (blk_below (g := gb186) (o := .cells #[.int .i64 (wrap64 (t184 + 1)), .int .i64 t185] 26 (0, 0)) (by (with_reducible repeat (first | refine blk_drewN ?_ _ | refine blk_drew ?_ | refine blk_alloc ?_ _)); refine blk_put (cs := #[.int .i64 (wrap64 (t184 + 1)), .int .i64 0]) ?_ 1 _ rfl; (with_reducible repeat (first | refine blk_drewN ?_ _ | refine blk_drew ?_ | refine blk_alloc ?_ _)); refine blk_put (cs := #[.int .i64 0, .int .i64 0]) ?_ 0 _ rfl; (with_reducible repeat (first | refine blk_drewN ?_ _ | refine blk_drew ?_ | refine blk_alloc ?_ _)); exact BK186.out) hb); have n3_ := Aside0.mk (below_step (by repeat (first | (with_reducible first | exact HB.out | apply below_alloc | apply pw_below_drewN | apply below_drew1 | refine below_set ?_ GE186.out) | exact HB.out)) hb); clear HO183; clear BK186; clear HB; have HO183 := n0_; have HO189 := n1_; have BK186 := n2_; have HB := n3_; clear n0_ n1_ n2_ n3_; (try clear hb); (try clear hb2); (try clear hk); (try clear hi); (try clear ho0)))
    repeat (go_quiet (first | (go_at_call 7; (with_reducible refine (abaculuslaw38_times.calls k _ _ l0 7 t181 _ ?side1 ?side2 A4.out).mono ?_); (case side1 => repeat (first | exact HR0.out | (with_reducible refine Kd.C_alloc ?_ _) | (with_reducible refine Kd.C_drewN ?_ _) | (with_reducible refine Kd.C_drew ?_))); (case side2 => exact HC0.out); rintro e w59 ⟨v182, rfl, ho0, hb⟩; have n0_ := Aside0.mk (Kd.R_lower ho0 (below_size (by repeat (first | (with_reducible first | exact HB.out | apply below_alloc | apply pw_below_drewN | apply below_drew1) | exact HB.out)))); have n1_ := Aside0.mk (below_step (by repeat (first | (with_reducible first | exact HB.out | apply below_alloc | apply pw_below_drewN | apply below_drew1) | exact HB.out)) hb); clear HB; have HO183 := n0_; have HB := n1_; clear n0_ n1_; (try clear hb); (try clear hb2); (try clear hk); (try clear hi); (try clear ho0)) | (go_at_call 8; (with_reducible refine (abaculushand_Pick.calls a1 5 t184 _ A5.out).mono ?_); rintro e w' ⟨rfl, ⟨nd, rfl⟩⟩; (try first | exact ⟨rfl, _, World.drewN_drewN _ _ _⟩ | exact ⟨rfl, _, Eq.trans (World.drewN_drewN _ _ _) (congrArg (World.drewN _) (Nat.add_assoc _ _ _))⟩)) | (go_at_call 8; (with_reducible refine (abaculushand_Pick.calls a2 9 t185 _ A6.out).mono ?_); rintro e w' ⟨rfl, ⟨nd, rfl⟩⟩; (try first | exact ⟨rfl, _, World.drewN_drewN _ _ _⟩ | exact ⟨rfl, _, Eq.trans (World.drewN_drewN _ _ _) (congrArg (World.drewN _) (Nat.add_assoc _ _ _))⟩)) | ((with_reducible refine gate_dst (N := 8) rfl ?_); (try (refine gate_guard (by rfl) ?_; dsimp only)); refine box_event ?hg (N := 8) ?hd (cs := #[.int .i64 0, .int .i64 0]) (t := 26) ?hr ?_; (case hd => rfl); (case hg => rfl); (case hr => first | (go_simp; done) | (go_simp; rfl)); intro gb186 hg w60 hbox hb; have n0_ := Aside0.mk (Kd.R_below (by (with_reducible repeat (first | apply Kd.R_alloc | apply Kd.R_drewN | apply Kd.R_drew)); exact HO183.out) hb); have n1_ := Aside0.mk (below_step (by repeat (first | (with_reducible first | exact HB.out | apply below_alloc | apply pw_below_drewN | apply below_drew1) | exact HB.out)) hb); have n2_ := Aside0.mk (hbox); have n3_ := Aside0.mk ((by rw [hg]; exact (below_size (by repeat (first | (with_reducible first | exact HB.out | apply below_alloc | apply pw_below_drewN | apply below_drew1) | exact HB.out))) : w.heap.size ≤ gb186)); have n4_ := Aside0.mk ((by rw [hg]; exact (below_size (by repeat (first | (with_reducible first | exact HB.out | apply below_alloc | apply pw_below_drewN | apply below_drew1) | exact HB.out))) : w.heap.size ≤ gb186)); clear HO183; clear HB; have HO183 := n0_; have HB := n1_; have BK186 := n2_; have GW186 := n3_; have GE186 := n4_; clear n0_ n1_ n2_ n3_ n4_; clear hb hbox hg; have hcz61_0 : w60.cell? ⟨gb186, 0, none⟩ = some (.int .i64 0) := (blk_cell BK186.out 0).trans rfl; have hcz61_1 : w60.cell? ⟨gb186, 1, none⟩ = some (.int .i64 0) := (blk_cell BK186.out 1).trans rfl; have hfz61_0 := blk_frozen BK186.out 0; have hfz61_1 := blk_frozen BK186.out 1; obtain ⟨Ao62, co62, eo62⟩ := Kd.R_slice HO183.out; subst eo62) | (go_at_call 9; (with_reducible refine (batch_Form.calls k _ _ t181 (wrap64 (t184 + 1)) t185 t187 t190 _ ?side1 ?side2 A7.out).mono ?_); (case side1 => refine (Kd.R_reads' (e := 3) (base := w.heap.size) (ok := fun k_ => True) (n := t181.length) (c := co62) ?_).2.2; exact (by (with_reducible repeat (first | apply Kd.R_alloc | apply Kd.R_drewN | apply Kd.R_drew)); exact (Kd.R_mono (Kd.R_far (p := ⟨gb186, 1, none⟩) (Kd.R_far (p := ⟨gb186, 0, none⟩) (Kd.R_types HO183.out BK186.out (by decide)) (fun _ hk => hk.2) (.int .i64 (wrap64 (t184 + 1)))) (fun _ hk => hk.2) (.int .i64 t185)) (fun _ h_ => h_.1)))); (case side2 => exact (Kd.R_reads' HO183.out).2.1); rintro e w63 ⟨v188, rfl, ho0, hb⟩; have n0_ := Aside0.mk (Kd.R_below (by (with_reducible repeat (first | apply Kd.R_alloc | apply Kd.R_drewN | apply Kd.R_drew)); exact (Kd.R_mono (Kd.R_far (p := ⟨gb186, 1, none⟩) (Kd.R_far (p := ⟨gb186, 0, none⟩) (Kd.R_types HO183.out BK186.out (by decide)) (fun _ hk => hk.2) (.int .i64 (wrap64 (t184 + 1)))) (fun _ hk => hk.2) (.int .i64 t185)) (fun _ h_ => h_.1))) hb); have n1_ := Aside0.mk (Kd.N_lower (Kd.N_mono (ok' := fun k_ => some k_ ≠ (.slice Ao62 t181.length co62 : Value).ownBlock ∧ k_ ≠ gb186) ho0 (fun k_ hk_ => ⟨(Kd.fresh' (Kd.R_lt (by (with_reducible repeat (first | apply Kd.R_alloc | apply Kd.R_drewN | apply Kd.R_drew)); exact (Kd.R_mono (Kd.R_far (p := ⟨gb186, 1, none⟩) (Kd.R_far (p := ⟨gb186, 0, none⟩) (Kd.R_types HO183.out BK186.out (by decide)) (fun _ hk => hk.2) (.int .i64 (wrap64 (t184 + 1)))) (fun _ hk => hk.2) (.int .i64 t185)) (fun _ h_ => h_.1)))) k_ hk_), (Kd.freshB (g := gb186) (o := .cells #[.int .i64 (wrap64 (t184 + 1)), .int .i64 t185] 26 (0, 0)) (by (with_reducible repeat (first | refine blk_drewN ?_ _ | refine blk_drew ?_ | refine blk_alloc ?_ _)); refine blk_put (cs := #[.int .i64 (wrap64 (t184 + 1)), .int .i64 0]) ?_ 1 _ rfl; (with_reducible repeat (first | refine blk_drewN ?_ _ | refine blk_drew ?_ | refine blk_alloc ?_ _)); refine blk_put (cs := #[.int .i64 0, .int .i64 0]) ?_ 0 _ rfl; (with_reducible repeat (first | refine blk_drewN ?_ _ | refine blk_drew ?_ | refine blk_alloc ?_ _)); exact BK186.out) k_ hk_)⟩)) (below_size (by repeat (first | (with_reducible first | exact HB.out | apply below_alloc | apply pw_below_drewN | apply below_drew1 | refine below_set ?_ GE186.out) | exact HB.out)))); have n2_ := Aside0.mk (blk_below (g := gb186) (o := .cells #[.int .i64 (wrap64 (t184 + 1)), .int .i64 t185] 26 (0, 0)) (by (with_reducible repeat (first | refine blk_drewN ?_ _ | refine blk_drew ?_ | refine blk_alloc ?_ _)); refine blk_put (cs := #[.int .i64 (wrap64 (t184 + 1)), .int .i64 0]) ?_ 1 _ rfl; (with_reducible repeat (first | refine blk_drewN ?_ _ | refine blk_drew ?_ | refine blk_alloc ?_ _)); refine blk_put (cs := #[.int .i64 0, .int .i64 0]) ?_ 0 _ rfl; (with_reducible repeat (first | refine blk_drewN ?_ _ | refine blk_drew ?_ | refine blk_alloc ?_ _)); exact BK186.out) hb); have n3_ := Aside0.mk (below_step (by repeat (first | (with_reducible first | exact HB.out | apply below_alloc | apply pw_below_drewN | apply below_drew1 | refine below_set ?_ GE186.out) | exact HB.out)) hb); clear HO183; clear BK186; clear HB; have HO183 := n0_; have HO189 := n1_; have BK186 := n2_; have HB := n3_; clear n0_ n1_ n2_ n3_; (try clear hb); (try clear hb2); (try clear hk); (try clear hi); (try clear ho0))); try go_wp2_with (first | (go_at_call 7; (with_reducible refine (abaculuslaw38_times.calls k _ _ l0 7 t181 _ ?side1 ?side2 A4.out).mono ?_); (case side1 => repeat (first | exact HR0.out | (with_reducible refine Kd.C_alloc ?_ _) | (with_reducible refine Kd.C_drewN ?_ _) | (with_reducible refine Kd.C_drew ?_))); (case side2 => exact HC0.out); rintro e w59 ⟨v182, rfl, ho0, hb⟩; have n0_ := Aside0.mk (Kd.R_lower ho0 (below_size (by repeat (first | (with_reducible first | exact HB.out | apply below_alloc | apply pw_below_drewN | apply below_drew1) | exact HB.out)))); have n1_ := Aside0.mk (below_step (by repeat (first | (with_reducible first | exact HB.out | apply below_alloc | apply pw_below_drewN | apply below_drew1) | exact HB.out)) hb); clear HB; have HO183 := n0_; have HB := n1_; clear n0_ n1_; (try clear hb); (try clear hb2); (try clear hk); (try clear hi); (try clear ho0)) | (go_at_call 8; (with_reducible refine (abaculushand_Pick.calls a1 5 t184 _ A5.out).mono ?_); rintro e w' ⟨rfl, ⟨nd, rfl⟩⟩; (try first | exact ⟨rfl, _, World.drewN_drewN _ _ _⟩ | exact ⟨rfl, _, Eq.trans (World.drewN_drewN _ _ _) (congrArg (World.drewN _) (Nat.add_assoc _ _ _))⟩)) | (go_at_call 8; (with_reducible refine (abaculushand_Pick.calls a2 9 t185 _ A6.out).mono ?_); rintro e w' ⟨rfl, ⟨nd, rfl⟩⟩; (try first | exact ⟨rfl, _, World.drewN_drewN _ _ _⟩ | exact ⟨rfl, _, Eq.trans (World.drewN_drewN _ _ _) (congrArg (World.drewN _) (Nat.add_assoc _ _ _))⟩)) | ((with_reducible refine gate_dst (N := 8) rfl ?_); (try (refine gate_guard (by rfl) ?_; dsimp only)); refine box_event ?hg (N := 8) ?hd (cs := #[.int .i64 0, .int .i64 0]) (t := 26) ?hr ?_; (case hd => rfl); (case hg => rfl); (case hr => first | (go_simp; done) | (go_simp; rfl)); intro gb186 hg w60 hbox hb; have n0_ := Aside0.mk (Kd.R_below (by (with_reducible repeat (first | apply Kd.R_alloc | apply Kd.R_drewN | apply Kd.R_drew)); exact HO183.out) hb); have n1_ := Aside0.mk (below_step (by repeat (first | (with_reducible first | exact HB.out | apply below_alloc | apply pw_below_drewN | apply below_drew1) | exact HB.out)) hb); have n2_ := Aside0.mk (hbox); have n3_ := Aside0.mk ((by rw [hg]; exact (below_size (by repeat (first | (with_reducible first | exact HB.out | apply below_alloc | apply pw_below_drewN | apply below_drew1) | exact HB.out))) : w.heap.size ≤ gb186)); have n4_ := Aside0.mk ((by rw [hg]; exact (below_size (by repeat (first | (with_reducible first | exact HB.out | apply below_alloc | apply pw_below_drewN | apply below_drew1) | exact HB.out))) : w.heap.size ≤ gb186)); clear HO183; clear HB; have HO183 := n0_; have HB := n1_; have BK186 := n2_; have GW186 := n3_; have GE186 := n4_; clear n0_ n1_ n2_ n3_ n4_; clear hb hbox hg; have hcz61_0 : w60.cell? ⟨gb186, 0, none⟩ = some (.int .i64 0) := (blk_cell BK186.out 0).trans rfl; have hcz61_1 : w60.cell? ⟨gb186, 1, none⟩ = some (.int .i64 0) := (blk_cell BK186.out 1).trans rfl; have hfz61_0 := blk_frozen BK186.out 0; have hfz61_1 := blk_frozen BK186.out 1; obtain ⟨Ao62, co62, eo62⟩ := Kd.R_slice HO183.out; subst eo62) | (go_at_call 9; (with_reducible refine (batch_Form.calls k _ _ t181 (wrap64 (t184 + 1)) t185 t187 t190 _ ?side1 ?side2 A7.out).mono ?_); (case side1 => refine (Kd.R_reads' (e := 3) (base := w.heap.size) (ok := fun k_ => True) (n := t181.length) (c := co62) ?_).2.2; exact (by (with_reducible repeat (first | apply Kd.R_alloc | apply Kd.R_drewN | apply Kd.R_drew)); exact (Kd.R_mono (Kd.R_far (p := ⟨gb186, 1, none⟩) (Kd.R_far (p := ⟨gb186, 0, none⟩) (Kd.R_types HO183.out BK186.out (by decide)) (fun _ hk => hk.2) (.int .i64 (wrap64 (t184 + 1)))) (fun _ hk => hk.2) (.int .i64 t185)) (fun _ h_ => h_.1)))); (case side2 => exact (Kd.R_reads' HO183.out).2.1); rintro e w63 ⟨v188, rfl, ho0, hb⟩; have n0_ := Aside0.mk (Kd.R_below (by (with_reducible repeat (first | apply Kd.R_alloc | apply Kd.R_drewN | apply Kd.R_drew)); exact (Kd.R_mono (Kd.R_far (p := ⟨gb186, 1, none⟩) (Kd.R_far (p := ⟨gb186, 0, none⟩) (Kd.R_types HO183.out BK186.out (by decide)) (fun _ hk => hk.2) (.int .i64 (wrap64 (t184 + 1)))) (fun _ hk => hk.2) (.int .i64 t185)) (fun _ h_ => h_.1))) hb); have n1_ := Aside0.mk (Kd.N_lower (Kd.N_mono (ok' := fun k_ => some k_ ≠ (.slice Ao62 t181.length co62 : Value).ownBlock ∧ k_ ≠ gb186) ho0 (fun k_ hk_ => ⟨(Kd.fresh' (Kd.R_lt (by (with_reducible repeat (first | apply Kd.R_alloc | apply Kd.R_drewN | apply Kd.R_drew)); exact (Kd.R_mono (Kd.R_far (p := ⟨gb186, 1, none⟩) (Kd.R_far (p := ⟨gb186, 0, none⟩) (Kd.R_types HO183.out BK186.out (by decide)) (fun _ hk => hk.2) (.int .i64 (wrap64 (t184 + 1)))) (fun _ hk => hk.2) (.int .i64 t185)) (fun _ h_ => h_.1)))) k_ hk_), (Kd.freshB (g := gb186) (o := .cells #[.int .i64 (wrap64 (t184 + 1)), .int .i64 t185] 26 (0, 0)) (by (with_reducible repeat (first | refine blk_drewN ?_ _ | refine blk_drew ?_ | refine blk_alloc ?_ _)); refine blk_put (cs := #[.int .i64 (wrap64 (t184 + 1)), .int .i64 0]) ?_ 1 _ rfl; (with_reducible repeat (first | refine blk_drewN ?_ _ | refine blk_drew ?_ | refine blk_alloc ?_ _)); refine blk_put (cs := #[.int .i64 0, .int .i64 0]) ?_ 0 _ rfl; (with_reducible repeat (first | refine blk_drewN ?_ _ | refine blk_drew ?_ | refine blk_alloc ?_ _)); exact BK186.out) k_ hk_)⟩)) (below_size (by repeat (first | (with_reducible first | exact HB.out | apply below_alloc | apply pw_below_drewN | apply below_drew1 | refine below_set ?_ GE186.out) | exact HB.out)))); have n2_ := Aside0.mk (blk_below (g := gb186) (o := .cells #[.int .i64 (wrap64 (t184 + 1)), .int .i64 t185] 26 (0, 0)) (by (with_reducible repeat (first | refine blk_drewN ?_ _ | refine blk_drew ?_ | refine blk_alloc ?_ _)); refine blk_put (cs := #[.int .i64 (wrap64 (t184 + 1)), .int .i64 0]) ?_ 1 _ rfl; (with_reducible repeat (first | refine blk_drewN ?_ _ | refine blk_drew ?_ | refine blk_alloc ?_ _)); refine blk_put (cs := #[.int .i64 0, .int .i64 0]) ?_ 0 _ rfl; (with_reducible repeat (first | refine blk_drewN ?_ _ | refine blk_drew ?_ | refine blk_alloc ?_ _)); exact BK186.out) hb); have n3_ := Aside0.mk (below_step (by repeat (first | (with_reducible first | exact HB.out | apply below_alloc | apply pw_below_drewN | apply below_drew1 | refine below_set ?_ GE186.out) | exact HB.out)) hb); clear HO183; clear BK186; clear HB; have HO183 := n0_; have HO189 := n1_; have BK186 := n2_; have HB := n3_; clear n0_ n1_ n2_ n3_; (try clear hb); (try clear hb2); (try clear hk); (try clear hi); (try clear ho0))))
    go_ret
    exact ⟨by first | rfl | (simp [errW_none, errW_some] <;> rfl) | (simp [*, errW_none, errW_some] <;> rfl), by repeat (first | (with_reducible first | exact HB.out | apply below_alloc | apply pw_below_drewN | apply below_drew1 | refine below_set ?_ GE186.out) | exact HB.out)⟩

/-- THE ONE PURE STATEMENT of abaculuslaw38_BatchEach: yours. -/
def abaculuslaw38_BatchEach.Pure : Prop := ∀ (l0 : List Int) (a1 : Int) (a2 : Int), l0.length ≤ maxLen → l0.length * 8 ≤ 140737488351232 → (∀ x ∈ l0, (Lit.int .i64 x).wf = true) → (Lit.int .i64 a1).wf = true → (Lit.int .i64 a2).wf = true → ∃ k, abaculuslaw38_BatchEach.f k l0 a1 a2 = some true
theorem abaculuslaw38_BatchEach.walk (P : abaculuslaw38_BatchEach.Pure) (a0 : Option Addr) (len0 cap0 : Nat) (z0 : List Int) (a1 : Int) (a2 : Int) (w : World) (w0 : (a0 = none ∧ len0 = 0 ∧ cap0 = 0 ∧ z0 = []) ∨ ∃ x, a0 = some x ∧ len0 ≤ cap0 ∧ cap0 ≤ maxLen ∧ z0.length = cap0 ∧ (∀ i, i < z0.length → w.cell? (x.add i) = some (.int .i64 (z0.getD i 0))) ∧ ∀ n ∈ z0, (Lit.int .i64 n).wf = true) (y0 : len0 * 8 ≤ 140737488351232) (w1 : (Lit.int .i64 a1).wf = true) (w2 : (Lit.int .i64 a2).wf = true) :
    Calls Try.prog 5 #[.slice a0 len0 cap0, .int .i64 a1, .int .i64 a2] w fun e w' => e = .returned (.bool true) ∧ Below w.heap.size w w' := by
  obtain ⟨l0, rfl, hr0, hm0, hw0, hc0⟩ := ReadsInt.ofRowC w0
  obtain ⟨k, h⟩ := P l0 a1 a2 hm0 y0 hw0 w1 w2
  refine (abaculuslaw38_BatchEach.calls k _ _ l0 a1 a2 true w (Kd.C_of_reads (d := (0 : Int)) (h1 := fun _ => rfl) hr0) hc0 h).mono ?_
  rintro e w' ⟨rfl, hd⟩
  exact ⟨rfl, hd⟩

end Go.Proofs.Ytoojcilbdeiodaa.QEach
