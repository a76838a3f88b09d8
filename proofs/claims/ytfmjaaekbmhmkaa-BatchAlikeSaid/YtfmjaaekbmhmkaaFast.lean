/- An interpreter of Go code over values that are known, and the proof that it is sound (of a faster form of it). It has no conditions. -/
import Derived.Test.YtfmjaaekbmhmkaaAbsB
set_option linter.unusedVariables false
set_option linter.unusedSectionVars false
set_option linter.unusedSimpArgs false
namespace Go.Abs
structure V1 where
  (a0 a1 a2 a3 a4 a5 a6 a7 : Value)
structure SV1 where
  (g : V1 → Value) (m : (Value → Value) → V1 → V1)
noncomputable def sV1 (d : Nat) : SV1 := Nat.rec (motive := fun _ => SV1) ⟨fun x => x.a0, fun f x => V1.rec (motive := fun _ => V1) (fun a0 a1 a2 a3 a4 a5 a6 a7 => ⟨f a0, a1, a2, a3, a4, a5, a6, a7⟩) x⟩ (fun d _ => Nat.rec (motive := fun _ => SV1) ⟨fun x => x.a1, fun f x => V1.rec (motive := fun _ => V1) (fun a0 a1 a2 a3 a4 a5 a6 a7 => ⟨a0, f a1, a2, a3, a4, a5, a6, a7⟩) x⟩ (fun d _ => Nat.rec (motive := fun _ => SV1) ⟨fun x => x.a2, fun f x => V1.rec (motive := fun _ => V1) (fun a0 a1 a2 a3 a4 a5 a6 a7 => ⟨a0, a1, f a2, a3, a4, a5, a6, a7⟩) x⟩ (fun d _ => Nat.rec (motive := fun _ => SV1) ⟨fun x => x.a3, fun f x => V1.rec (motive := fun _ => V1) (fun a0 a1 a2 a3 a4 a5 a6 a7 => ⟨a0, a1, a2, f a3, a4, a5, a6, a7⟩) x⟩ (fun d _ => Nat.rec (motive := fun _ => SV1) ⟨fun x => x.a4, fun f x => V1.rec (motive := fun _ => V1) (fun a0 a1 a2 a3 a4 a5 a6 a7 => ⟨a0, a1, a2, a3, f a4, a5, a6, a7⟩) x⟩ (fun d _ => Nat.rec (motive := fun _ => SV1) ⟨fun x => x.a5, fun f x => V1.rec (motive := fun _ => V1) (fun a0 a1 a2 a3 a4 a5 a6 a7 => ⟨a0, a1, a2, a3, a4, f a5, a6, a7⟩) x⟩ (fun d _ => Nat.rec (motive := fun _ => SV1) ⟨fun x => x.a6, fun f x => V1.rec (motive := fun _ => V1) (fun a0 a1 a2 a3 a4 a5 a6 a7 => ⟨a0, a1, a2, a3, a4, a5, f a6, a7⟩) x⟩ (fun d _ => ⟨fun x => x.a7, fun f x => V1.rec (motive := fun _ => V1) (fun a0 a1 a2 a3 a4 a5 a6 a7 => ⟨a0, a1, a2, a3, a4, a5, a6, f a7⟩) x⟩) d) d) d) d) d) d) d
noncomputable def cV1 (d : Nat) : SV1 := Nat.rec (motive := fun _ => SV1) (sV1 Nat.zero) (fun m _ => sV1 (Nat.succ m)) d
theorem cV1_eq (d : Nat) : cV1 d = sV1 d := by cases d <;> rfl
theorem sV1_same (d : Nat) (f : Value → Value) (x : V1) : (sV1 d).g ((sV1 d).m f x) = f ((sV1 d).g x) := by
  cases x
  rcases d with _ | _ | _ | _ | _ | _ | _ | d <;> rfl
theorem sV1_ne (d e : Nat) (f : Value → Value) (x : V1) (hd : d < 8) (he : e < 8) (h : d ≠ e) : (sV1 e).g ((sV1 d).m f x) = (sV1 e).g x := by
  cases x
  rcases d with _ | _ | _ | _ | _ | _ | _ | _ | d <;> first | (exfalso; omega) | (rcases e with _ | _ | _ | _ | _ | _ | _ | _ | e <;> first | rfl | exact absurd rfl h | (exfalso; omega))
structure V2 where
  (a0 a1 a2 a3 a4 a5 a6 a7 : V1)
structure SV2 where
  (g : V2 → V1) (m : (V1 → V1) → V2 → V2)
noncomputable def sV2 (d : Nat) : SV2 := Nat.rec (motive := fun _ => SV2) ⟨fun x => x.a0, fun f x => V2.rec (motive := fun _ => V2) (fun a0 a1 a2 a3 a4 a5 a6 a7 => ⟨f a0, a1, a2, a3, a4, a5, a6, a7⟩) x⟩ (fun d _ => Nat.rec (motive := fun _ => SV2) ⟨fun x => x.a1, fun f x => V2.rec (motive := fun _ => V2) (fun a0 a1 a2 a3 a4 a5 a6 a7 => ⟨a0, f a1, a2, a3, a4, a5, a6, a7⟩) x⟩ (fun d _ => Nat.rec (motive := fun _ => SV2) ⟨fun x => x.a2, fun f x => V2.rec (motive := fun _ => V2) (fun a0 a1 a2 a3 a4 a5 a6 a7 => ⟨a0, a1, f a2, a3, a4, a5, a6, a7⟩) x⟩ (fun d _ => Nat.rec (motive := fun _ => SV2) ⟨fun x => x.a3, fun f x => V2.rec (motive := fun _ => V2) (fun a0 a1 a2 a3 a4 a5 a6 a7 => ⟨a0, a1, a2, f a3, a4, a5, a6, a7⟩) x⟩ (fun d _ => Nat.rec (motive := fun _ => SV2) ⟨fun x => x.a4, fun f x => V2.rec (motive := fun _ => V2) (fun a0 a1 a2 a3 a4 a5 a6 a7 => ⟨a0, a1, a2, a3, f a4, a5, a6, a7⟩) x⟩ (fun d _ => Nat.rec (motive := fun _ => SV2) ⟨fun x => x.a5, fun f x => V2.rec (motive := fun _ => V2) (fun a0 a1 a2 a3 a4 a5 a6 a7 => ⟨a0, a1, a2, a3, a4, f a5, a6, a7⟩) x⟩ (fun d _ => Nat.rec (motive := fun _ => SV2) ⟨fun x => x.a6, fun f x => V2.rec (motive := fun _ => V2) (fun a0 a1 a2 a3 a4 a5 a6 a7 => ⟨a0, a1, a2, a3, a4, a5, f a6, a7⟩) x⟩ (fun d _ => ⟨fun x => x.a7, fun f x => V2.rec (motive := fun _ => V2) (fun a0 a1 a2 a3 a4 a5 a6 a7 => ⟨a0, a1, a2, a3, a4, a5, a6, f a7⟩) x⟩) d) d) d) d) d) d) d
noncomputable def cV2 (d : Nat) : SV2 := Nat.rec (motive := fun _ => SV2) (sV2 Nat.zero) (fun m _ => sV2 (Nat.succ m)) d
theorem cV2_eq (d : Nat) : cV2 d = sV2 d := by cases d <;> rfl
theorem sV2_same (d : Nat) (f : V1 → V1) (x : V2) : (sV2 d).g ((sV2 d).m f x) = f ((sV2 d).g x) := by
  cases x
  rcases d with _ | _ | _ | _ | _ | _ | _ | d <;> rfl
theorem sV2_ne (d e : Nat) (f : V1 → V1) (x : V2) (hd : d < 8) (he : e < 8) (h : d ≠ e) : (sV2 e).g ((sV2 d).m f x) = (sV2 e).g x := by
  cases x
  rcases d with _ | _ | _ | _ | _ | _ | _ | _ | d <;> first | (exfalso; omega) | (rcases e with _ | _ | _ | _ | _ | _ | _ | _ | e <;> first | rfl | exact absurd rfl h | (exfalso; omega))
structure V3 where
  (a0 a1 a2 a3 a4 a5 a6 a7 : V2)
structure SV3 where
  (g : V3 → V2) (m : (V2 → V2) → V3 → V3)
noncomputable def sV3 (d : Nat) : SV3 := Nat.rec (motive := fun _ => SV3) ⟨fun x => x.a0, fun f x => V3.rec (motive := fun _ => V3) (fun a0 a1 a2 a3 a4 a5 a6 a7 => ⟨f a0, a1, a2, a3, a4, a5, a6, a7⟩) x⟩ (fun d _ => Nat.rec (motive := fun _ => SV3) ⟨fun x => x.a1, fun f x => V3.rec (motive := fun _ => V3) (fun a0 a1 a2 a3 a4 a5 a6 a7 => ⟨a0, f a1, a2, a3, a4, a5, a6, a7⟩) x⟩ (fun d _ => Nat.rec (motive := fun _ => SV3) ⟨fun x => x.a2, fun f x => V3.rec (motive := fun _ => V3) (fun a0 a1 a2 a3 a4 a5 a6 a7 => ⟨a0, a1, f a2, a3, a4, a5, a6, a7⟩) x⟩ (fun d _ => Nat.rec (motive := fun _ => SV3) ⟨fun x => x.a3, fun f x => V3.rec (motive := fun _ => V3) (fun a0 a1 a2 a3 a4 a5 a6 a7 => ⟨a0, a1, a2, f a3, a4, a5, a6, a7⟩) x⟩ (fun d _ => Nat.rec (motive := fun _ => SV3) ⟨fun x => x.a4, fun f x => V3.rec (motive := fun _ => V3) (fun a0 a1 a2 a3 a4 a5 a6 a7 => ⟨a0, a1, a2, a3, f a4, a5, a6, a7⟩) x⟩ (fun d _ => Nat.rec (motive := fun _ => SV3) ⟨fun x => x.a5, fun f x => V3.rec (motive := fun _ => V3) (fun a0 a1 a2 a3 a4 a5 a6 a7 => ⟨a0, a1, a2, a3, a4, f a5, a6, a7⟩) x⟩ (fun d _ => Nat.rec (motive := fun _ => SV3) ⟨fun x => x.a6, fun f x => V3.rec (motive := fun _ => V3) (fun a0 a1 a2 a3 a4 a5 a6 a7 => ⟨a0, a1, a2, a3, a4, a5, f a6, a7⟩) x⟩ (fun d _ => ⟨fun x => x.a7, fun f x => V3.rec (motive := fun _ => V3) (fun a0 a1 a2 a3 a4 a5 a6 a7 => ⟨a0, a1, a2, a3, a4, a5, a6, f a7⟩) x⟩) d) d) d) d) d) d) d
noncomputable def cV3 (d : Nat) : SV3 := Nat.rec (motive := fun _ => SV3) (sV3 Nat.zero) (fun m _ => sV3 (Nat.succ m)) d
theorem cV3_eq (d : Nat) : cV3 d = sV3 d := by cases d <;> rfl
theorem sV3_same (d : Nat) (f : V2 → V2) (x : V3) : (sV3 d).g ((sV3 d).m f x) = f ((sV3 d).g x) := by
  cases x
  rcases d with _ | _ | _ | _ | _ | _ | _ | d <;> rfl
theorem sV3_ne (d e : Nat) (f : V2 → V2) (x : V3) (hd : d < 8) (he : e < 8) (h : d ≠ e) : (sV3 e).g ((sV3 d).m f x) = (sV3 e).g x := by
  cases x
  rcases d with _ | _ | _ | _ | _ | _ | _ | _ | d <;> first | (exfalso; omega) | (rcases e with _ | _ | _ | _ | _ | _ | _ | _ | e <;> first | rfl | exact absurd rfl h | (exfalso; omega))
structure V4 where
  (a0 a1 a2 a3 a4 a5 a6 a7 : V3)
structure SV4 where
  (g : V4 → V3) (m : (V3 → V3) → V4 → V4)
noncomputable def sV4 (d : Nat) : SV4 := Nat.rec (motive := fun _ => SV4) ⟨fun x => x.a0, fun f x => V4.rec (motive := fun _ => V4) (fun a0 a1 a2 a3 a4 a5 a6 a7 => ⟨f a0, a1, a2, a3, a4, a5, a6, a7⟩) x⟩ (fun d _ => Nat.rec (motive := fun _ => SV4) ⟨fun x => x.a1, fun f x => V4.rec (motive := fun _ => V4) (fun a0 a1 a2 a3 a4 a5 a6 a7 => ⟨a0, f a1, a2, a3, a4, a5, a6, a7⟩) x⟩ (fun d _ => Nat.rec (motive := fun _ => SV4) ⟨fun x => x.a2, fun f x => V4.rec (motive := fun _ => V4) (fun a0 a1 a2 a3 a4 a5 a6 a7 => ⟨a0, a1, f a2, a3, a4, a5, a6, a7⟩) x⟩ (fun d _ => Nat.rec (motive := fun _ => SV4) ⟨fun x => x.a3, fun f x => V4.rec (motive := fun _ => V4) (fun a0 a1 a2 a3 a4 a5 a6 a7 => ⟨a0, a1, a2, f a3, a4, a5, a6, a7⟩) x⟩ (fun d _ => Nat.rec (motive := fun _ => SV4) ⟨fun x => x.a4, fun f x => V4.rec (motive := fun _ => V4) (fun a0 a1 a2 a3 a4 a5 a6 a7 => ⟨a0, a1, a2, a3, f a4, a5, a6, a7⟩) x⟩ (fun d _ => Nat.rec (motive := fun _ => SV4) ⟨fun x => x.a5, fun f x => V4.rec (motive := fun _ => V4) (fun a0 a1 a2 a3 a4 a5 a6 a7 => ⟨a0, a1, a2, a3, a4, f a5, a6, a7⟩) x⟩ (fun d _ => Nat.rec (motive := fun _ => SV4) ⟨fun x => x.a6, fun f x => V4.rec (motive := fun _ => V4) (fun a0 a1 a2 a3 a4 a5 a6 a7 => ⟨a0, a1, a2, a3, a4, a5, f a6, a7⟩) x⟩ (fun d _ => ⟨fun x => x.a7, fun f x => V4.rec (motive := fun _ => V4) (fun a0 a1 a2 a3 a4 a5 a6 a7 => ⟨a0, a1, a2, a3, a4, a5, a6, f a7⟩) x⟩) d) d) d) d) d) d) d
noncomputable def cV4 (d : Nat) : SV4 := Nat.rec (motive := fun _ => SV4) (sV4 Nat.zero) (fun m _ => sV4 (Nat.succ m)) d
theorem cV4_eq (d : Nat) : cV4 d = sV4 d := by cases d <;> rfl
theorem sV4_same (d : Nat) (f : V3 → V3) (x : V4) : (sV4 d).g ((sV4 d).m f x) = f ((sV4 d).g x) := by
  cases x
  rcases d with _ | _ | _ | _ | _ | _ | _ | d <;> rfl
theorem sV4_ne (d e : Nat) (f : V3 → V3) (x : V4) (hd : d < 8) (he : e < 8) (h : d ≠ e) : (sV4 e).g ((sV4 d).m f x) = (sV4 e).g x := by
  cases x
  rcases d with _ | _ | _ | _ | _ | _ | _ | _ | d <;> first | (exfalso; omega) | (rcases e with _ | _ | _ | _ | _ | _ | _ | _ | e <;> first | rfl | exact absurd rfl h | (exfalso; omega))
structure V5 where
  (a0 a1 a2 a3 a4 a5 a6 a7 : V4)
structure SV5 where
  (g : V5 → V4) (m : (V4 → V4) → V5 → V5)
noncomputable def sV5 (d : Nat) : SV5 := Nat.rec (motive := fun _ => SV5) ⟨fun x => x.a0, fun f x => V5.rec (motive := fun _ => V5) (fun a0 a1 a2 a3 a4 a5 a6 a7 => ⟨f a0, a1, a2, a3, a4, a5, a6, a7⟩) x⟩ (fun d _ => Nat.rec (motive := fun _ => SV5) ⟨fun x => x.a1, fun f x => V5.rec (motive := fun _ => V5) (fun a0 a1 a2 a3 a4 a5 a6 a7 => ⟨a0, f a1, a2, a3, a4, a5, a6, a7⟩) x⟩ (fun d _ => Nat.rec (motive := fun _ => SV5) ⟨fun x => x.a2, fun f x => V5.rec (motive := fun _ => V5) (fun a0 a1 a2 a3 a4 a5 a6 a7 => ⟨a0, a1, f a2, a3, a4, a5, a6, a7⟩) x⟩ (fun d _ => Nat.rec (motive := fun _ => SV5) ⟨fun x => x.a3, fun f x => V5.rec (motive := fun _ => V5) (fun a0 a1 a2 a3 a4 a5 a6 a7 => ⟨a0, a1, a2, f a3, a4, a5, a6, a7⟩) x⟩ (fun d _ => Nat.rec (motive := fun _ => SV5) ⟨fun x => x.a4, fun f x => V5.rec (motive := fun _ => V5) (fun a0 a1 a2 a3 a4 a5 a6 a7 => ⟨a0, a1, a2, a3, f a4, a5, a6, a7⟩) x⟩ (fun d _ => Nat.rec (motive := fun _ => SV5) ⟨fun x => x.a5, fun f x => V5.rec (motive := fun _ => V5) (fun a0 a1 a2 a3 a4 a5 a6 a7 => ⟨a0, a1, a2, a3, a4, f a5, a6, a7⟩) x⟩ (fun d _ => Nat.rec (motive := fun _ => SV5) ⟨fun x => x.a6, fun f x => V5.rec (motive := fun _ => V5) (fun a0 a1 a2 a3 a4 a5 a6 a7 => ⟨a0, a1, a2, a3, a4, a5, f a6, a7⟩) x⟩ (fun d _ => ⟨fun x => x.a7, fun f x => V5.rec (motive := fun _ => V5) (fun a0 a1 a2 a3 a4 a5 a6 a7 => ⟨a0, a1, a2, a3, a4, a5, a6, f a7⟩) x⟩) d) d) d) d) d) d) d
noncomputable def cV5 (d : Nat) : SV5 := Nat.rec (motive := fun _ => SV5) (sV5 Nat.zero) (fun m _ => sV5 (Nat.succ m)) d
theorem cV5_eq (d : Nat) : cV5 d = sV5 d := by cases d <;> rfl
theorem sV5_same (d : Nat) (f : V4 → V4) (x : V5) : (sV5 d).g ((sV5 d).m f x) = f ((sV5 d).g x) := by
  cases x
  rcases d with _ | _ | _ | _ | _ | _ | _ | d <;> rfl
theorem sV5_ne (d e : Nat) (f : V4 → V4) (x : V5) (hd : d < 8) (he : e < 8) (h : d ≠ e) : (sV5 e).g ((sV5 d).m f x) = (sV5 e).g x := by
  cases x
  rcases d with _ | _ | _ | _ | _ | _ | _ | _ | d <;> first | (exfalso; omega) | (rcases e with _ | _ | _ | _ | _ | _ | _ | _ | e <;> first | rfl | exact absurd rfl h | (exfalso; omega))
def eV1 : V1 := ⟨undef, undef, undef, undef, undef, undef, undef, undef⟩
theorem sV1_e (d : Nat) : (sV1 d).g eV1 = undef := by
  rcases d with _ | _ | _ | _ | _ | _ | _ | d <;> rfl
def eV2 : V2 := ⟨eV1, eV1, eV1, eV1, eV1, eV1, eV1, eV1⟩
theorem sV2_e (d : Nat) : (sV2 d).g eV2 = eV1 := by
  rcases d with _ | _ | _ | _ | _ | _ | _ | d <;> rfl
def eV3 : V3 := ⟨eV2, eV2, eV2, eV2, eV2, eV2, eV2, eV2⟩
theorem sV3_e (d : Nat) : (sV3 d).g eV3 = eV2 := by
  rcases d with _ | _ | _ | _ | _ | _ | _ | d <;> rfl
def eV4 : V4 := ⟨eV3, eV3, eV3, eV3, eV3, eV3, eV3, eV3⟩
def eV5 : V5 := ⟨eV4, eV4, eV4, eV4, eV4, eV4, eV4, eV4⟩
structure L3 where
  (g : V3 → Value) (s : Value → V3 → V3)
noncomputable def l3 (t : Nat) : L3 := SV1.rec (motive := fun _ => L3) (fun g1 m1 => SV2.rec (motive := fun _ => L3) (fun g2 m2 => SV3.rec (motive := fun _ => L3) (fun g3 m3 => ⟨fun x => g1 (g2 (g3 x)), fun v x => m3 (m2 (m1 (fun _ => v))) x⟩) (cV3 (Nat.div t 64))) (cV2 (Nat.mod (Nat.div t 8) 8))) (cV1 (Nat.mod t 8))
theorem l3_def (t : Nat) : l3 t = ⟨fun x => (sV1 (Nat.mod t 8)).g ((sV2 (Nat.mod (Nat.div t 8) 8)).g ((sV3 (Nat.div t 64)).g x)), fun v x => (sV3 (Nat.div t 64)).m ((sV2 (Nat.mod (Nat.div t 8) 8)).m ((sV1 (Nat.mod t 8)).m (fun _ => v))) x⟩ := by
  unfold l3
  simp only [cV1_eq, cV2_eq, cV3_eq]
theorem l3_same (t : Nat) (v : Value) (x : V3) : (l3 t).g ((l3 t).s v x) = v := by
  simp only [l3_def, sV1_same, sV2_same, sV3_same]
theorem l3_ne (t u : Nat) (v : Value) (x : V3) (ht : t < 512) (hu : u < 512) (h : t ≠ u) : (l3 u).g ((l3 t).s v x) = (l3 u).g x := by
  have hm : ∀ a b, Nat.mod a b = a % b := fun _ _ => rfl
  have hv : ∀ a b, Nat.div a b = a / b := fun _ _ => rfl
  simp only [l3_def, hm, hv]
  by_cases h3 : t / 64 = u / 64
  · rw [h3, sV3_same]
    by_cases h2 : t / 8 % 8 = u / 8 % 8
    · rw [h2, sV2_same]
      by_cases h1 : t % 8 = u % 8
      · exfalso; omega
      · rw [sV1_ne _ _ _ _ (show t % 8 < 8 by omega) (show u % 8 < 8 by omega) (show t % 8 ≠ u % 8 from h1)]
    · rw [sV2_ne _ _ _ _ (show t / 8 % 8 < 8 by omega) (show u / 8 % 8 < 8 by omega) (show t / 8 % 8 ≠ u / 8 % 8 from h2)]
  · rw [sV3_ne _ _ _ _ (show t / 64 < 8 by omega) (show u / 64 < 8 by omega) (show t / 64 ≠ u / 64 from h3)]
structure L5 where
  (g : V5 → Value) (s : Value → V5 → V5)
noncomputable def l5 (t : Nat) : L5 := SV1.rec (motive := fun _ => L5) (fun g1 m1 => SV2.rec (motive := fun _ => L5) (fun g2 m2 => SV3.rec (motive := fun _ => L5) (fun g3 m3 => SV4.rec (motive := fun _ => L5) (fun g4 m4 => SV5.rec (motive := fun _ => L5) (fun g5 m5 => ⟨fun x => g1 (g2 (g3 (g4 (g5 x)))), fun v x => m5 (m4 (m3 (m2 (m1 (fun _ => v))))) x⟩) (cV5 (Nat.div t 4096))) (cV4 (Nat.mod (Nat.div t 512) 8))) (cV3 (Nat.mod (Nat.div t 64) 8))) (cV2 (Nat.mod (Nat.div t 8) 8))) (cV1 (Nat.mod t 8))
theorem l5_def (t : Nat) : l5 t = ⟨fun x => (sV1 (Nat.mod t 8)).g ((sV2 (Nat.mod (Nat.div t 8) 8)).g ((sV3 (Nat.mod (Nat.div t 64) 8)).g ((sV4 (Nat.mod (Nat.div t 512) 8)).g ((sV5 (Nat.div t 4096)).g x)))), fun v x => (sV5 (Nat.div t 4096)).m ((sV4 (Nat.mod (Nat.div t 512) 8)).m ((sV3 (Nat.mod (Nat.div t 64) 8)).m ((sV2 (Nat.mod (Nat.div t 8) 8)).m ((sV1 (Nat.mod t 8)).m (fun _ => v))))) x⟩ := by
  unfold l5
  simp only [cV1_eq, cV2_eq, cV3_eq, cV4_eq, cV5_eq]
theorem l5_same (t : Nat) (v : Value) (x : V5) : (l5 t).g ((l5 t).s v x) = v := by
  simp only [l5_def, sV1_same, sV2_same, sV3_same, sV4_same, sV5_same]
theorem l5_ne (t u : Nat) (v : Value) (x : V5) (ht : t < 32768) (hu : u < 32768) (h : t ≠ u) : (l5 u).g ((l5 t).s v x) = (l5 u).g x := by
  have hm : ∀ a b, Nat.mod a b = a % b := fun _ _ => rfl
  have hv : ∀ a b, Nat.div a b = a / b := fun _ _ => rfl
  simp only [l5_def, hm, hv]
  by_cases h5 : t / 4096 = u / 4096
  · rw [h5, sV5_same]
    by_cases h4 : t / 512 % 8 = u / 512 % 8
    · rw [h4, sV4_same]
      by_cases h3 : t / 64 % 8 = u / 64 % 8
      · rw [h3, sV3_same]
        by_cases h2 : t / 8 % 8 = u / 8 % 8
        · rw [h2, sV2_same]
          by_cases h1 : t % 8 = u % 8
          · exfalso; omega
          · rw [sV1_ne _ _ _ _ (show t % 8 < 8 by omega) (show u % 8 < 8 by omega) (show t % 8 ≠ u % 8 from h1)]
        · rw [sV2_ne _ _ _ _ (show t / 8 % 8 < 8 by omega) (show u / 8 % 8 < 8 by omega) (show t / 8 % 8 ≠ u / 8 % 8 from h2)]
      · rw [sV3_ne _ _ _ _ (show t / 64 % 8 < 8 by omega) (show u / 64 % 8 < 8 by omega) (show t / 64 % 8 ≠ u / 64 % 8 from h3)]
    · rw [sV4_ne _ _ _ _ (show t / 512 % 8 < 8 by omega) (show u / 512 % 8 < 8 by omega) (show t / 512 % 8 ≠ u / 512 % 8 from h4)]
  · rw [sV5_ne _ _ _ _ (show t / 4096 < 8 by omega) (show u / 4096 < 8 by omega) (show t / 4096 ≠ u / 4096 from h5)]
inductive Ob where
  | dead
  | small (c : V1) (n : Nat) (e : TypeId) (opn : Bool)
  | big (c : V5) (n : Nat) (e : TypeId) (opn : Bool)
  | oth (o : AObj)
structure O1 where
  (a0 a1 a2 a3 a4 a5 a6 a7 : Ob)
structure SO1 where
  (g : O1 → Ob) (m : (Ob → Ob) → O1 → O1)
noncomputable def sO1 (d : Nat) : SO1 := Nat.rec (motive := fun _ => SO1) ⟨fun x => x.a0, fun f x => O1.rec (motive := fun _ => O1) (fun a0 a1 a2 a3 a4 a5 a6 a7 => ⟨f a0, a1, a2, a3, a4, a5, a6, a7⟩) x⟩ (fun d _ => Nat.rec (motive := fun _ => SO1) ⟨fun x => x.a1, fun f x => O1.rec (motive := fun _ => O1) (fun a0 a1 a2 a3 a4 a5 a6 a7 => ⟨a0, f a1, a2, a3, a4, a5, a6, a7⟩) x⟩ (fun d _ => Nat.rec (motive := fun _ => SO1) ⟨fun x => x.a2, fun f x => O1.rec (motive := fun _ => O1) (fun a0 a1 a2 a3 a4 a5 a6 a7 => ⟨a0, a1, f a2, a3, a4, a5, a6, a7⟩) x⟩ (fun d _ => Nat.rec (motive := fun _ => SO1) ⟨fun x => x.a3, fun f x => O1.rec (motive := fun _ => O1) (fun a0 a1 a2 a3 a4 a5 a6 a7 => ⟨a0, a1, a2, f a3, a4, a5, a6, a7⟩) x⟩ (fun d _ => Nat.rec (motive := fun _ => SO1) ⟨fun x => x.a4, fun f x => O1.rec (motive := fun _ => O1) (fun a0 a1 a2 a3 a4 a5 a6 a7 => ⟨a0, a1, a2, a3, f a4, a5, a6, a7⟩) x⟩ (fun d _ => Nat.rec (motive := fun _ => SO1) ⟨fun x => x.a5, fun f x => O1.rec (motive := fun _ => O1) (fun a0 a1 a2 a3 a4 a5 a6 a7 => ⟨a0, a1, a2, a3, a4, f a5, a6, a7⟩) x⟩ (fun d _ => Nat.rec (motive := fun _ => SO1) ⟨fun x => x.a6, fun f x => O1.rec (motive := fun _ => O1) (fun a0 a1 a2 a3 a4 a5 a6 a7 => ⟨a0, a1, a2, a3, a4, a5, f a6, a7⟩) x⟩ (fun d _ => ⟨fun x => x.a7, fun f x => O1.rec (motive := fun _ => O1) (fun a0 a1 a2 a3 a4 a5 a6 a7 => ⟨a0, a1, a2, a3, a4, a5, a6, f a7⟩) x⟩) d) d) d) d) d) d) d
noncomputable def cO1 (d : Nat) : SO1 := Nat.rec (motive := fun _ => SO1) (sO1 Nat.zero) (fun m _ => sO1 (Nat.succ m)) d
theorem cO1_eq (d : Nat) : cO1 d = sO1 d := by cases d <;> rfl
theorem sO1_same (d : Nat) (f : Ob → Ob) (x : O1) : (sO1 d).g ((sO1 d).m f x) = f ((sO1 d).g x) := by
  cases x
  rcases d with _ | _ | _ | _ | _ | _ | _ | d <;> rfl
theorem sO1_ne (d e : Nat) (f : Ob → Ob) (x : O1) (hd : d < 8) (he : e < 8) (h : d ≠ e) : (sO1 e).g ((sO1 d).m f x) = (sO1 e).g x := by
  cases x
  rcases d with _ | _ | _ | _ | _ | _ | _ | _ | d <;> first | (exfalso; omega) | (rcases e with _ | _ | _ | _ | _ | _ | _ | _ | e <;> first | rfl | exact absurd rfl h | (exfalso; omega))
structure O2 where
  (a0 a1 a2 a3 a4 a5 a6 a7 : O1)
structure SO2 where
  (g : O2 → O1) (m : (O1 → O1) → O2 → O2)
noncomputable def sO2 (d : Nat) : SO2 := Nat.rec (motive := fun _ => SO2) ⟨fun x => x.a0, fun f x => O2.rec (motive := fun _ => O2) (fun a0 a1 a2 a3 a4 a5 a6 a7 => ⟨f a0, a1, a2, a3, a4, a5, a6, a7⟩) x⟩ (fun d _ => Nat.rec (motive := fun _ => SO2) ⟨fun x => x.a1, fun f x => O2.rec (motive := fun _ => O2) (fun a0 a1 a2 a3 a4 a5 a6 a7 => ⟨a0, f a1, a2, a3, a4, a5, a6, a7⟩) x⟩ (fun d _ => Nat.rec (motive := fun _ => SO2) ⟨fun x => x.a2, fun f x => O2.rec (motive := fun _ => O2) (fun a0 a1 a2 a3 a4 a5 a6 a7 => ⟨a0, a1, f a2, a3, a4, a5, a6, a7⟩) x⟩ (fun d _ => Nat.rec (motive := fun _ => SO2) ⟨fun x => x.a3, fun f x => O2.rec (motive := fun _ => O2) (fun a0 a1 a2 a3 a4 a5 a6 a7 => ⟨a0, a1, a2, f a3, a4, a5, a6, a7⟩) x⟩ (fun d _ => Nat.rec (motive := fun _ => SO2) ⟨fun x => x.a4, fun f x => O2.rec (motive := fun _ => O2) (fun a0 a1 a2 a3 a4 a5 a6 a7 => ⟨a0, a1, a2, a3, f a4, a5, a6, a7⟩) x⟩ (fun d _ => Nat.rec (motive := fun _ => SO2) ⟨fun x => x.a5, fun f x => O2.rec (motive := fun _ => O2) (fun a0 a1 a2 a3 a4 a5 a6 a7 => ⟨a0, a1, a2, a3, a4, f a5, a6, a7⟩) x⟩ (fun d _ => Nat.rec (motive := fun _ => SO2) ⟨fun x => x.a6, fun f x => O2.rec (motive := fun _ => O2) (fun a0 a1 a2 a3 a4 a5 a6 a7 => ⟨a0, a1, a2, a3, a4, a5, f a6, a7⟩) x⟩ (fun d _ => ⟨fun x => x.a7, fun f x => O2.rec (motive := fun _ => O2) (fun a0 a1 a2 a3 a4 a5 a6 a7 => ⟨a0, a1, a2, a3, a4, a5, a6, f a7⟩) x⟩) d) d) d) d) d) d) d
noncomputable def cO2 (d : Nat) : SO2 := Nat.rec (motive := fun _ => SO2) (sO2 Nat.zero) (fun m _ => sO2 (Nat.succ m)) d
theorem cO2_eq (d : Nat) : cO2 d = sO2 d := by cases d <;> rfl
theorem sO2_same (d : Nat) (f : O1 → O1) (x : O2) : (sO2 d).g ((sO2 d).m f x) = f ((sO2 d).g x) := by
  cases x
  rcases d with _ | _ | _ | _ | _ | _ | _ | d <;> rfl
theorem sO2_ne (d e : Nat) (f : O1 → O1) (x : O2) (hd : d < 8) (he : e < 8) (h : d ≠ e) : (sO2 e).g ((sO2 d).m f x) = (sO2 e).g x := by
  cases x
  rcases d with _ | _ | _ | _ | _ | _ | _ | _ | d <;> first | (exfalso; omega) | (rcases e with _ | _ | _ | _ | _ | _ | _ | _ | e <;> first | rfl | exact absurd rfl h | (exfalso; omega))
structure O3 where
  (a0 a1 a2 a3 a4 a5 a6 a7 : O2)
structure SO3 where
  (g : O3 → O2) (m : (O2 → O2) → O3 → O3)
noncomputable def sO3 (d : Nat) : SO3 := Nat.rec (motive := fun _ => SO3) ⟨fun x => x.a0, fun f x => O3.rec (motive := fun _ => O3) (fun a0 a1 a2 a3 a4 a5 a6 a7 => ⟨f a0, a1, a2, a3, a4, a5, a6, a7⟩) x⟩ (fun d _ => Nat.rec (motive := fun _ => SO3) ⟨fun x => x.a1, fun f x => O3.rec (motive := fun _ => O3) (fun a0 a1 a2 a3 a4 a5 a6 a7 => ⟨a0, f a1, a2, a3, a4, a5, a6, a7⟩) x⟩ (fun d _ => Nat.rec (motive := fun _ => SO3) ⟨fun x => x.a2, fun f x => O3.rec (motive := fun _ => O3) (fun a0 a1 a2 a3 a4 a5 a6 a7 => ⟨a0, a1, f a2, a3, a4, a5, a6, a7⟩) x⟩ (fun d _ => Nat.rec (motive := fun _ => SO3) ⟨fun x => x.a3, fun f x => O3.rec (motive := fun _ => O3) (fun a0 a1 a2 a3 a4 a5 a6 a7 => ⟨a0, a1, a2, f a3, a4, a5, a6, a7⟩) x⟩ (fun d _ => Nat.rec (motive := fun _ => SO3) ⟨fun x => x.a4, fun f x => O3.rec (motive := fun _ => O3) (fun a0 a1 a2 a3 a4 a5 a6 a7 => ⟨a0, a1, a2, a3, f a4, a5, a6, a7⟩) x⟩ (fun d _ => Nat.rec (motive := fun _ => SO3) ⟨fun x => x.a5, fun f x => O3.rec (motive := fun _ => O3) (fun a0 a1 a2 a3 a4 a5 a6 a7 => ⟨a0, a1, a2, a3, a4, f a5, a6, a7⟩) x⟩ (fun d _ => Nat.rec (motive := fun _ => SO3) ⟨fun x => x.a6, fun f x => O3.rec (motive := fun _ => O3) (fun a0 a1 a2 a3 a4 a5 a6 a7 => ⟨a0, a1, a2, a3, a4, a5, f a6, a7⟩) x⟩ (fun d _ => ⟨fun x => x.a7, fun f x => O3.rec (motive := fun _ => O3) (fun a0 a1 a2 a3 a4 a5 a6 a7 => ⟨a0, a1, a2, a3, a4, a5, a6, f a7⟩) x⟩) d) d) d) d) d) d) d
noncomputable def cO3 (d : Nat) : SO3 := Nat.rec (motive := fun _ => SO3) (sO3 Nat.zero) (fun m _ => sO3 (Nat.succ m)) d
theorem cO3_eq (d : Nat) : cO3 d = sO3 d := by cases d <;> rfl
theorem sO3_same (d : Nat) (f : O2 → O2) (x : O3) : (sO3 d).g ((sO3 d).m f x) = f ((sO3 d).g x) := by
  cases x
  rcases d with _ | _ | _ | _ | _ | _ | _ | d <;> rfl
theorem sO3_ne (d e : Nat) (f : O2 → O2) (x : O3) (hd : d < 8) (he : e < 8) (h : d ≠ e) : (sO3 e).g ((sO3 d).m f x) = (sO3 e).g x := by
  cases x
  rcases d with _ | _ | _ | _ | _ | _ | _ | _ | d <;> first | (exfalso; omega) | (rcases e with _ | _ | _ | _ | _ | _ | _ | _ | e <;> first | rfl | exact absurd rfl h | (exfalso; omega))
structure O4 where
  (a0 a1 a2 a3 a4 a5 a6 a7 : O3)
structure SO4 where
  (g : O4 → O3) (m : (O3 → O3) → O4 → O4)
noncomputable def sO4 (d : Nat) : SO4 := Nat.rec (motive := fun _ => SO4) ⟨fun x => x.a0, fun f x => O4.rec (motive := fun _ => O4) (fun a0 a1 a2 a3 a4 a5 a6 a7 => ⟨f a0, a1, a2, a3, a4, a5, a6, a7⟩) x⟩ (fun d _ => Nat.rec (motive := fun _ => SO4) ⟨fun x => x.a1, fun f x => O4.rec (motive := fun _ => O4) (fun a0 a1 a2 a3 a4 a5 a6 a7 => ⟨a0, f a1, a2, a3, a4, a5, a6, a7⟩) x⟩ (fun d _ => Nat.rec (motive := fun _ => SO4) ⟨fun x => x.a2, fun f x => O4.rec (motive := fun _ => O4) (fun a0 a1 a2 a3 a4 a5 a6 a7 => ⟨a0, a1, f a2, a3, a4, a5, a6, a7⟩) x⟩ (fun d _ => Nat.rec (motive := fun _ => SO4) ⟨fun x => x.a3, fun f x => O4.rec (motive := fun _ => O4) (fun a0 a1 a2 a3 a4 a5 a6 a7 => ⟨a0, a1, a2, f a3, a4, a5, a6, a7⟩) x⟩ (fun d _ => Nat.rec (motive := fun _ => SO4) ⟨fun x => x.a4, fun f x => O4.rec (motive := fun _ => O4) (fun a0 a1 a2 a3 a4 a5 a6 a7 => ⟨a0, a1, a2, a3, f a4, a5, a6, a7⟩) x⟩ (fun d _ => Nat.rec (motive := fun _ => SO4) ⟨fun x => x.a5, fun f x => O4.rec (motive := fun _ => O4) (fun a0 a1 a2 a3 a4 a5 a6 a7 => ⟨a0, a1, a2, a3, a4, f a5, a6, a7⟩) x⟩ (fun d _ => Nat.rec (motive := fun _ => SO4) ⟨fun x => x.a6, fun f x => O4.rec (motive := fun _ => O4) (fun a0 a1 a2 a3 a4 a5 a6 a7 => ⟨a0, a1, a2, a3, a4, a5, f a6, a7⟩) x⟩ (fun d _ => ⟨fun x => x.a7, fun f x => O4.rec (motive := fun _ => O4) (fun a0 a1 a2 a3 a4 a5 a6 a7 => ⟨a0, a1, a2, a3, a4, a5, a6, f a7⟩) x⟩) d) d) d) d) d) d) d
noncomputable def cO4 (d : Nat) : SO4 := Nat.rec (motive := fun _ => SO4) (sO4 Nat.zero) (fun m _ => sO4 (Nat.succ m)) d
theorem cO4_eq (d : Nat) : cO4 d = sO4 d := by cases d <;> rfl
theorem sO4_same (d : Nat) (f : O3 → O3) (x : O4) : (sO4 d).g ((sO4 d).m f x) = f ((sO4 d).g x) := by
  cases x
  rcases d with _ | _ | _ | _ | _ | _ | _ | d <;> rfl
theorem sO4_ne (d e : Nat) (f : O3 → O3) (x : O4) (hd : d < 8) (he : e < 8) (h : d ≠ e) : (sO4 e).g ((sO4 d).m f x) = (sO4 e).g x := by
  cases x
  rcases d with _ | _ | _ | _ | _ | _ | _ | _ | d <;> first | (exfalso; omega) | (rcases e with _ | _ | _ | _ | _ | _ | _ | _ | e <;> first | rfl | exact absurd rfl h | (exfalso; omega))
structure O5 where
  (a0 a1 a2 a3 a4 a5 a6 a7 : O4)
structure SO5 where
  (g : O5 → O4) (m : (O4 → O4) → O5 → O5)
noncomputable def sO5 (d : Nat) : SO5 := Nat.rec (motive := fun _ => SO5) ⟨fun x => x.a0, fun f x => O5.rec (motive := fun _ => O5) (fun a0 a1 a2 a3 a4 a5 a6 a7 => ⟨f a0, a1, a2, a3, a4, a5, a6, a7⟩) x⟩ (fun d _ => Nat.rec (motive := fun _ => SO5) ⟨fun x => x.a1, fun f x => O5.rec (motive := fun _ => O5) (fun a0 a1 a2 a3 a4 a5 a6 a7 => ⟨a0, f a1, a2, a3, a4, a5, a6, a7⟩) x⟩ (fun d _ => Nat.rec (motive := fun _ => SO5) ⟨fun x => x.a2, fun f x => O5.rec (motive := fun _ => O5) (fun a0 a1 a2 a3 a4 a5 a6 a7 => ⟨a0, a1, f a2, a3, a4, a5, a6, a7⟩) x⟩ (fun d _ => Nat.rec (motive := fun _ => SO5) ⟨fun x => x.a3, fun f x => O5.rec (motive := fun _ => O5) (fun a0 a1 a2 a3 a4 a5 a6 a7 => ⟨a0, a1, a2, f a3, a4, a5, a6, a7⟩) x⟩ (fun d _ => Nat.rec (motive := fun _ => SO5) ⟨fun x => x.a4, fun f x => O5.rec (motive := fun _ => O5) (fun a0 a1 a2 a3 a4 a5 a6 a7 => ⟨a0, a1, a2, a3, f a4, a5, a6, a7⟩) x⟩ (fun d _ => Nat.rec (motive := fun _ => SO5) ⟨fun x => x.a5, fun f x => O5.rec (motive := fun _ => O5) (fun a0 a1 a2 a3 a4 a5 a6 a7 => ⟨a0, a1, a2, a3, a4, f a5, a6, a7⟩) x⟩ (fun d _ => Nat.rec (motive := fun _ => SO5) ⟨fun x => x.a6, fun f x => O5.rec (motive := fun _ => O5) (fun a0 a1 a2 a3 a4 a5 a6 a7 => ⟨a0, a1, a2, a3, a4, a5, f a6, a7⟩) x⟩ (fun d _ => ⟨fun x => x.a7, fun f x => O5.rec (motive := fun _ => O5) (fun a0 a1 a2 a3 a4 a5 a6 a7 => ⟨a0, a1, a2, a3, a4, a5, a6, f a7⟩) x⟩) d) d) d) d) d) d) d
noncomputable def cO5 (d : Nat) : SO5 := Nat.rec (motive := fun _ => SO5) (sO5 Nat.zero) (fun m _ => sO5 (Nat.succ m)) d
theorem cO5_eq (d : Nat) : cO5 d = sO5 d := by cases d <;> rfl
theorem sO5_same (d : Nat) (f : O4 → O4) (x : O5) : (sO5 d).g ((sO5 d).m f x) = f ((sO5 d).g x) := by
  cases x
  rcases d with _ | _ | _ | _ | _ | _ | _ | d <;> rfl
theorem sO5_ne (d e : Nat) (f : O4 → O4) (x : O5) (hd : d < 8) (he : e < 8) (h : d ≠ e) : (sO5 e).g ((sO5 d).m f x) = (sO5 e).g x := by
  cases x
  rcases d with _ | _ | _ | _ | _ | _ | _ | _ | d <;> first | (exfalso; omega) | (rcases e with _ | _ | _ | _ | _ | _ | _ | _ | e <;> first | rfl | exact absurd rfl h | (exfalso; omega))
structure O6 where
  (a0 a1 a2 a3 a4 a5 a6 a7 : O5)
structure SO6 where
  (g : O6 → O5) (m : (O5 → O5) → O6 → O6)
noncomputable def sO6 (d : Nat) : SO6 := Nat.rec (motive := fun _ => SO6) ⟨fun x => x.a0, fun f x => O6.rec (motive := fun _ => O6) (fun a0 a1 a2 a3 a4 a5 a6 a7 => ⟨f a0, a1, a2, a3, a4, a5, a6, a7⟩) x⟩ (fun d _ => Nat.rec (motive := fun _ => SO6) ⟨fun x => x.a1, fun f x => O6.rec (motive := fun _ => O6) (fun a0 a1 a2 a3 a4 a5 a6 a7 => ⟨a0, f a1, a2, a3, a4, a5, a6, a7⟩) x⟩ (fun d _ => Nat.rec (motive := fun _ => SO6) ⟨fun x => x.a2, fun f x => O6.rec (motive := fun _ => O6) (fun a0 a1 a2 a3 a4 a5 a6 a7 => ⟨a0, a1, f a2, a3, a4, a5, a6, a7⟩) x⟩ (fun d _ => Nat.rec (motive := fun _ => SO6) ⟨fun x => x.a3, fun f x => O6.rec (motive := fun _ => O6) (fun a0 a1 a2 a3 a4 a5 a6 a7 => ⟨a0, a1, a2, f a3, a4, a5, a6, a7⟩) x⟩ (fun d _ => Nat.rec (motive := fun _ => SO6) ⟨fun x => x.a4, fun f x => O6.rec (motive := fun _ => O6) (fun a0 a1 a2 a3 a4 a5 a6 a7 => ⟨a0, a1, a2, a3, f a4, a5, a6, a7⟩) x⟩ (fun d _ => Nat.rec (motive := fun _ => SO6) ⟨fun x => x.a5, fun f x => O6.rec (motive := fun _ => O6) (fun a0 a1 a2 a3 a4 a5 a6 a7 => ⟨a0, a1, a2, a3, a4, f a5, a6, a7⟩) x⟩ (fun d _ => Nat.rec (motive := fun _ => SO6) ⟨fun x => x.a6, fun f x => O6.rec (motive := fun _ => O6) (fun a0 a1 a2 a3 a4 a5 a6 a7 => ⟨a0, a1, a2, a3, a4, a5, f a6, a7⟩) x⟩ (fun d _ => ⟨fun x => x.a7, fun f x => O6.rec (motive := fun _ => O6) (fun a0 a1 a2 a3 a4 a5 a6 a7 => ⟨a0, a1, a2, a3, a4, a5, a6, f a7⟩) x⟩) d) d) d) d) d) d) d
noncomputable def cO6 (d : Nat) : SO6 := Nat.rec (motive := fun _ => SO6) (sO6 Nat.zero) (fun m _ => sO6 (Nat.succ m)) d
theorem cO6_eq (d : Nat) : cO6 d = sO6 d := by cases d <;> rfl
theorem sO6_same (d : Nat) (f : O5 → O5) (x : O6) : (sO6 d).g ((sO6 d).m f x) = f ((sO6 d).g x) := by
  cases x
  rcases d with _ | _ | _ | _ | _ | _ | _ | d <;> rfl
theorem sO6_ne (d e : Nat) (f : O5 → O5) (x : O6) (hd : d < 8) (he : e < 8) (h : d ≠ e) : (sO6 e).g ((sO6 d).m f x) = (sO6 e).g x := by
  cases x
  rcases d with _ | _ | _ | _ | _ | _ | _ | _ | d <;> first | (exfalso; omega) | (rcases e with _ | _ | _ | _ | _ | _ | _ | _ | e <;> first | rfl | exact absurd rfl h | (exfalso; omega))
def eO1 : O1 := ⟨Ob.dead, Ob.dead, Ob.dead, Ob.dead, Ob.dead, Ob.dead, Ob.dead, Ob.dead⟩
theorem sO1_e (d : Nat) : (sO1 d).g eO1 = Ob.dead := by
  rcases d with _ | _ | _ | _ | _ | _ | _ | d <;> rfl
def eO2 : O2 := ⟨eO1, eO1, eO1, eO1, eO1, eO1, eO1, eO1⟩
theorem sO2_e (d : Nat) : (sO2 d).g eO2 = eO1 := by
  rcases d with _ | _ | _ | _ | _ | _ | _ | d <;> rfl
def eO3 : O3 := ⟨eO2, eO2, eO2, eO2, eO2, eO2, eO2, eO2⟩
theorem sO3_e (d : Nat) : (sO3 d).g eO3 = eO2 := by
  rcases d with _ | _ | _ | _ | _ | _ | _ | d <;> rfl
def eO4 : O4 := ⟨eO3, eO3, eO3, eO3, eO3, eO3, eO3, eO3⟩
theorem sO4_e (d : Nat) : (sO4 d).g eO4 = eO3 := by
  rcases d with _ | _ | _ | _ | _ | _ | _ | d <;> rfl
def eO5 : O5 := ⟨eO4, eO4, eO4, eO4, eO4, eO4, eO4, eO4⟩
theorem sO5_e (d : Nat) : (sO5 d).g eO5 = eO4 := by
  rcases d with _ | _ | _ | _ | _ | _ | _ | d <;> rfl
def eO6 : O6 := ⟨eO5, eO5, eO5, eO5, eO5, eO5, eO5, eO5⟩
theorem sO6_e (d : Nat) : (sO6 d).g eO6 = eO5 := by
  rcases d with _ | _ | _ | _ | _ | _ | _ | d <;> rfl
structure L6 where
  (g : O6 → Ob) (s : Ob → O6 → O6)
noncomputable def l6 (t : Nat) : L6 := SO1.rec (motive := fun _ => L6) (fun g1 m1 => SO2.rec (motive := fun _ => L6) (fun g2 m2 => SO3.rec (motive := fun _ => L6) (fun g3 m3 => SO4.rec (motive := fun _ => L6) (fun g4 m4 => SO5.rec (motive := fun _ => L6) (fun g5 m5 => SO6.rec (motive := fun _ => L6) (fun g6 m6 => ⟨fun x => g1 (g2 (g3 (g4 (g5 (g6 x))))), fun v x => m6 (m5 (m4 (m3 (m2 (m1 (fun _ => v)))))) x⟩) (cO6 (Nat.div t 32768))) (cO5 (Nat.mod (Nat.div t 4096) 8))) (cO4 (Nat.mod (Nat.div t 512) 8))) (cO3 (Nat.mod (Nat.div t 64) 8))) (cO2 (Nat.mod (Nat.div t 8) 8))) (cO1 (Nat.mod t 8))
theorem l6_def (t : Nat) : l6 t = ⟨fun x => (sO1 (Nat.mod t 8)).g ((sO2 (Nat.mod (Nat.div t 8) 8)).g ((sO3 (Nat.mod (Nat.div t 64) 8)).g ((sO4 (Nat.mod (Nat.div t 512) 8)).g ((sO5 (Nat.mod (Nat.div t 4096) 8)).g ((sO6 (Nat.div t 32768)).g x))))), fun v x => (sO6 (Nat.div t 32768)).m ((sO5 (Nat.mod (Nat.div t 4096) 8)).m ((sO4 (Nat.mod (Nat.div t 512) 8)).m ((sO3 (Nat.mod (Nat.div t 64) 8)).m ((sO2 (Nat.mod (Nat.div t 8) 8)).m ((sO1 (Nat.mod t 8)).m (fun _ => v)))))) x⟩ := by
  unfold l6
  simp only [cO1_eq, cO2_eq, cO3_eq, cO4_eq, cO5_eq, cO6_eq]
theorem l6_same (t : Nat) (v : Ob) (x : O6) : (l6 t).g ((l6 t).s v x) = v := by
  simp only [l6_def, sO1_same, sO2_same, sO3_same, sO4_same, sO5_same, sO6_same]
theorem l6_ne (t u : Nat) (v : Ob) (x : O6) (ht : t < 262144) (hu : u < 262144) (h : t ≠ u) : (l6 u).g ((l6 t).s v x) = (l6 u).g x := by
  have hm : ∀ a b, Nat.mod a b = a % b := fun _ _ => rfl
  have hv : ∀ a b, Nat.div a b = a / b := fun _ _ => rfl
  simp only [l6_def, hm, hv]
  by_cases h6 : t / 32768 = u / 32768
  · rw [h6, sO6_same]
    by_cases h5 : t / 4096 % 8 = u / 4096 % 8
    · rw [h5, sO5_same]
      by_cases h4 : t / 512 % 8 = u / 512 % 8
      · rw [h4, sO4_same]
        by_cases h3 : t / 64 % 8 = u / 64 % 8
        · rw [h3, sO3_same]
          by_cases h2 : t / 8 % 8 = u / 8 % 8
          · rw [h2, sO2_same]
            by_cases h1 : t % 8 = u % 8
            · exfalso; omega
            · rw [sO1_ne _ _ _ _ (show t % 8 < 8 by omega) (show u % 8 < 8 by omega) (show t % 8 ≠ u % 8 from h1)]
          · rw [sO2_ne _ _ _ _ (show t / 8 % 8 < 8 by omega) (show u / 8 % 8 < 8 by omega) (show t / 8 % 8 ≠ u / 8 % 8 from h2)]
        · rw [sO3_ne _ _ _ _ (show t / 64 % 8 < 8 by omega) (show u / 64 % 8 < 8 by omega) (show t / 64 % 8 ≠ u / 64 % 8 from h3)]
      · rw [sO4_ne _ _ _ _ (show t / 512 % 8 < 8 by omega) (show u / 512 % 8 < 8 by omega) (show t / 512 % 8 ≠ u / 512 % 8 from h4)]
    · rw [sO5_ne _ _ _ _ (show t / 4096 % 8 < 8 by omega) (show u / 4096 % 8 < 8 by omega) (show t / 4096 % 8 ≠ u / 4096 % 8 from h5)]
  · rw [sO6_ne _ _ _ _ (show t / 32768 < 8 by omega) (show u / 32768 < 8 by omega) (show t / 32768 ≠ u / 32768 from h6)]
noncomputable def intK (v : Value) (k : IntKind → Int → Ans) : Ans := Value.rec (motive_1 := fun _ => (IntKind → Int → Ans) → Ans) (motive_2 := fun _ => PUnit) (motive_3 := fun _ => PUnit) (fun _ _ => .err 1001 0) (fun k n q => q k n) (fun _ _ _ => .err 1001 0) (fun _ _ _ _ => .err 1001 0) (fun _ _ => .err 1001 0) (fun _ _ => .err 1001 0) (fun _ _ _ _ => .err 1001 0) (fun _ _ => .err 1001 0) (fun _ _ => .err 1001 0) (fun _ _ _ _ _ _ => .err 1001 0) (fun _ => .err 1001 0) (fun _ _ _ _ => .err 1001 0) (fun _ => .err 1001 0) (fun _ _ _ => .err 1001 0) (fun _ _ _ => .err 1001 0) (fun _ _ => PUnit.unit) PUnit.unit (fun _ _ _ _ => PUnit.unit) v k
noncomputable def ptrK (v : Value) (k : Nat → Nat → Ans) : Ans := Value.rec (motive_1 := fun _ => (Nat → Nat → Ans) → Ans) (motive_2 := fun _ => PUnit) (motive_3 := fun _ => PUnit) (fun _ _ => .err 1002 2) (fun _ _ _ => .err 1002 2) (fun _ _ _ => .err 1002 2) (fun _ _ _ _ => .err 1002 2) (fun _ _ => .err 1002 2) (fun a q => Option.rec (motive := fun _ => Ans) (.err 1002 0) (fun ad => Option.rec (motive := fun _ => Ans) (q ad.block ad.off) (fun _ => .err 1002 1) ad.spot) a) (fun _ _ _ _ => .err 1002 2) (fun _ _ => .err 1002 2) (fun _ _ => .err 1002 2) (fun _ _ _ _ _ _ => .err 1002 2) (fun _ => .err 1002 2) (fun _ _ _ _ => .err 1002 2) (fun _ => .err 1002 2) (fun _ _ _ => .err 1002 2) (fun _ _ _ => .err 1002 2) (fun _ _ => PUnit.unit) PUnit.unit (fun _ _ _ _ => PUnit.unit) v k
noncomputable def slcK (v : Value) (x : Nat → Nat → Ans) (y : Nat → Nat → Nat → Nat → Ans) : Ans := Value.rec (motive_1 := fun _ => (Nat → Nat → Ans) → (Nat → Nat → Nat → Nat → Ans) → Ans) (motive_2 := fun _ => PUnit) (motive_3 := fun _ => PUnit) (fun _ _ _ => .err 1003 2) (fun _ _ _ _ => .err 1003 2) (fun _ _ _ _ => .err 1003 2) (fun _ _ _ _ _ => .err 1003 2) (fun _ _ _ => .err 1003 2) (fun _ _ _ => .err 1003 2) (fun a l c p q => Option.rec (motive := fun _ => Ans) (p l c) (fun ad => Option.rec (motive := fun _ => Ans) (q ad.block ad.off l c) (fun _ => .err 1003 1) ad.spot) a) (fun _ _ _ => .err 1003 2) (fun _ _ _ => .err 1003 2) (fun _ _ _ _ _ _ _ => .err 1003 2) (fun _ _ => .err 1003 2) (fun _ _ _ _ _ => .err 1003 2) (fun _ _ => .err 1003 2) (fun _ _ _ _ => .err 1003 2) (fun _ _ _ _ => .err 1003 2) (fun _ _ => PUnit.unit) PUnit.unit (fun _ _ _ _ => PUnit.unit) v x y
noncomputable def aggK (v : Value) (k : List Value → Ans) : Ans := Value.rec (motive_1 := fun _ => (List Value → Ans) → Ans) (motive_2 := fun _ => PUnit) (motive_3 := fun _ => PUnit) (fun _ _ => .err 1004 0) (fun _ _ _ => .err 1004 0) (fun _ _ _ => .err 1004 0) (fun _ _ _ _ => .err 1004 0) (fun _ _ => .err 1004 0) (fun _ _ => .err 1004 0) (fun _ _ _ _ => .err 1004 0) (fun _ _ => .err 1004 0) (fun _ _ => .err 1004 0) (fun _ _ _ _ _ _ => .err 1004 0) (fun _ => .err 1004 0) (fun _ _ _ _ => .err 1004 0) (fun _ => .err 1004 0) (fun cs _ q => q cs.toList) (fun _ _ _ => .err 1004 0) (fun _ _ => PUnit.unit) PUnit.unit (fun _ _ _ _ => PUnit.unit) v k
noncomputable def tupK (v : Value) (k : List Value → Ans) : Ans := Value.rec (motive_1 := fun _ => (List Value → Ans) → Ans) (motive_2 := fun _ => PUnit) (motive_3 := fun _ => PUnit) (fun _ _ => .err 1005 0) (fun _ _ _ => .err 1005 0) (fun _ _ _ => .err 1005 0) (fun _ _ _ _ => .err 1005 0) (fun _ _ => .err 1005 0) (fun _ _ => .err 1005 0) (fun _ _ _ _ => .err 1005 0) (fun _ _ => .err 1005 0) (fun _ _ => .err 1005 0) (fun _ _ _ _ _ _ => .err 1005 0) (fun _ => .err 1005 0) (fun _ _ _ _ => .err 1005 0) (fun _ => .err 1005 0) (fun _ _ _ => .err 1005 0) (fun cs _ q => q cs.toList) (fun _ _ => PUnit.unit) PUnit.unit (fun _ _ _ _ => PUnit.unit) v k
noncomputable def boolK (v : Value) (x y : Ans) : Ans := Value.rec (motive_1 := fun _ => Ans → Ans → Ans) (motive_2 := fun _ => PUnit) (motive_3 := fun _ => PUnit) (fun b p q => Bool.rec (motive := fun _ => Ans) q p b) (fun _ _ _ _ => .err 1006 0) (fun _ _ _ _ => .err 1006 0) (fun _ _ _ _ _ => .err 1006 0) (fun _ _ _ => .err 1006 0) (fun _ _ _ => .err 1006 0) (fun _ _ _ _ _ => .err 1006 0) (fun _ _ _ => .err 1006 0) (fun _ _ _ => .err 1006 0) (fun _ _ _ _ _ _ _ => .err 1006 0) (fun _ _ => .err 1006 0) (fun _ _ _ _ _ => .err 1006 0) (fun _ _ => .err 1006 0) (fun _ _ _ _ => .err 1006 0) (fun _ _ _ _ => .err 1006 0) (fun _ _ => PUnit.unit) PUnit.unit (fun _ _ _ _ => PUnit.unit) v x y
noncomputable def boolD (v : Value) (x y z : Ans) : Ans := Value.rec (motive_1 := fun _ => Ans → Ans → Ans → Ans) (motive_2 := fun _ => PUnit) (motive_3 := fun _ => PUnit) (fun b p q _ => Bool.rec (motive := fun _ => Ans) q p b) (fun _ _ _ _ r0 => r0) (fun _ _ _ _ r0 => r0) (fun _ _ _ _ _ r0 => r0) (fun _ _ _ r0 => r0) (fun _ _ _ r0 => r0) (fun _ _ _ _ _ r0 => r0) (fun _ _ _ r0 => r0) (fun _ _ _ r0 => r0) (fun _ _ _ _ _ _ _ r0 => r0) (fun _ _ r0 => r0) (fun _ _ _ _ _ r0 => r0) (fun _ _ r0 => r0) (fun _ _ _ _ r0 => r0) (fun _ _ _ _ r0 => r0) (fun _ _ => PUnit.unit) PUnit.unit (fun _ _ _ _ => PUnit.unit) v x y z
noncomputable def binK (v : Value) (x : IntKind → Int → Ans) (y : ByteArray → Ans) (z : Ans) : Ans := Value.rec (motive_1 := fun _ => (IntKind → Int → Ans) → (ByteArray → Ans) → Ans → Ans) (motive_2 := fun _ => PUnit) (motive_3 := fun _ => PUnit) (fun _ _ _ r0 => r0) (fun k n p _ _ => p k n) (fun _ _ _ _ r0 => r0) (fun _ _ _ _ _ r0 => r0) (fun s _ q _ => q s) (fun _ _ _ r0 => r0) (fun _ _ _ _ _ r0 => r0) (fun _ _ _ r0 => r0) (fun _ _ _ r0 => r0) (fun _ _ _ _ _ _ _ r0 => r0) (fun _ _ r0 => r0) (fun _ _ _ _ _ r0 => r0) (fun _ _ r0 => r0) (fun _ _ _ _ r0 => r0) (fun _ _ _ _ r0 => r0) (fun _ _ => PUnit.unit) PUnit.unit (fun _ _ _ _ => PUnit.unit) v x y z
noncomputable def strK (v : Value) (k : ByteArray → Ans) : Ans := Value.rec (motive_1 := fun _ => (ByteArray → Ans) → Ans) (motive_2 := fun _ => PUnit) (motive_3 := fun _ => PUnit) (fun _ _ => .err 1007 0) (fun _ _ _ => .err 1007 0) (fun _ _ _ => .err 1007 0) (fun _ _ _ _ => .err 1007 0) (fun s q => q s) (fun _ _ => .err 1007 0) (fun _ _ _ _ => .err 1007 0) (fun _ _ => .err 1007 0) (fun _ _ => .err 1007 0) (fun _ _ _ _ _ _ => .err 1007 0) (fun _ => .err 1007 0) (fun _ _ _ _ => .err 1007 0) (fun _ => .err 1007 0) (fun _ _ _ => .err 1007 0) (fun _ _ _ => .err 1007 0) (fun _ _ => PUnit.unit) PUnit.unit (fun _ _ _ _ => PUnit.unit) v k
noncomputable def funcK (v : Value) (k : FuncId → List Value → List Value → Ans) : Ans := Value.rec (motive_1 := fun _ => (FuncId → List Value → List Value → Ans) → Ans) (motive_2 := fun _ => PUnit) (motive_3 := fun _ => PUnit) (fun _ _ => .err 1008 0) (fun _ _ _ => .err 1008 0) (fun _ _ _ => .err 1008 0) (fun _ _ _ _ => .err 1008 0) (fun _ _ => .err 1008 0) (fun _ _ => .err 1008 0) (fun _ _ _ _ => .err 1008 0) (fun _ _ => .err 1008 0) (fun _ _ => .err 1008 0) (fun fn fs cs _ _ q => Fn.rec (motive := fun _ => Ans) (fun f => q f fs.toList cs.toList) (fun _ => .err 1008 1) (fun _ _ => .err 1008 2) (fun _ _ _ _ => .err 1008 3) (fun _ => .err 1008 4) fn) (fun _ => .err 1008 0) (fun _ _ _ _ => .err 1008 0) (fun _ => .err 1008 0) (fun _ _ _ => .err 1008 0) (fun _ _ _ => .err 1008 0) (fun _ _ => PUnit.unit) PUnit.unit (fun _ _ _ _ => PUnit.unit) v k
noncomputable def cellsF (v : Value)  : List Value := Value.rec (motive_1 := fun _ => List Value → List Value) (motive_2 := fun _ => PUnit) (motive_3 := fun _ => PUnit) (fun _ d0 => d0) (fun _ _ d0 => d0) (fun _ _ d0 => d0) (fun _ _ _ d0 => d0) (fun _ d0 => d0) (fun _ d0 => d0) (fun _ _ _ d0 => d0) (fun _ d0 => d0) (fun _ d0 => d0) (fun _ _ _ _ _ d0 => d0) (fun d0 => d0) (fun _ _ _ d0 => d0) (fun d0 => d0) (fun cs _ _ => cs.toList) (fun _ _ d0 => d0) (fun _ _ => PUnit.unit) PUnit.unit (fun _ _ _ _ => PUnit.unit) v [v]
noncomputable def isOneF (v : Value)  : Bool := Value.rec (motive_1 := fun _ => Bool) (motive_2 := fun _ => PUnit) (motive_3 := fun _ => PUnit) (fun _ => true) (fun _ _ => true) (fun _ _ => true) (fun _ _ _ => true) (fun _ => true) (fun _ => true) (fun _ _ _ => true) (fun _ => true) (fun _ => true) (fun _ _ _ _ _ => true) (true) (fun _ _ _ => true) (true) (fun cs _ => false) (fun cs _ => false) (fun _ _ => PUnit.unit) PUnit.unit (fun _ _ _ _ => PUnit.unit) v
theorem intK_ok {v : Value} {k : IntKind → Int → Ans} {V : Value} {HH : Hp} (h : intK v k = .ok V HH) : ∃ kk n, v = .int kk n ∧ k kk n = .ok V HH := by
  cases v <;> first | exact ⟨_, _, rfl, h⟩ | exact ⟨_, rfl, h⟩ | cases h
theorem ptrK_ok {v : Value} {k : Nat → Nat → Ans} {V : Value} {HH : Hp} (h : ptrK v k = .ok V HH) : ∃ b o, v = .pointer (some ⟨b, o, none⟩) ∧ k b o = .ok V HH := by
  cases v <;> first | (rename_i a; rcases a with _ | ⟨b, o, _ | s⟩ <;> first | exact ⟨_, _, rfl, h⟩ | cases h) | cases h
theorem slcK_ok {v : Value} {x : Nat → Nat → Ans} {y : Nat → Nat → Nat → Nat → Ans} {V : Value} {HH : Hp} (h : slcK v x y = .ok V HH) : (∃ l c, v = .slice none l c ∧ x l c = .ok V HH) ∨ (∃ b o l c, v = .slice (some ⟨b, o, none⟩) l c ∧ y b o l c = .ok V HH) := by
  cases v <;> first | (rename_i a l c; rcases a with _ | ⟨b, o, _ | s⟩ <;> first | exact .inl ⟨_, _, rfl, h⟩ | exact .inr ⟨_, _, _, _, rfl, h⟩ | cases h) | cases h
theorem aggK_ok {v : Value} {k : List Value → Ans} {V : Value} {HH : Hp} (h : aggK v k = .ok V HH) : ∃ cs, v = .agg cs ∧ k cs.toList = .ok V HH := by
  cases v <;> first | exact ⟨_, _, rfl, h⟩ | exact ⟨_, rfl, h⟩ | cases h
theorem tupK_ok {v : Value} {k : List Value → Ans} {V : Value} {HH : Hp} (h : tupK v k = .ok V HH) : ∃ cs, v = .tuple cs ∧ k cs.toList = .ok V HH := by
  cases v <;> first | exact ⟨_, _, rfl, h⟩ | exact ⟨_, rfl, h⟩ | cases h
theorem boolK_ok {v : Value} {x y : Ans} {V : Value} {HH : Hp} (h : boolK v x y = .ok V HH) : (v = .bool true ∧ x = .ok V HH) ∨ (v = .bool false ∧ y = .ok V HH) := by
  cases v <;> first | (rename_i b; cases b; exact .inr ⟨rfl, h⟩; exact .inl ⟨rfl, h⟩) | cases h
theorem strK_ok {v : Value} {k : ByteArray → Ans} {V : Value} {HH : Hp} (h : strK v k = .ok V HH) : ∃ s, v = .string s ∧ k s = .ok V HH := by
  cases v <;> first | exact ⟨_, _, rfl, h⟩ | exact ⟨_, rfl, h⟩ | cases h
theorem funcK_ok {v : Value} {k : FuncId → List Value → List Value → Ans} {V : Value} {HH : Hp} (h : funcK v k = .ok V HH) : ∃ f fs cs, v = .func (.func f) fs cs ∧ k f fs.toList cs.toList = .ok V HH := by
  cases v <;> first | (rename_i fn fs cs; cases fn <;> first | exact ⟨_, _, _, rfl, h⟩ | cases h) | cases h
theorem cellsF_eq (v : Value) : cellsF v = cellsL v := by cases v <;> rfl
theorem isOneF_eq (v : Value) : isOneF v = isOne v := by cases v <;> rfl
end Go.Abs
set_option linter.unusedVariables false
namespace Go.Abs
open Go.RowKit
structure FH where
  (t : O6) (n lo : Nat)
noncomputable def stN (n : Nat) (f : Nat → Ans) : Ans := Nat.rec (motive := fun _ => Ans) (f Nat.zero) (fun m _ => f (Nat.succ m)) n
noncomputable def stI (n : Int) (f : Int → Ans) : Ans := Int.rec (motive := fun _ => Ans) (fun a => stN a fun a => f (Int.ofNat a)) (fun a => stN a fun a => f (Int.negSucc a)) n
noncomputable def natK (n : Int) (f : Nat → Ans) : Ans := Int.rec (motive := fun _ => Ans) f (fun _ => .err 1011 0) n
noncomputable def ifK (b : Bool) (x y : Ans) : Ans := Bool.rec (motive := fun _ => Ans) y x b
noncomputable def mapK (v : Value) (x : Ans) (y : Nat → Ans) : Ans := match v with
  | .map none => x
  | .map (some b) => y b
  | _ => .err 1014 0
noncomputable def dropR (n : Nat) : List Value → List Value := Nat.rec (motive := fun _ => List Value → List Value) (fun l => l) (fun _ ih l => List.rec (motive := fun _ => List Value) [] (fun _ l _ => ih l) l) n
noncomputable def takeR (n : Nat) : List Value → List Value := Nat.rec (motive := fun _ => List Value → List Value) (fun _ => []) (fun _ ih l => List.rec (motive := fun _ => List Value) [] (fun v l _ => v :: ih l) l) n
noncomputable def nthR (n : Nat) : List Value → (Value → Ans) → Ans := Nat.rec (motive := fun _ => List Value → (Value → Ans) → Ans) (fun l k => List.rec (motive := fun _ => Ans) (.err 1012 0) (fun v _ _ => k v) l) (fun _ ih l k => List.rec (motive := fun _ => Ans) (.err 1012 1) (fun _ l _ => ih l k) l) n
noncomputable def hdL (l : List Value) : Value := List.rec (motive := fun _ => Value) undef (fun v _ _ => v) l
noncomputable def tlL (l : List Value) : List Value := List.rec (motive := fun _ => List Value) [] (fun _ l _ => l) l
noncomputable def toL1 (c : V1) : List Value := V1.rec (motive := fun _ => List Value) (fun a0 a1 a2 a3 a4 a5 a6 a7 => [a0, a1, a2, a3, a4, a5, a6, a7]) c
noncomputable def rd1 (c : V1) (n o : Nat) : List Value := takeR n (dropR o (toL1 c))
noncomputable def of1 (l : List Value) : V1 := ⟨hdL l, hdL (tlL l), hdL (tlL (tlL l)), hdL (tlL (tlL (tlL l))), hdL (tlL (tlL (tlL (tlL l)))), hdL (tlL (tlL (tlL (tlL (tlL l))))), hdL (tlL (tlL (tlL (tlL (tlL (tlL l)))))), hdL (tlL (tlL (tlL (tlL (tlL (tlL (tlL l))))))) ⟩
noncomputable def rd5 (c : V5) (n : Nat) : Nat → (List Value → Ans) → Ans := Nat.rec (motive := fun _ => Nat → (List Value → Ans) → Ans) (fun _ k => k []) (fun _ ih o k => stN o fun o => ih (Nat.succ o) fun l => k ((l5 o).g c :: l)) n
noncomputable def fz5 (i : Nat) (c : V5) (k : Ans) : Ans := V1.rec (motive := fun _ => Ans) (fun _ _ _ _ _ _ _ _ => k) ((sV2 (Nat.mod (Nat.div i 8) 8)).g ((sV3 (Nat.mod (Nat.div i 64) 8)).g ((sV4 (Nat.mod (Nat.div i 512) 8)).g ((sV5 (Nat.div i 4096)).g c))))
noncomputable def fzK (i : Nat) (k : V5 → Ans) (c : V5) : Ans := fz5 i c (k c)
noncomputable def put5 (i : Nat) (v : Value) (c : V5) (k : V5 → Ans) : Ans := fzK i k ((l5 i).s v c)
noncomputable def put5L (l : List Value) : Nat → V5 → (V5 → Ans) → Ans := List.rec (motive := fun _ => Nat → V5 → (V5 → Ans) → Ans) (fun _ c k => k c) (fun v _ ih i c k => stN i fun i => put5 i v c fun c => ih (Nat.succ i) c k) l
noncomputable def set1 (l : List Value) : Nat → V1 → V1 := List.rec (motive := fun _ => Nat → V1 → V1) (fun _ c => c) (fun v _ ih o c => ih (Nat.succ o) ((sV1 o).m (fun _ => v) c)) l
noncomputable def obK (H : FH) (b : Nat) (k : Ob → Ans) : Ans := FH.rec (motive := fun _ => Ans) (fun t n _ => ifK (Nat.ble (Nat.succ b) n) (k ((l6 b).g t)) (.err 10 b)) H
noncomputable def cellsK (o : Ob) (ks : V1 → Nat → TypeId → Bool → Ans) (kb : V5 → Nat → TypeId → Bool → Ans) : Ans :=
  Ob.rec (motive := fun _ => (V1 → Nat → TypeId → Bool → Ans) → (V5 → Nat → TypeId → Bool → Ans) → Ans) (fun _ _ => .err 1010 0) (fun c n e w ks _ => ks c n e w) (fun c n e w _ kb => kb c n e w) (fun _ _ _ => .err 1010 1) o ks kb
noncomputable def othK (ob : Ob) (k : AObj → Ans) : Ans := Ob.rec (motive := fun _ => (AObj → Ans) → Ans) (fun _ => .err 1013 0) (fun _ _ _ _ _ => .err 1013 1) (fun _ _ _ _ _ => .err 1013 2) (fun o k => k o) ob k
noncomputable def esK (o : AObj) (k : List MapEntry → Nat → Ans) : Ans := AObj.rec (motive := fun _ => (List MapEntry → Nat → Ans) → Ans) (fun _ _ _ _ _ => .err 1015 0) (fun es c k => k es c) (fun _ _ _ => .err 1015 1) (fun _ => .err 1015 2) o k
noncomputable def newF (H : FH) (o : Ob) (k : Nat → FH → Ans) : Ans := FH.rec (motive := fun _ => Ans) (fun t n lo => ifK (Nat.ble (Nat.succ n) 262144) (stN n fun b => k b ⟨(l6 b).s o t, Nat.succ b, lo⟩) (.err 6 0)) H
noncomputable def mkOb (l : List Value) (e : TypeId) (opn : Bool) (k : Ob → Ans) : Ans := stN (len l) fun n => ifK (Nat.ble n 8) (k (.small (of1 l) n e opn)) (ifK (Nat.ble n 32768) (put5L l Nat.zero eV5 fun c => k (.big c n e opn)) (.err 7 0))
noncomputable def rowF (H : FH) (l : List Value) (e : TypeId) (opn : Bool) (k : Nat → FH → Ans) : Ans := ifK (allL isOneF l) (mkOb l e opn fun o => newF H o k) (.err 5 0)
noncomputable def rdF (ob : Ob) (n o : Nat) (k : List Value → Ans) : Ans :=
  cellsK ob (fun c m _ _ => ifK (Nat.ble (Nat.add o n) m) (k (rd1 c n o)) (.err 11 o)) (fun c m _ _ => ifK (Nat.ble (Nat.add o n) m) (rd5 c n o k) (.err 11 o))
noncomputable def ldAgg (s : Nat) (H : FH) (a : Value) (k : Value → Ans) : Ans := ptrK a fun b o => obK H b fun ob => rdF ob s o fun l => k (.agg ⟨l⟩)
noncomputable def ldOne (H : FH) (a : Value) (k : Value → Ans) : Ans := ptrK a fun b o => obK H b fun ob =>
  cellsK ob (fun c n _ _ => ifK (Nat.ble (Nat.succ o) n) (k ((sV1 o).g c)) (.err 12 o)) (fun c n _ _ => ifK (Nat.ble (Nat.succ o) n) (k ((l5 o).g c)) (.err 12 o))
structure LdC where
  (go : FH → Value → (Value → Ans) → Ans)
noncomputable def ldC (P : Program) (t : TypeId) : LdC :=
  match aggA P t, sizeA P t with
  | some true, some s => ⟨ldAgg s⟩
  | some false, some _ => ⟨ldOne⟩
  | _, _ => ⟨fun _ _ _ => .err 14 t⟩
noncomputable def backF (H : FH) (b : Nat) (k : FH → Ans) (ob : Ob) : Ans := FH.rec (motive := fun _ => Ans) (fun t n l => stN (lowr l b) fun lo => k ⟨(l6 b).s ob t, n, lo⟩) H
noncomputable def storeLF (H : FH) (b o : Nat) (l : List Value) (k : FH → Ans) : Ans := obK H b fun ob =>
  cellsK ob (fun c n e w => ifK (Nat.ble (Nat.add o (len l)) n) (ifK (allL isOneF l) (backF H b k (.small (set1 l o c) n e w)) (.err 22 o)) (.err 21 o))
    (fun c n e w => ifK (Nat.ble (Nat.add o (len l)) n) (ifK (allL isOneF l) (put5L l o c fun c => backF H b k (.big c n e w)) (.err 22 o)) (.err 21 o))
noncomputable def store1F (H : FH) (b o : Nat) (v : Value) (k : FH → Ans) : Ans := obK H b fun ob =>
  cellsK ob (fun c n e w => ifK (Nat.ble (Nat.succ o) n) (backF H b k (.small ((sV1 o).m (fun _ => v) c) n e w)) (.err 21 o))
    (fun c n e w => ifK (Nat.ble (Nat.succ o) n) (put5 o v c fun c => backF H b k (.big c n e w)) (.err 21 o))
structure StC where
  (go : FH → Value → Value → (FH → Ans) → Ans)
noncomputable def stGen (s : Nat) (H : FH) (b o : Nat) (v : Value) (k : FH → Ans) : Ans := ifK (Nat.beq (len (cellsF v)) s) (storeLF H b o (cellsF v) k) (.err 24 s)
noncomputable def stC (P : Program) (t : TypeId) : StC :=
  match sizeA P t with
  | some s => match Nat.beq s 1 with
    | true => ⟨fun H a v k => ptrK a fun b o => ifK (isOneF v) (store1F H b o v k) (stGen 1 H b o v k)⟩
    | false => ⟨fun H a v k => ptrK a fun b o => stGen s H b o v k⟩
  | none => ⟨fun _ _ _ _ => .err 25 t⟩
structure CG where
  (g : V3 → Value)
noncomputable def cgx (o : Operand) : CG := Operand.rec (motive := fun _ => CG) (fun t => L3.rec (motive := fun _ => CG) (fun g _ => ⟨g⟩) (l3 t)) (fun v => ⟨fun _ => v⟩) (fun _ => ⟨fun _ => undef⟩) (fun f => ⟨fun _ => .func (.func f) #[] #[]⟩) o
noncomputable def okx (nt : Nat) (o : Operand) : Bool := Operand.rec (motive := fun _ => Bool) (fun t => Nat.blt t nt) (fun v => constOk v) (fun _ => false) (fun _ => true) o
structure CL where
  (g : V3 → List Value)
noncomputable def cgl (l : List Operand) : CL := List.rec (motive := fun _ => CL) ⟨fun _ => []⟩ (fun o _ ih => CG.rec (motive := fun _ => CL) (fun gx => CL.rec (motive := fun _ => CL) (fun gl => ⟨fun T => gx T :: gl T⟩) ih) (cgx o)) l
noncomputable def okl (nt : Nat) (l : List Operand) : Bool := List.rec (motive := fun _ => Bool) true (fun o _ ih => Bool.rec (motive := fun _ => Bool) false ih (okx nt o)) l
structure CO where
  (g : V3 → Option Value)
noncomputable def cgo (o : Option Operand) : CO := Option.rec (motive := fun _ => CO) ⟨fun _ => none⟩ (fun o => ⟨fun T => some ((cgx o).g T)⟩) o
noncomputable def oko (nt : Nat) (o : Option Operand) : Bool := Option.rec (motive := fun _ => Bool) true (fun o => okx nt o) o
noncomputable def fillF (place : Nat → Option (Nat × Nat)) (T : V3) (parts : List (Nat × Operand)) : List Value → (List Value → Ans) → Ans :=
  List.rec (motive := fun _ => List Value → (List Value → Ans) → Ans) (fun l k => k l) (fun p _ ih l k => Option.rec (motive := fun _ => Ans) (.err 30 p.1) (fun q => ifK (Nat.beq (len (cellsF ((cgx p.2).g T))) q.2) (ifK (Nat.ble (Nat.add q.1 q.2) (len l)) (ih (appL (takeR q.1 l) (appL (cellsF ((cgx p.2).g T)) (dropR (Nat.add q.1 q.2) l))) k) (.err 32 p.1)) (.err 31 p.1)) (place p.1)) parts
noncomputable def okp (nt : Nat) (l : List (Nat × Operand)) : Bool := List.rec (motive := fun _ => Bool) true (fun o _ ih => Bool.rec (motive := fun _ => Bool) false ih (okx nt o.2)) l
structure IC where
  (run : IntKind → IntKind → Int → Int → (Value → Ans) → Ans)
noncomputable def arC (f : Int → Int → Int) : IC := ⟨fun k k' a b r => ifK (kindEq k k') (stI (wrapF k (f a b)) fun n => r (.int k n)) (.err 60 0)⟩
noncomputable def cmC (f : Int → Int → Bool) : IC := ⟨fun k k' a b r => ifK (kindEq k k') (r (.bool (f a b))) (.err 60 0)⟩
noncomputable def iopC (op : BinOp) : IC := match op with
  | .add => arC iadd
  | .sub => arC isub
  | .mul => arC imul
  | .eql => cmC ieq
  | .neq => cmC fun a b => Bool.not (ieq a b)
  | .lss => cmC ilt
  | .leq => cmC fun a b => Bool.not (ilt b a)
  | .gtr => cmC fun a b => ilt b a
  | .geq => cmC fun a b => Bool.not (ilt a b)
  | .shl => ⟨fun k _ a b r => shiftBin .shl k a b r⟩
  | .shr => ⟨fun k _ a b r => shiftBin .shr k a b r⟩
  | op => ⟨fun k k' a b r => ifK (kindEq k k') (intBin op k a b r) (.err 60 0)⟩
structure BC where
  (run : Value → Value → (Value → Ans) → Ans)
noncomputable def binC (P : Program) (op : BinOp) (t : TypeId) : BC := IC.rec (motive := fun _ => BC) (fun io => ⟨fun a b r => binK a (fun k m => intK b fun k' n => io k k' m n r) (fun s => strK b fun s' => strBin op s s' r) (binTA P op t a b r)⟩) (iopC op)
abbrev CallF := FuncId → List Value → FH → (Value → FH → Ans) → Ans
structure COp where
  (run : CallF → V3 → FH → (Value → FH → Ans) → Ans)
def errC (c x : Nat) : COp := ⟨fun _ _ _ _ => .err c x⟩
noncomputable def okC (b : Bool) (c : COp) : COp := Bool.rec (motive := fun _ => COp) (errC 1100 0) c b
noncomputable def ok2 (a b : Bool) : Bool := Bool.rec (motive := fun _ => Bool) false b a
def H0 : Hp := ⟨.nil, 0, 0⟩
def szC (P : Program) (t : TypeId) (k : Nat → COp) : COp := match sizeA P t with
  | some s => k s
  | none => errC 1101 t
noncomputable def allocC (P : Program) (e : TypeId) : COp := match P.info? e with
  | some i => match i.zero with
    | some z => okC (constOk z) ⟨fun _ T H r => rowF H (cellsF z) e false fun b H => r (.pointer (some ⟨b, 0, none⟩)) H⟩
    | none => errC 202 e
  | none => errC 203 e
noncomputable def boxC (P : Program) (e : TypeId) (x : CG) : COp := match P.info? e with
  | some _ => ⟨fun _ T H r => rowF H (cellsF (x.g T)) e false fun b H => r (.pointer (some ⟨b, 0, none⟩)) H⟩
  | none => errC 204 e
noncomputable def buildC (P : Program) (t : TypeId) (parts : List (Nat × Operand)) : COp := match zeroA P t with
  | some z => okC (ok2 (places P t) (constOk z)) ⟨fun _ T H r => fillF (placeA P t) T parts (cellsF z) fun l => r (.agg ⟨l⟩) H⟩
  | none => errC 207 t
noncomputable def buildSliceC (P : Program) (t : TypeId) (n : Nat) (parts : List (Nat × Operand)) : COp := match P.underlying t with
  | some (.slice e) => match P.info? e with
    | some i => match i.zero with
      | some z => okC (ok2 (ok2 (Nat.ble (n * i.size) 16777216) (Nat.blt 0 i.size)) (ok2 (Nat.beq (len (cellsL z)) i.size) (constOk z))) ⟨fun _ T H r => fillF (fun j => some (j * i.size, i.size)) T parts (repL (cellsF z) n) fun l => rowF H l e false fun b H => r (.slice (some ⟨b, 0, none⟩) n n) H⟩
      | none => errC 211 t
    | none => errC 212 t
  | _ => errC 213 t
noncomputable def convC (P : Program) (src dst : TypeId) (x : CG) : COp := match P.underlying src with
  | none => errC 71 src
  | some s => match P.underlying dst with
    | some (.int k) => ⟨fun _ T H r => intK (x.g T) fun _ n => stI (wrapF k n) fun n => r (.int k n) H⟩
    | some .string => match s with
      | .string => ⟨fun _ T H r => strK (x.g T) fun b => r (.string b) H⟩
      | .slice e => match P.underlying e with
        | some (.int .u8) => ⟨fun _ T H r => slcK (x.g T) (fun _ _ => r (.string ⟨⟨[]⟩⟩) H) fun b o n _ => obK H b fun ob => rdF ob n o fun l => bytesOfA l fun bs => r (.string ⟨⟨bs⟩⟩) H⟩
        | _ => errC 73 src
      | _ => errC 77 src
    | some (.slice e) => match P.underlying e, sizeA P e with
      | some (.int .u8), some 1 => ⟨fun _ T H r => strK (x.g T) fun b => rowF H (bytesV (strB b)) e true fun n H => r (.slice (some ⟨n, 0, none⟩) (lenB (strB b)) (lenB (strB b))) H⟩
      | _, _ => errC 78 dst
    | _ => errC 80 dst
noncomputable def makeIfC (P : Program) (t : TypeId) (x : CG) : COp := match P.underlying t with
  | some (.interface _) => errC 215 t
  | some _ => ⟨fun _ T H r => r (.iface t (x.g T)) H⟩
  | none => errC 216 t
noncomputable def makeSliceF (P : Program) (t : TypeId) (n c : CG) : COp := match P.underlying t with
  | some (.slice e) => match P.info? e with
    | some i => match i.zero with
      | some z => okC (ok2 (Nat.beq (len (cellsL z)) i.size) (constOk z)) ⟨fun _ T H r => intK (n.g T) fun _ n => natK n fun n => intK (c.g T) fun _ c => natK c fun c =>
          ifK (Nat.ble n c) (ifK (Nat.ble (Nat.mul (Nat.succ c) (Nat.succ i.bytes)) 1099511627776) (rowF H (repL (cellsF z) c) e false fun b H => r (.slice (some ⟨b, 0, none⟩) n c) H) (.err 151 0)) (.err 150 0)⟩
      | none => errC 155 t
    | none => errC 156 t
  | _ => errC 157 t
noncomputable def bndV (x : Option Value) (dflt y : Nat) (k : Nat → Ans) : Ans := Option.rec (motive := fun _ => Ans) (k dflt) (fun v => intK v fun _ n => natK n fun n => ifK (Nat.ble n y) (k n) (.err 82 n)) x
def mxOk (mx hi : Option Operand) : Bool := match mx, hi with
  | some _, none => false
  | _, _ => true
noncomputable def clsdOff (o l s m : Nat) : Nat := Bool.rec (motive := fun _ => Nat) (Nat.add o (Nat.mul l s)) o (Nat.beq m l)
noncomputable def mxK (mx : Option Operand) (x y : Ans) : Ans := Option.rec (motive := fun _ => Ans) x (fun _ => y) mx
noncomputable def sliceC (P : Program) (t : TypeId) (x : CG) (lo hi mx : Option Operand) : COp := match P.underlying t with
  | some .string => match mx with
    | none => ⟨fun _ T H r => strK (x.g T) fun s => bndV ((cgo hi).g T) (lenB (strB s)) (lenB (strB s)) fun h => bndV ((cgo lo).g T) 0 h fun l => r (.string ⟨⟨takeB (Nat.sub h l) (dropB l (strB s))⟩⟩) H⟩
    | some _ => errC 84 t
  | some (.slice e) => match sizeA P e with
    | some s => okC (mxOk mx hi) ⟨fun _ T H r => slcK (x.g T) (fun n c => ifK (Nat.beq n 0) (ifK (Nat.beq c 0) (bndV ((cgo mx).g T) 0 0 fun m => bndV ((cgo hi).g T) 0 m fun h => bndV ((cgo lo).g T) 0 h fun l => r (.slice none 0 0) H) (.err 85 0)) (.err 85 0))
        (fun b o n c => bndV ((cgo mx).g T) c c fun m => bndV ((cgo hi).g T) n m fun h => bndV ((cgo lo).g T) 0 h fun l => obK H b fun ob =>
          cellsK ob (fun _ _ el w => ifK w (mxK mx (ifK (Nat.beq e el) (stN (Nat.add o (Nat.mul l s)) fun o => stN (Nat.sub h l) fun n => stN (Nat.sub m l) fun c => r (.slice (some ⟨b, o, none⟩) n c) H) (.err 90 l)) (.err 90 t)) (stN (clsdOff o l s m) fun o => stN (Nat.sub h l) fun n => stN (Nat.sub m l) fun c => r (.slice (some ⟨b, o, none⟩) n c) H))
            (fun _ _ el w => ifK w (mxK mx (ifK (Nat.beq e el) (stN (Nat.add o (Nat.mul l s)) fun o => stN (Nat.sub h l) fun n => stN (Nat.sub m l) fun c => r (.slice (some ⟨b, o, none⟩) n c) H) (.err 90 l)) (.err 90 t)) (stN (clsdOff o l s m) fun o => stN (Nat.sub h l) fun n => stN (Nat.sub m l) fun c => r (.slice (some ⟨b, o, none⟩) n c) H)))⟩
    | none => errC 85 t
  | _ => errC 89 t
noncomputable def fieldAddrC (P : Program) (s : TypeId) (f : Nat) (x : CG) : COp := match fieldA P s f with
  | some fd => match sizeA P fd.type with
    | some (_ + 1) => CG.rec (motive := fun _ => COp) (fun gx => ⟨fun _ T H r => ptrK (gx T) fun b o => stN (Nat.add o fd.offset) fun o => r (.pointer (some ⟨b, o, none⟩)) H⟩) x
    | _ => errC 218 s
  | none => errC 219 s
noncomputable def fieldC (P : Program) (s : TypeId) (f : Nat) (x : CG) : COp := match fieldA P s f with
  | some fd => match aggA P fd.type, sizeA P fd.type with
    | some true, some s => ⟨fun _ T H r => aggK (x.g T) fun cs => r (.agg ⟨takeR s (dropR fd.offset cs)⟩) H⟩
    | some false, some _ => ⟨fun _ T H r => aggK (x.g T) fun cs => nthR fd.offset cs fun v => r v H⟩
    | _, _ => errC 98 s
  | none => errC 221 s
noncomputable def idxC (P : Program) (t : TypeId) (x i : CG) : COp := match P.underlying t with
  | some (.slice e) => match sizeA P e with
    | some s => ⟨fun _ T H r => intK (i.g T) fun _ i => natK i fun i => slcK (x.g T) (fun _ _ => .err 92 t) fun b o n _ => ifK (Nat.blt i n) (stN (Nat.add o (Nat.mul i s)) fun o => r (.pointer (some ⟨b, o, none⟩)) H) (.err 91 i)⟩
    | none => errC 92 t
  | some (.array n e) => match sizeA P e with
    | some s => ⟨fun _ T H r => intK (i.g T) fun _ i => natK i fun i => ptrK (x.g T) fun b o => ifK (Nat.blt i n) (stN (Nat.add o (Nat.mul i s)) fun o => r (.pointer (some ⟨b, o, none⟩)) H) (.err 93 i)⟩
    | none => errC 94 t
  | _ => errC 95 t
noncomputable def nthBK (n : Nat) : List UInt8 → (UInt8 → Ans) → Ans := Nat.rec (motive := fun _ => List UInt8 → (UInt8 → Ans) → Ans) (fun l k => List.rec (motive := fun _ => Ans) (.err 1013 0) (fun v _ _ => k v) l) (fun _ ih l k => List.rec (motive := fun _ => Ans) (.err 1013 1) (fun _ l _ => ih l k) l) n
noncomputable def indexC (P : Program) (t : TypeId) (x i : CG) : COp := match P.underlying t with
  | some .string => ⟨fun _ T H r => intK (i.g T) fun _ i => natK i fun i => strK (x.g T) fun s => nthBK i (strB s) fun b => stN b.toNat fun b => r (.int .u8 (.ofNat b)) H⟩
  | some (.array n e) => match sizeA P e with
    | some s => ⟨fun _ T H r => intK (i.g T) fun _ i => natK i fun i => aggK (x.g T) fun cs => ifK (Nat.blt i n) (partA P e cs (Nat.mul i s) fun v => r v H) (.err 101 i)⟩
    | none => errC 102 t
  | _ => errC 103 t
noncomputable def lenC (P : Program) (t : TypeId) (x : CG) : COp := match P.underlying t with
  | some .string => ⟨fun _ T H r => strK (x.g T) fun s => stN (lenB (strB s)) fun n => r (.int .i64 (.ofNat n)) H⟩
  | some (.slice _) => ⟨fun _ T H r => slcK (x.g T) (fun n _ => r (.int .i64 (.ofNat n)) H) fun _ _ n _ => r (.int .i64 (.ofNat n)) H⟩
  | some (.array n _) => ⟨fun _ T H r => r (.int .i64 (.ofNat n)) H⟩
  | some (.map _ _) => ⟨fun _ T H r => mapK (x.g T) (r (.int .i64 0) H) fun b => obK H b fun ob => othK ob fun o => esK o fun es _ => r (.int .i64 (.ofNat es.length)) H⟩
  | _ => errC 115 t
noncomputable def makeMapC (t : TypeId) (rs : Option Operand) : COp := match rs with
  | none => ⟨fun _ T H r => newF H (.oth (.map [] 0)) fun b H => r (.map (some b)) H⟩
  | some _ => errC 255 t
noncomputable def lookupC (P : Program) (t : TypeId) (m k : CG) (ok : Bool) : COp := match P.underlying t with
  | some (.map kt et) => match keyDesc P kt with
    | some d => match zeroA P et with
      | some z => okC (constOk z) ⟨fun _ T H r => ifK (keyOk d (k.g T)) (mapK (m.g T) (r (lkV ok z false) H) fun b => obK H b fun ob => othK ob fun o => esK o fun es _ =>
          findA (k.g T) es 0 fun R => Option.rec (motive := fun _ => Ans) (r (lkV ok z false) H) (fun p => r (lkV ok p.2 true) H) R) (.err 242 t)⟩
      | none => errC 246 t
    | none => errC 247 t
  | _ => errC 248 t
noncomputable def updateC (P : Program) (t : TypeId) (m k x : CG) : COp := match P.underlying t with
  | some (.map kt _) => match keyDesc P kt with
    | some d => ⟨fun _ T H r => ifK (keyOk d (k.g T)) (mapK (m.g T) (.err 252 t) fun b => obK H b fun ob => othK ob fun o => esK o fun es c =>
          findA (k.g T) es 0 fun R => Option.rec (motive := fun _ => Ans) (backF H b (fun H => r undef H) (.oth (.map (es ++ [⟨k.g T, x.g T, c⟩]) (Nat.succ c)))) (fun p => backF H b (fun H => r undef H) (.oth (.map (es.modify p.1 fun e => ⟨k.g T, x.g T, e.born⟩) c))) R) (.err 249 t)⟩
    | none => errC 253 t
  | _ => errC 254 t
noncomputable def srcF (H : FH) (s : Nat) (isStr : Bool) (x : Value) (k : Nat → List Value → Ans) : Ans :=
  ifK isStr (strK x fun b => ifK (Nat.beq s 1) (k (lenB (strB b)) (bytesV (strB b))) (.err 119 s))
    (slcK x (fun _ _ => k 0 []) fun b o n _ => obK H b fun ob => rdF ob (Nat.mul n s) o fun l => ifK (allL isOneF l) (k n l) (.err 118 o))
noncomputable def growF (H : FH) (e : TypeId) (n : Nat) (l : List Value) (r : Value → FH → Ans) : Ans := rowF H l e true fun b H => r (.slice (some ⟨b, 0, none⟩) n n) H
noncomputable def deadF (H : FH) (b : Nat) (k : FH → Ans) : Ans := backF H b k .dead
noncomputable def stealF (H : FH) (b : Nat) (o : Ob) (n : Nat) (r : Value → FH → Ans) : Ans := deadF H b fun H => newF H o fun b H => r (.slice (some ⟨b, 0, none⟩) n n) H
noncomputable def extF (e : TypeId) (w : Nat) (ob : Ob) (xs : List Value) (k : Ob → Ans) : Ans :=
  cellsK ob (fun c _ _ _ => mkOb (appL (rd1 c w 0) xs) e true k)
    (fun c _ _ _ => stN (Nat.add w (len xs)) fun n => ifK (Nat.ble n 32768) (put5L xs w c fun c => k (.big c n e true)) (.err 7 1))
noncomputable def ownF (ob : Ob) (k : Nat → TypeId → Bool → Ans) : Ans := cellsK ob (fun _ n e w => k n e w) (fun _ n e w => k n e w)
noncomputable def appendF (e : TypeId) (sz by_ : Nat) (H : FH) (s : Value) (n : Nat) (xs : List Value) (r : Value → FH → Ans) : Ans :=
  slcK s (fun m c => ifK (Nat.beq m 0) (ifK (Nat.beq c 0) (ifK (Nat.beq n 0) (r (.slice none 0 0) H) (ifK (Nat.ble (Nat.mul n by_) 1099511627776) (growF H e n xs r) (.err 127 n))) (.err 135 0)) (.err 135 0))
    fun b o m c => ifK (Nat.ble (Nat.add m n) c)
      (ifK (Nat.beq n 0) (r (.slice (some ⟨b, o, none⟩) m c) H) (storeLF H b (Nat.add o (Nat.mul m sz)) xs fun H => stN (Nat.add m n) fun m => r (.slice (some ⟨b, o, none⟩) m c) H))
      (ifK (Nat.ble (Nat.mul (Nat.add m n) by_) 1099511627776) (obK H b fun ob => ownF ob fun w e' opn => ifK (Nat.ble (Nat.add o (Nat.mul m sz)) w)
        (ifK opn (ifK (Nat.beq e e') (ifK (ok2 (Nat.beq o 0) (Nat.beq (Nat.mul m sz) w))
              (stN (Nat.mul m sz) fun w => stN (Nat.add m n) fun q => extF e w ob xs fun ob => stealF H b ob q r)
              (rdF ob (Nat.mul m sz) o fun old => ifK (allL isOneF (appL old xs)) (stN (Nat.add m n) fun q => mkOb (appL old xs) e true fun ob => stealF H b ob q r) (.err 133 o))) (.err 132 o))
          (rdF ob (Nat.mul m sz) o fun old => stN (Nat.add m n) fun q => growF H e q (appL old xs) r)) (.err 131 o)) (.err 128 b))
def srcStr (P : Program) (t : TypeId) : Option Bool := match P.underlying t with
  | some (.slice _) => some false
  | some .string => some true
  | _ => none
noncomputable def appC (P : Program) (t tx : TypeId) (s x : CG) : COp := match P.underlying t with
  | some (.slice e) => match P.info? e with
    | some i => match i.zero, srcStr P tx with
      | some z, some q => okC (ok2 (ok2 (Nat.blt 0 i.size) (Nat.beq (len (cellsL z)) i.size)) (Nat.blt 0 i.bytes)) ⟨fun _ T H r => srcF H i.size q (x.g T) fun n xs => appendF e i.size i.bytes H (s.g T) n xs r⟩
      | _, _ => errC 125 t
    | none => errC 136 t
  | _ => errC 137 t
noncomputable def copyC (P : Program) (t : TypeId) (d x : CG) : COp := match P.underlying t with
  | some (.slice e) => match sizeA P e with
    | some s => ⟨fun _ T H r => srcF H s false (x.g T) fun n xs => slcK (d.g T) (fun n c => ifK (Nat.beq n 0) (ifK (Nat.beq c 0) (r (.int .i64 0) H) (.err 141 0)) (.err 141 0)) fun b o m _ => stN (lowr n m) fun q => ifK (Nat.beq q 0) (r (.int .i64 0) H) (storeLF H b o (takeR (Nat.mul q s) xs) fun H => r (.int .i64 (.ofNat q)) H)⟩
    | none => errC 142 t
  | _ => errC 143 t
noncomputable def mmC (isMax : Bool) (l : CL) : COp := ⟨fun _ T H r => List.rec (motive := fun _ => Ans) (.err 229 1) (fun x l _ => foldMM isMax l x fun v => r v H) (l.g T)⟩
noncomputable def bltC (P : Program) (nt : Nat) (b : Builtin) (ts : List TypeId) (args : List Operand) : COp :=
  match b, ts, args with
  | .len, t :: _, [x] => lenC P t (cgx x)
  | .append, [t, tx], [s, x] => appC P t tx (cgx s) (cgx x)
  | .copy, t :: _, [d, x] => copyC P t (cgx d) (cgx x)
  | .max, _, l => mmC true (cgl l)
  | .min, _, l => mmC false (cgl l)
  | _, _, _ => errC 230 0
noncomputable def callC (P : Program) (nt : Nat) (c : Call) : COp := okC (okl nt c.args.toList) (match c.callee with
  | .builtin b => bltC P nt b c.argTypes.toList c.args.toList
  | .value f => match f with
    | .func f => CL.rec (motive := fun _ => COp) (fun gl => ⟨fun cl T H r => cl f (gl T) H r⟩) (cgl c.args.toList)
    | f => okC (okx nt f) ⟨fun cl T H r => funcK ((cgx f).g T) fun f first captured => cl f (appL first (appL ((cgl c.args.toList).g T) captured)) H r⟩
  | .invoke _ _ => errC 232 0)
noncomputable def cop (P : Program) (nt : Nat) (o : Op) : COp := match o with
  | .move x => okC (okx nt x) (CG.rec (motive := fun _ => COp) (fun gx => ⟨fun _ T H r => r (gx T) H⟩) (cgx x))
  | .assign x => okC (okx nt x) (CG.rec (motive := fun _ => COp) (fun gx => ⟨fun _ T H r => r (gx T) H⟩) (cgx x))
  | .pick c a b => okC (ok2 (okx nt c) (ok2 (okx nt a) (okx nt b))) ⟨fun _ T H r => boolK ((cgx c).g T) (r ((cgx a).g T) H) (r ((cgx b).g T) H)⟩
  | .alloc e => allocC P e
  | .box e x => okC (okx nt x) (boxC P e (cgx x))
  | .build t parts => okC (okp nt parts.toList) (buildC P t parts.toList)
  | .buildSlice t n parts => okC (okp nt parts.toList) (buildSliceC P t n parts.toList)
  | .load t a => okC (okx nt a) (CG.rec (motive := fun _ => COp) (fun ga => LdC.rec (motive := fun _ => COp) (fun ld => ⟨fun _ T H r => ld H (ga T) fun v => r v H⟩) (ldC P t)) (cgx a))
  | .store t a x => okC (ok2 (okx nt a) (okx nt x)) (CG.rec (motive := fun _ => COp) (fun ga => CG.rec (motive := fun _ => COp) (fun gx => StC.rec (motive := fun _ => COp) (fun st => ⟨fun _ T H r => st H (ga T) (gx T) fun H => r undef H⟩) (stC P t)) (cgx x)) (cgx a))
  | .nilCheck x => okC (okx nt x) ⟨fun _ T H r => ptrK ((cgx x).g T) fun _ _ => r ((cgx x).g T) H⟩
  | .binOp op t x y _ => okC (ok2 (okx nt x) (okx nt y)) (CG.rec (motive := fun _ => COp) (fun gx => CG.rec (motive := fun _ => COp) (fun gy => BC.rec (motive := fun _ => COp) (fun run => ⟨fun _ T H r => run (gx T) (gy T) fun v => r v H⟩) (binC P op t)) (cgx y)) (cgx x))
  | .unOp op _ x => okC (okx nt x) ⟨fun _ T H r => unA op ((cgx x).g T) fun v => r v H⟩
  | .convert src dst x => okC (okx nt x) (convC P src dst (cgx x))
  | .makeInterface t x => okC (okx nt x) (makeIfC P t (cgx x))
  | .makeFunc fn first captured => okC (ok2 (okl nt first.toList) (okl nt captured.toList)) ⟨fun _ T H r => r (.func fn ⟨(cgl first.toList).g T⟩ ⟨(cgl captured.toList).g T⟩) H⟩
  | .makeSlice t n c => okC (ok2 (okx nt n) (okx nt c)) (makeSliceF P t (cgx n) (cgx c))
  | .slice t x lo hi mx => okC (ok2 (okx nt x) (ok2 (oko nt lo) (ok2 (oko nt hi) (oko nt mx)))) (sliceC P t (cgx x) lo hi mx)
  | .fieldAddr s x f => okC (okx nt x) (fieldAddrC P s f (cgx x))
  | .field t x f => okC (okx nt x) (fieldC P t f (cgx x))
  | .indexAddr t x i => okC (ok2 (okx nt x) (okx nt i)) (idxC P t (cgx x) (cgx i))
  | .index t x i => okC (ok2 (okx nt x) (okx nt i)) (indexC P t (cgx x) (cgx i))
  | .typeAssert x t u ok => okC (okx nt x) ⟨fun _ T H r => assertA P u ok ((cgx x).g T) H0 fun v _ => r v H⟩
  | .extract x i => okC (okx nt x) (CG.rec (motive := fun _ => COp) (fun gx => ⟨fun _ T H r => tupK (gx T) fun vs => nthR i vs fun v => r v H⟩) (cgx x))
  | .call c => callC P nt c
  | .makeMap t rs => makeMapC t rs
  | .lookup t m k ok => okC (ok2 (okx nt m) (okx nt k)) (lookupC P t (cgx m) (cgx k) ok)
  | .mapUpdate t m k x => okC (ok2 (okx nt m) (ok2 (okx nt k) (okx nt x))) (updateC P t (cgx m) (cgx k) (cgx x))
  | .insert t m k x => okC (ok2 (okx nt m) (ok2 (okx nt k) (okx nt x))) (updateC P t (cgx m) (cgx k) (cgx x))
  | _ => errC 299 0
structure PC where
  (s : Value → V3 → V3)
noncomputable def putC (d : Option Tmp) : PC := Option.rec (motive := fun _ => PC) ⟨fun _ T => T⟩ (fun d => L3.rec (motive := fun _ => PC) (fun _ s => ⟨s⟩) (l3 d)) d
noncomputable def okd (nt : Nat) (d : Option Tmp) : Bool := Option.rec (motive := fun _ => Bool) true (fun d => Nat.blt d nt) d
structure RG where
  (go : CallF → V3 → FH → (V3 → FH → Ans) → Ans)
def errR (c x : Nat) : RG := ⟨fun _ _ _ _ => .err c x⟩
noncomputable def okR (b : Bool) (c : RG) : RG := Bool.rec (motive := fun _ => RG) (errR 1102 0) c b
noncomputable def stepR (op : COp) (p : PC) (ih : RG) : RG := COp.rec (motive := fun _ => RG) (fun run => PC.rec (motive := fun _ => RG) (fun s => RG.rec (motive := fun _ => RG) (fun go => ⟨fun cl T H k => run cl T H fun v H => go cl (s v T) H k⟩) ih) p) op
noncomputable def skipR (p : PC) (ih : RG) : RG := PC.rec (motive := fun _ => RG) (fun s => RG.rec (motive := fun _ => RG) (fun go => ⟨fun cl T H k => go cl (s undef T) H k⟩) ih) p
noncomputable def guardR (nt : Nat) (g : Option (Option Tmp × Bool)) (yes no : RG) : RG := match g with
  | none => yes
  | some (none, _) => no
  | some (some d, want) => okR (Nat.blt d nt) (match want with
    | true => ⟨fun cl T H k => boolD ((l3 d).g T) (yes.go cl T H k) (no.go cl T H k) (no.go cl T H k)⟩
    | false => ⟨fun cl T H k => boolD ((l3 d).g T) (no.go cl T H k) (yes.go cl T H k) (no.go cl T H k)⟩)
noncomputable def creg (P : Program) (nt : Nat) (ops : Array Oper) (l : List Oper) : RG :=
  List.rec (motive := fun _ => RG) ⟨fun _ T H k => k T H⟩ (fun o _ ih => okR (okd nt o.dst) (guardR nt (gslot ops o) (stepR (cop P nt o.op) (putC o.dst) ih) (skipR (putC o.dst) ih))) l
structure RD where
  (go : CallF → V3 → FH → List Nat → List Nat → Nat → (V3 → FH → Ans) → Ans)
def errD (c x : Nat) : RD := ⟨fun _ _ _ _ _ _ _ => .err c x⟩
noncomputable def okD (b : Bool) (c : RD) : RD := Bool.rec (motive := fun _ => RD) (errD 1102 1) c b
noncomputable def skipD (p : PC) (ih : RD) : RD := ⟨fun cl T H rs ms rl k => ih.go cl (p.s undef T) H rs ms rl k⟩
noncomputable def guardD (nt : Nat) (g : Option (Option Tmp × Bool)) (yes no : RD) : RD := match g with
  | none => yes
  | some (none, _) => no
  | some (some d, want) => okD (Nat.blt d nt) (match want with
    | true => ⟨fun cl T H rs ms rl k => boolD ((l3 d).g T) (yes.go cl T H rs ms rl k) (no.go cl T H rs ms rl k) (no.go cl T H rs ms rl k)⟩
    | false => ⟨fun cl T H rs ms rl k => boolD ((l3 d).g T) (no.go cl T H rs ms rl k) (yes.go cl T H rs ms rl k) (no.go cl T H rs ms rl k)⟩)
noncomputable def stepD (op : COp) (p : PC) (piv : Bool) (i : Nat) (ih : RD) : RD := COp.rec (motive := fun _ => RD) (fun run => PC.rec (motive := fun _ => RD) (fun s => RD.rec (motive := fun _ => RD) (fun go => ⟨fun cl T H rs ms rl k => FH.rec (motive := fun _ => Ans) (fun t n lo => run cl T ⟨t, n, n⟩ fun v H' => FH.rec (motive := fun _ => Ans) (fun t' n' lo' => ifK (Nat.ble n lo') (go cl (s v T) ⟨t', n', lo⟩ rs ms rl k)
  (ifK piv (stN (lowr lo lo') fun lo => stN (lowr rl lo') fun rl => go cl (s v T) ⟨t', n', lo⟩ rs ms rl k) (.err 301 i))) H') H⟩) ih) p) op
noncomputable def stepW (t : Tmp) (op : COp) (p : PC) (piv : Bool) (i : Nat) (ih : RD) : RD := ⟨fun cl T H rs ms rl k => FH.rec (motive := fun _ => Ans) (fun h n lo => op.run cl T ⟨h, n, n⟩ fun v H' => FH.rec (motive := fun _ => Ans) (fun h' n' lo' => ifK (Nat.ble n lo') (ih.go cl (p.s v T) ⟨h', n', lo⟩ rs ms rl k)
  (ifK piv (stN (lowr lo lo') fun lo => ptrK ((l3 t).g T) fun b _ => ih.go cl (p.s v T) ⟨h', n', lo⟩ rs (b :: ms) rl k) (.err 301 i))) H') H⟩
noncomputable def stepL (t : Tmp) (op : COp) (p : PC) (i : Nat) (ih : RD) : RD := ⟨fun cl T H rs ms rl k => FH.rec (motive := fun _ => Ans) (fun h n lo => op.run cl T ⟨h, n, n⟩ fun v H' => FH.rec (motive := fun _ => Ans) (fun h' n' lo' => ifK (Nat.ble n lo') (ptrK ((l3 t).g T) fun b _ => ih.go cl (p.s v T) ⟨h', n', lo⟩ (b :: rs) ms rl k) (.err 301 i)) H') H⟩
def ldAddr (o : Op) : Option Tmp := match o with
  | .load _ (.tmp t) => some t
  | .store _ (.tmp t) _ => some t
  | _ => none
noncomputable def bodyD (P : Program) (nt : Nat) (ops : Array Oper) (o : Oper) (i : Nat) (ih : RD) : RD := match laxLoad ops i, isStore o.op with
  | false, false => stepD (cop P nt o.op) (putC o.dst) (pivot ops i) i ih
  | false, true => match ldAddr o.op with
    | some t => okD (Nat.blt t nt) (stepW t (cop P nt o.op) (putC o.dst) (pivot ops i) i ih)
    | none => errD 1102 3
  | true, _ => match ldAddr o.op with
    | some t => okD (Nat.blt t nt) (stepL t (cop P nt o.op) (putC o.dst) i ih)
    | none => errD 1102 2
noncomputable def cregD (P : Program) (nt : Nat) (ops : Array Oper) (l : List Oper) : Nat → RD :=
  List.rec (motive := fun _ => Nat → RD) (fun _ => ⟨fun _ T H rs ms rl k => ifK (keptAll rs ms rl) (k T H) (.err 315 rl)⟩) (fun o _ ih i => okD (okd nt o.dst) (guardD nt (gslot ops o) (bodyD P nt ops o i (ih (Nat.succ i))) (skipD (putC o.dst) (ih (Nat.succ i))))) l
structure CC where
  (go : CallF → V3 → FH → (AExit → V3 → FH → Ans) → Ans)
def errK (c x : Nat) : CC := ⟨fun _ _ _ _ => .err c x⟩
noncomputable def okK (b : Bool) (c : CC) : CC := Bool.rec (motive := fun _ => CC) (errK 1103 0) c b
noncomputable def ofR (r : RG) : CC := RG.rec (motive := fun _ => CC) (fun go => ⟨fun cl T H k => go cl T H fun T H => k .normal T H⟩) r
noncomputable def ofD (r : RD) : CC := RD.rec (motive := fun _ => CC) (fun go => ⟨fun cl T H k => go cl T H [] [] farOff fun T H => k .normal T H⟩) r
noncomputable def seqK (a b : CC) : CC := CC.rec (motive := fun _ => CC) (fun ga => CC.rec (motive := fun _ => CC) (fun gb => ⟨fun cl T H k => ga cl T H fun e T H => AExit.rec (motive := fun _ => Ans) (gb cl T H k) (k .ret T H) (fun i => k (.exit i) T H) e⟩) b) a
noncomputable def condK (x : CG) (a b : CC) : CC := CG.rec (motive := fun _ => CC) (fun gx => CC.rec (motive := fun _ => CC) (fun ga => CC.rec (motive := fun _ => CC) (fun gb => ⟨fun cl T H k => boolK (gx T) (ga cl T H k) (gb cl T H k)⟩) b) a) x
noncomputable def blockK (id : Nat) (a : CC) : CC := CC.rec (motive := fun _ => CC) (fun ga => ⟨fun cl T H k => ga cl T H fun e T H => AExit.rec (motive := fun _ => Ans) (k .normal T H) (k .ret T H) (fun i => ifK (Nat.beq i id) (k .normal T H) (k (.exit i) T H)) e⟩) a
def loopMost : Nat := 1000000
noncomputable def loopGo (a : CC) (cl : CallF) (k : AExit → V3 → FH → Ans) (d : Nat) : V3 → FH → Ans := Nat.rec (motive := fun _ => V3 → FH → Ans) (fun _ _ => .err 312 0) (fun _ ih T H => a.go cl T H fun e T H => AExit.rec (motive := fun _ => Ans) (ih T H) (k .ret T H) (fun i => k (.exit i) T H) e) d
noncomputable def loopK (a : CC) : CC := ⟨fun cl T H k => loopGo a cl k loopMost T H⟩
noncomputable def cc (P : Program) (nt : Nat) (c : Code) : CC :=
  Code.rec (motive := fun _ => CC)
    ⟨fun _ T H k => k .normal T H⟩
    (fun _ ops draw => Bool.rec (motive := fun _ => CC) (ofR (creg P nt ops ops.toList)) (okK (drawOk ops) (ofD (cregD P nt ops ops.toList 0))) draw)
    (fun _ _ a b => seqK a b)
    (fun x _ _ a b => okK (okx nt x) (condK (cgx x) a b))
    (fun id _ a => blockK id a)
    (fun _ a => loopK a)
    (fun _ _ _ _ _ _ => errK 311 1)
    (fun id => ⟨fun _ T H k => k (.exit id) T H⟩)
    (fun _ a => a)
    (fun _ => ⟨fun _ T H k => k .normal T H⟩)
    (fun _ => errK 311 2)
    ⟨fun _ T H k => k .ret T H⟩
    (fun _ => errK 311 3)
    c
structure RC where
  (go : V3 → FH → (List Value → Ans) → Ans)
noncomputable def resC (P : Program) (nt : Nat) (l : List ResultVar) : RC := List.rec (motive := fun _ => RC) ⟨fun _ _ k => k []⟩ (fun x _ ih => match x with
  | .tmp t => match Nat.blt t nt with
    | true => ⟨fun T H k => ih.go T H fun l => k ((l3 t).g T :: l)⟩
    | false => ⟨fun _ _ _ => .err 302 t⟩
  | .cell a t => match Nat.blt a nt with
    | true => ⟨fun T H k => (ldC P t).go H ((l3 a).g T) fun v => ih.go T H fun l => k (v :: l)⟩
    | false => ⟨fun _ _ _ => .err 303 a⟩) l
noncomputable def oneK (l : List Value) (k : Value → Ans) : Ans := List.rec (motive := fun _ => Ans) (k (.tuple ⟨[]⟩)) (fun v r _ => List.rec (motive := fun _ => Ans) (k v) (fun _ _ _ => k (.tuple ⟨l⟩)) r) l
noncomputable def frameF (l : List Value) : Nat → V3 → V3 := List.rec (motive := fun _ => Nat → V3 → V3) (fun _ T => T) (fun v _ ih i T => ih (Nat.succ i) ((l3 i).s v T)) l
structure CF where
  (go : CallF → List Value → FH → (Value → FH → Ans) → Ans)
noncomputable def cfun (P : Program) (f : FuncId) : CF := match P.funcs[f]? with
  | none => ⟨fun _ _ _ _ => .err 304 f⟩
  | some fn => match fn.body with
    | none => ⟨fun _ _ _ _ => .err 305 f⟩
    | some c => match ok2 (nameOk fn) (Nat.ble fn.ntmps 512) with
      | false => ⟨fun _ _ _ _ => .err 306 f⟩
      | true => ⟨fun cl args H r => ifK (Nat.ble (len args) fn.ntmps) ((cc P fn.ntmps c).go cl (frameF args 0 eV3) H fun e T H => AExit.rec (motive := fun _ => Ans) ((resC P fn.ntmps fn.results.toList).go T H fun l => oneK l fun v => r v H) ((resC P fn.ntmps fn.results.toList).go T H fun l => oneK l fun v => r v H) (fun _ => .err 308 f) e) (.err 307 f)⟩
noncomputable def clF (P : Program) (hk : FuncId → List Value → Option Value) (d : Nat) : CallF := Nat.rec (motive := fun _ => CallF) (fun _ _ _ _ => .err 313 0) (fun _ ih f args H r => Option.rec (motive := fun _ => Ans) ((cfun P f).go ih args H r) (fun v => r v H) (hk f args)) d
noncomputable def runF (P : Program) (hk : FuncId → List Value → Option Value) (d : Nat) (f : FuncId) (args : List Value) (k : Nat) : Ans := (cfun P f).go (clF P hk d) args ⟨eO6, k, k⟩ fun v _ => .ok v H0
noncomputable def tellsF (P : Program) (hk : FuncId → List Value → Option Value) (d : Nat) (f : FuncId) (args : List Value) (k : Nat) (b : Bool) : Bool := match runF P hk d f args k with
  | .ok (.bool c) _ => boolEq b c
  | _ => false
def noHook : FuncId → List Value → Option Value := fun _ _ => none
end Go.Abs
set_option linter.unusedVariables false
set_option linter.unusedSimpArgs false
namespace Go.Abs
open Go.RowKit
variable [TokEnv]
theorem stN_eq (n : Nat) (f : Nat → Ans) : stN n f = f n := by cases n <;> rfl
theorem stI_eq (n : Int) (f : Int → Ans) : stI n f = f n := by
  cases n with
  | ofNat a => show stN a (fun a => f (Int.ofNat a)) = _; rw [stN_eq]
  | negSucc a => show stN a (fun a => f (Int.negSucc a)) = _; rw [stN_eq]
theorem natK_ok {n : Int} {f : Nat → Ans} {V : Value} {HH : Hp} (h : natK n f = .ok V HH) : ∃ m, n = .ofNat m ∧ f m = .ok V HH := by
  cases n with
  | ofNat a => exact ⟨a, rfl, h⟩
  | negSucc a => cases h
theorem ifK_ok {b : Bool} {x : Ans} {c y : Nat} {V : Value} {HH : Hp} (h : ifK b x (.err c y) = .ok V HH) : b = true ∧ x = .ok V HH := by
  cases b
  · cases h
  · exact ⟨rfl, h⟩
theorem ifK_true (x y : Ans) : ifK true x y = x := rfl
theorem ifK_false (x y : Ans) : ifK false x y = y := rfl
theorem ok2_eq (a b : Bool) : ok2 a b = (a && b) := by cases a <;> rfl
theorem dropR_eq (n : Nat) : ∀ l : List Value, dropR n l = l.drop n := by
  induction n with
  | zero => intro l; rfl
  | succ n ih => intro l; cases l with
    | nil => rfl
    | cons v l => show dropR n l = _; rw [ih]; rfl
theorem takeR_eq (n : Nat) : ∀ l : List Value, takeR n l = l.take n := by
  induction n with
  | zero => intro l; simp; rfl
  | succ n ih => intro l; cases l with
    | nil => rfl
    | cons v l => show v :: takeR n l = _; rw [ih]; rfl
theorem nthR_ok {n : Nat} : ∀ {l : List Value} {k : Value → Ans} {V : Value} {HH : Hp}, nthR n l k = .ok V HH → ∃ v, l[n]? = some v ∧ k v = .ok V HH := by
  induction n with
  | zero => intro l k V HH h; cases l with
    | nil => cases h
    | cons v l => exact ⟨v, rfl, h⟩
  | succ n ih => intro l k V HH h; cases l with
    | nil => cases h
    | cons v l => obtain ⟨u, h1, h2⟩ := ih (l := l) h; exact ⟨u, by simpa using h1, h2⟩
noncomputable def tlN : Nat → List Value → List Value
  | 0, l => l
  | n + 1, l => tlL (tlN n l)
theorem tlN_cons (n : Nat) (v : Value) (l : List Value) : tlN (n + 1) (v :: l) = tlN n l := by
  induction n with
  | zero => rfl
  | succ n ih => show tlL (tlN (n + 1) (v :: l)) = _; rw [ih]; rfl
theorem hd_tlN (i : Nat) : ∀ (l : List Value) (v : Value), l[i]? = some v → hdL (tlN i l) = v := by
  induction i with
  | zero => intro l v h; cases l with
    | nil => cases h
    | cons u l => simpa [tlN, hdL] using h
  | succ i ih => intro l v h; cases l with
    | nil => cases h
    | cons u l => rw [tlN_cons]; exact ih l v (by simpa using h)
theorem of1_get {l : List Value} {i : Nat} {v : Value} (hi : i < 8) (h : l[i]? = some v) : (sV1 i).g (of1 l) = v := by
  have := hd_tlN i l v h
  rcases i with _ | _ | _ | _ | _ | _ | _ | _ | i <;> first | exact this | (exfalso; omega)
theorem toL1_get (c : V1) {i : Nat} (hi : i < 8) : (toL1 c)[i]? = some ((sV1 i).g c) := by
  cases c
  rcases i with _ | _ | _ | _ | _ | _ | _ | _ | i <;> first | rfl | (exfalso; omega)
theorem toL1_len (c : V1) : (toL1 c).length = 8 := by cases c; rfl
theorem ofL_full (l : List Value) : ∀ (i : Nat) (t : Tr Value), (∀ m, m < i → (t.get m).isSome = true) → ∀ j, (j < i → (ofL l i t).get j = t.get j) ∧ (i ≤ j → j < i + l.length → (ofL l i t).get j = l[j - i]?) := by
  induction l with
  | nil => intro i t h j; exact ⟨fun _ => rfl, fun h1 h2 => by simp at h2; omega⟩
  | cons v l ih =>
    intro i t h j
    have hfull : ∀ m, m < i + 1 → ((t.ins i v).get m).isSome = true := fun m hm => by
      by_cases hmi : m = i
      · subst hmi; rw [ins_full t m v h]; rfl
      · rw [Tr.ins_ne _ _ _ _ (fun e => hmi e.symm)]; exact h m (by omega)
    obtain ⟨h1, h2⟩ := ih (i + 1) (t.ins i v) hfull j
    have e : ofL (v :: l) i t = ofL l (i + 1) (t.ins i v) := rfl
    rw [e]
    refine ⟨fun hj => ?_, fun h3 h4 => ?_⟩
    · rw [h1 (by omega), Tr.ins_ne _ _ _ _ (by omega)]
    · by_cases hji : j = i
      · subst hji
        rw [h1 (by omega), ins_full t j v h]
        simp
      · rw [h2 (by omega) (by simp at h4; omega), show j - i = (j - (i + 1)) + 1 by omega]
        simp
theorem ofL_nil_full (l : List Value) {j : Nat} (hj : j < l.length) : (ofL l 0 .nil).get j = l[j]? := by
  have := (ofL_full l 0 .nil (fun m hm => by omega) j).2 (Nat.zero_le _) (by omega)
  simpa using this
def notCells : AObj → Bool
  | .cells _ _ _ _ => false
  | _ => true
def OR : Ob → Option AObj → Prop
  | .dead, _ => True
  | .oth o, x => x = some o ∧ notCells o = true
  | .small c n e w, x => n ≤ 8 ∧ ∃ c0, x = some (.cells c0 n e w) ∧ ∀ i, i < n → c0.get i = some ((sV1 i).g c)
  | .big c n e w, x => n ≤ 32768 ∧ ∃ c0, x = some (.cells c0 n e w) ∧ ∀ i, i < n → c0.get i = some ((l5 i).g c)
structure RH (H' : FH) (H : Hp) : Prop where
  n : H.n = H'.n
  lo : H.lo = H'.lo
  cap : H'.n ≤ 262144
  full : ∀ b, b < H.n → (H.t.get b).isSome = true
  rel : ∀ b, b < H'.n → OR ((l6 b).g H'.t) (H.t.get b)
theorem rh_init : RH ⟨eO6, 0, 0⟩ ⟨.nil, 0, 0⟩ := ⟨rfl, rfl, Nat.zero_le _, fun b h => absurd h (Nat.not_lt_zero _), fun b h => absurd h (Nat.not_lt_zero _)⟩
theorem rh_set {H' : FH} {H : Hp} (h : RH H' H) {b : Nat} (hb : b < H'.n) {ob : Ob} {o : AObj} (ho : OR ob (some o)) (lo : Nat) : RH ⟨(l6 b).s ob H'.t, H'.n, lo⟩ ⟨H.t.set b o, H.n, lo⟩ := by
  have hs : ∀ c, (H.t.set b o).get c = if c = b then some o else H.t.get c := fun c => by
    by_cases hc : c = b
    · subst hc
      have hf := h.full c (by rw [h.n]; exact hb)
      rw [Tr.set_eq, if_pos rfl]
      cases hg : H.t.get c with
      | none => rw [hg] at hf; cases hf
      | some x => rfl
    · rw [if_neg hc, Tr.set_ne _ _ _ _ (fun e => hc e.symm)]
  refine ⟨h.n, rfl, h.cap, fun c hc => ?_, fun c hc => ?_⟩
  · show ((H.t.set b o).get c).isSome = true
    rw [hs]
    by_cases e : c = b
    · rw [if_pos e]; rfl
    · rw [if_neg e]; exact h.full c hc
  · show OR ((l6 c).g ((l6 b).s ob H'.t)) ((H.t.set b o).get c)
    rw [hs]
    have hcap := h.cap
    have hc' : c < H'.n := hc
    by_cases e : c = b
    · subst e; rw [if_pos rfl, l6_same]; exact ho
    · rw [if_neg e, l6_ne b c ob H'.t (by omega) (by omega) (fun x => e x.symm)]; exact h.rel c hc'
theorem rh_new {H' : FH} {H : Hp} (h : RH H' H) (hb : H'.n < 262144) {ob : Ob} {o : AObj} (ho : OR ob (some o)) : RH ⟨(l6 H'.n).s ob H'.t, Nat.succ H'.n, H'.lo⟩ ⟨H.t.ins H.n o, Nat.succ H.n, H.lo⟩ := by
  refine ⟨congrArg Nat.succ h.n, h.lo, hb, fun c hc => ?_, fun c hc => ?_⟩
  · show ((H.t.ins H.n o).get c).isSome = true
    have hc' : c < H.n + 1 := hc
    by_cases e : c = H.n
    · subst e; rw [ins_full _ _ _ h.full]; rfl
    · rw [Tr.ins_ne _ _ _ _ (fun x => e x.symm)]; exact h.full c (by omega)
  · show OR ((l6 c).g ((l6 H'.n).s ob H'.t)) ((H.t.ins H.n o).get c)
    have hc' : c < H'.n + 1 := hc
    by_cases e : c = H'.n
    · subst e; rw [l6_same, ← h.n, ins_full _ _ _ h.full]; exact ho
    · have hn := h.n
      rw [l6_ne H'.n c ob H'.t (by omega) (by omega) (fun x => e x.symm), Tr.ins_ne _ _ _ _ (by omega)]; exact h.rel c (by omega)
section
variable {V : Value} {HH : Hp} {H' : FH} {H : Hp}
theorem obK_ok {b : Nat} {k : Ob → Ans} (hr : RH H' H) (h : obK H' b k = .ok V HH) : b < H'.n ∧ OR ((l6 b).g H'.t) (H.t.get b) ∧ k ((l6 b).g H'.t) = .ok V HH := by
  obtain ⟨h1, h2⟩ := ifK_ok h
  have h1 := blt_lt h1
  exact ⟨h1, hr.rel b h1, h2⟩
theorem cellsK_ok {ob : Ob} {ks : V1 → Nat → TypeId → Bool → Ans} {kb : V5 → Nat → TypeId → Bool → Ans} (h : cellsK ob ks kb = .ok V HH) :
    (∃ c n e w, ob = .small c n e w ∧ ks c n e w = .ok V HH) ∨ (∃ c n e w, ob = .big c n e w ∧ kb c n e w = .ok V HH) := by
  cases ob with
  | dead => cases h
  | small c n e w => exact .inl ⟨c, n, e, w, rfl, h⟩
  | big c n e w => exact .inr ⟨c, n, e, w, rfl, h⟩
  | oth o => cases h
theorem othK_ok {ob : Ob} {k : AObj → Ans} (h : othK ob k = .ok V HH) : ∃ o, ob = .oth o ∧ k o = .ok V HH := by
  cases ob with
  | oth o => exact ⟨o, rfl, h⟩
  | _ => cases h
theorem esK_ok {o : AObj} {k : List MapEntry → Nat → Ans} (h : esK o k = .ok V HH) : ∃ es c, o = .map es c ∧ k es c = .ok V HH := by
  cases o with
  | map es c => exact ⟨es, c, rfl, h⟩
  | _ => cases h
theorem mapK_ok {v : Value} {x : Ans} {y : Nat → Ans} (h : mapK v x y = .ok V HH) : (v = .map none ∧ x = .ok V HH) ∨ ∃ b, v = .map (some b) ∧ y b = .ok V HH := by
  unfold mapK at h
  split at h
  · exact .inl ⟨rfl, h⟩
  · exact .inr ⟨_, rfl, h⟩
  · cases h
theorem findA_uni {k : Value} : ∀ {es : List MapEntry} {i : Nat} {q : Option (Nat × Value) → Ans}, findA k es i q = .ok V HH → ∃ R, q R = .ok V HH ∧ ∀ K, findA k es i K = K R := by
  intro es
  induction es with
  | nil => intro i q h; exact ⟨none, h, fun K => rfl⟩
  | cons e es ih =>
    intro i q h
    obtain ⟨b, hb, h⟩ := orec_ok (c := 240) (x := i) h
    have hK : ∀ K, findA k (e :: es) i K = @Bool.rec (fun _ => Ans) (findA k es (i + 1) K) (K (some (i, e.val))) b := fun K => by
      show @Option.rec Bool (fun _ => Ans) (.err 240 i) (fun b => @Bool.rec (fun _ => Ans) (findA k es (Nat.succ i) K) (K (some (i, e.val))) b) (keySame k e.key) = _
      rw [hb]
    cases b with
    | true => exact ⟨some (i, e.val), h, hK⟩
    | false =>
      obtain ⟨R, h1, h2⟩ := ih (show findA k es (i + 1) q = .ok V HH from h)
      exact ⟨R, h1, fun K => (hK K).trans (h2 K)⟩
theorem rd5_ok {c : V5} : ∀ {n o : Nat} {k : List Value → Ans}, rd5 c n o k = .ok V HH → ∃ l : List Value, l.length = n ∧ (∀ i, i < n → l[i]? = some ((l5 (o + i)).g c)) ∧ k l = .ok V HH := by
  intro n
  induction n with
  | zero => intro o k h; exact ⟨[], rfl, fun i hi => by omega, h⟩
  | succ n ih =>
    intro o k h
    have h' : (stN o fun o => rd5 c n (Nat.succ o) fun l => k ((l5 o).g c :: l)) = .ok V HH := h
    rw [stN_eq] at h'
    obtain ⟨l, h1, h2, h3⟩ := ih h'
    refine ⟨_ :: l, by simp [h1], fun i hi => ?_, h3⟩
    cases i with
    | zero => rfl
    | succ i =>
      have := h2 i (by omega)
      simp only [List.getElem?_cons_succ]
      rw [this, show Nat.succ o + i = o + (i + 1) by omega]
theorem rdA_eq {c : Tr Value} : ∀ {n o : Nat} {l : List Value}, l.length = n → (∀ i, i < n → c.get (o + i) = l[i]?) → ∀ K : List Value → Ans, rdA c n o K = K l := by
  intro n
  induction n with
  | zero => intro o l hl _ K; rw [List.eq_nil_of_length_eq_zero hl]; rfl
  | succ n ih =>
    intro o l hl h K
    cases l with
    | nil => simp at hl
    | cons v l =>
      have h0 := h 0 (by omega)
      show @Option.rec Value (fun _ => Ans) (.err 4 o) (fun v => rdA c n (Nat.succ o) fun l => K (v :: l)) (c.get o) = _
      rw [show c.get o = some v by simpa using h0]
      show (rdA c n (Nat.succ o) fun l => K (v :: l)) = _
      rw [ih (l := l) (by simpa using hl) fun i hi => ?_]
      have := h (i + 1) (by omega)
      rw [show Nat.succ o + i = o + (i + 1) by omega, this]
      simp
theorem rdF_ok {ob : Ob} {x : Option AObj} {n o : Nat} {k : List Value → Ans} (ho : OR ob x) (h : rdF ob n o k = .ok V HH) :
    ∃ l c0 m e w, x = some (.cells c0 m e w) ∧ o + n ≤ m ∧ l.length = n ∧ (∀ i, i < n → c0.get (o + i) = l[i]?) ∧ k l = .ok V HH := by
  rcases cellsK_ok h with ⟨c, m, e, w, rfl, h1⟩ | ⟨c, m, e, w, rfl, h1⟩
  · obtain ⟨hle, h2⟩ := ifK_ok h1
    have hle := ble_le hle
    obtain ⟨hm, c0, hx, hg⟩ := ho
    have hlen : (rd1 c n o).length = n := by
      have : o + n ≤ m := hle
      simp [rd1, takeR_eq, dropR_eq, toL1_len]; omega
    refine ⟨_, c0, m, e, w, hx, hle, hlen, fun i hi => ?_, h2⟩
    have : o + n ≤ m := hle
    rw [hg (o + i) (by omega)]
    simp only [rd1, takeR_eq, dropR_eq]
    rw [List.getElem?_take_of_lt hi, List.getElem?_drop, toL1_get c (by omega)]
  · obtain ⟨hle, h2⟩ := ifK_ok h1
    have hle := ble_le hle
    obtain ⟨hm, c0, hx, hg⟩ := ho
    obtain ⟨l, h3, h4, h5⟩ := rd5_ok h2
    refine ⟨l, c0, m, e, w, hx, hle, h3, fun i hi => ?_, h5⟩
    have : o + n ≤ m := hle
    rw [hg (o + i) (by omega), h4 i hi]
theorem ldC_ok {P : Program} {t : TypeId} {a : Value} {k : Value → Ans} (hr : RH H' H) (h : (ldC P t).go H' a k = .ok V HH) : ∃ v, k v = .ok V HH ∧ ∀ K : Value → Ans, loadA P H t a K = K v := by
  unfold ldC at h
  split at h
  · rename_i s ha hs
    obtain ⟨b, o, rfl, h1⟩ := ptrK_ok (show ptrK a _ = .ok V HH from h)
    obtain ⟨hb, ho, h2⟩ := obK_ok hr h1
    obtain ⟨l, c0, m, e, w, hx, hle, hl, hg, h3⟩ := rdF_ok ho h2
    refine ⟨_, h3, fun K => ?_⟩
    have hble : Nat.ble (Nat.add o s) m = true := Nat.ble_eq_true_of_le hle
    simp only [loadA, hx, ha, hs, hble]
    exact rdA_eq hl hg _
  · rename_i s ha hs
    obtain ⟨b, o, rfl, h1⟩ := ptrK_ok (show ptrK a _ = .ok V HH from h)
    obtain ⟨hb, ho, h2⟩ := obK_ok hr h1
    have fin : ∀ (c0 : Tr Value) (n : Nat) (e : TypeId) (w : Bool) (v : Value), H.t.get b = some (.cells c0 n e w) → Nat.blt o n = true → c0.get o = some v → ∀ K : Value → Ans, loadA P H t (.pointer (some ⟨b, o, none⟩)) K = K v := by
      intro c0 n e w v hx hlt hv K
      simp only [loadA, hx, ha, hs, hlt, hv]
    rcases cellsK_ok h2 with ⟨c, n, e, w, hob, h3⟩ | ⟨c, n, e, w, hob, h3⟩
    · rw [hob] at ho
      obtain ⟨hlt, h4⟩ := ifK_ok h3
      obtain ⟨hn, c0, hx, hg⟩ := ho
      exact ⟨_, h4, fin c0 n e w _ hx hlt (hg o (blt_lt hlt))⟩
    · rw [hob] at ho
      obtain ⟨hlt, h4⟩ := ifK_ok h3
      obtain ⟨hn, c0, hx, hg⟩ := ho
      exact ⟨_, h4, fin c0 n e w _ hx hlt (hg o (blt_lt hlt))⟩
  · cases h
theorem cell1_put {c0 : Tr Value} {c : V1} {n : Nat} (hn : n ≤ 8) (hg : ∀ i, i < n → c0.get i = some ((sV1 i).g c)) {o : Nat} (ho : o < n) (v : Value) : ∀ i, i < n → (c0.set o v).get i = some ((sV1 i).g ((sV1 o).m (fun _ => v) c)) := by
  intro i hi
  by_cases e : i = o
  · subst e; rw [Tr.set_eq, hg i hi, sV1_same]; rfl
  · rw [Tr.set_ne _ _ _ _ (fun x => e x.symm), hg i hi, sV1_ne o i _ c (by omega) (by omega) (fun x => e x.symm)]
theorem cell5_put {c0 : Tr Value} {c : V5} {n : Nat} (hn : n ≤ 32768) (hg : ∀ i, i < n → c0.get i = some ((l5 i).g c)) {o : Nat} (ho : o < n) (v : Value) : ∀ i, i < n → (c0.set o v).get i = some ((l5 i).g ((l5 o).s v c)) := by
  intro i hi
  by_cases e : i = o
  · subst e; rw [Tr.set_eq, hg i hi, l5_same]; rfl
  · rw [Tr.set_ne _ _ _ _ (fun x => e x.symm), hg i hi, l5_ne o i v c (by omega) (by omega) (fun x => e x.symm)]
theorem set1_rel {n : Nat} (hn : n ≤ 8) (l : List Value) : ∀ (o : Nat) (c0 : Tr Value) (c : V1), o + l.length ≤ n → (∀ i, i < n → c0.get i = some ((sV1 i).g c)) → ∀ i, i < n → (setL l o c0).get i = some ((sV1 i).g (set1 l o c)) := by
  induction l with
  | nil => intro o c0 c _ hg; exact hg
  | cons v l ih => intro o c0 c ho hg; exact ih (o + 1) _ _ (by simp at ho; omega) (cell1_put hn hg (by simp at ho; omega) v)
theorem fz5_eq (i : Nat) (c : V5) (k : Ans) : fz5 i c k = k := rfl
theorem put5_ok {i : Nat} {v : Value} {c : V5} {k : V5 → Ans} : put5 i v c k = k ((l5 i).s v c) := by
  show fz5 i ((l5 i).s v c) (k ((l5 i).s v c)) = _
  unfold fz5
  generalize (sV2 (Nat.mod (Nat.div i 8) 8)).g _ = x
  cases x; rfl
theorem put5L_ok {n : Nat} (hn : n ≤ 32768) (l : List Value) : ∀ {o : Nat} {c0 : Tr Value} {c : V5} {k : V5 → Ans}, o + l.length ≤ n → (∀ i, i < n → c0.get i = some ((l5 i).g c)) → put5L l o c k = .ok V HH → ∃ c', k c' = .ok V HH ∧ ∀ i, i < n → (setL l o c0).get i = some ((l5 i).g c') := by
  induction l with
  | nil => intro o c0 c k _ hg h; exact ⟨c, h, hg⟩
  | cons v l ih =>
    intro o c0 c k ho hg h
    have h' : (stN o fun i => put5 i v c fun c => put5L l (Nat.succ i) c k) = .ok V HH := h
    rw [stN_eq, put5_ok] at h'
    exact ih (by simp at ho; omega) (cell5_put hn hg (by simp at ho; omega) v) h'
theorem put5L_new (l : List Value) : ∀ {o : Nat} {c0 : Tr Value} {c : V5} {k : V5 → Ans}, o + l.length ≤ 32768 → (∀ i, i < o → c0.get i = some ((l5 i).g c)) → put5L l o c k = .ok V HH → ∃ c', k c' = .ok V HH ∧ ∀ i, i < o + l.length → (ofL l o c0).get i = some ((l5 i).g c') := by
  induction l with
  | nil => intro o c0 c k _ hg h; exact ⟨c, h, hg⟩
  | cons v l ih =>
    intro o c0 c k ho hg h
    have h' : (stN o fun i => put5 i v c fun c => put5L l (Nat.succ i) c k) = .ok V HH := h
    rw [stN_eq, put5_ok] at h'
    simp only [List.length_cons] at ho
    have := ih (o := o + 1) (c0 := c0.ins o v) (c := (l5 o).s v c) (by omega) (fun i hi => ?_) h'
    · obtain ⟨c', h1, h2⟩ := this
      exact ⟨c', h1, fun i hi => h2 i (by simp only [List.length_cons] at hi; omega)⟩
    · by_cases e : i = o
      · subst e
        rw [ins_full _ _ _ (fun m hm => by rw [hg m hm]; rfl), l5_same]
      · rw [Tr.ins_ne _ _ _ _ (fun x => e x.symm), hg i (by omega), l5_ne o i v c (by omega) (by omega) (fun x => e x.symm)]
theorem allF_eq (l : List Value) : allL isOneF l = allL isOne l := by
  have : isOneF = isOne := funext isOneF_eq
  rw [this]
theorem backF_ok {b : Nat} {k : FH → Ans} {ob : Ob} {o : AObj} (hr : RH H' H) (hb : b < H'.n) (ho : OR ob (some o)) (h : backF H' b k ob = .ok V HH) :
    ∃ H1', RH H1' ⟨H.t.set b o, H.n, lowr H.lo b⟩ ∧ k H1' = .ok V HH := by
  have h' : (stN (lowr H'.lo b) fun lo => k ⟨(l6 b).s ob H'.t, H'.n, lo⟩) = .ok V HH := h
  rw [stN_eq] at h'
  refine ⟨_, ?_, h'⟩
  rw [hr.lo]
  exact rh_set hr hb ho _
theorem storeLF_ok {b o : Nat} {l : List Value} {k : FH → Ans} (hr : RH H' H) (h : storeLF H' b o l k = .ok V HH) : ∃ H1' H1, RH H1' H1 ∧ k H1' = .ok V HH ∧ ∀ K : Hp → Ans, storeL H b o l K = K H1 := by
  obtain ⟨hb, ho, h1⟩ := obK_ok hr (show obK H' b _ = .ok V HH from h)
  have fin : ∀ (c0 : Tr Value) (n : Nat) (e : TypeId) (w : Bool), H.t.get b = some (.cells c0 n e w) → Nat.ble (Nat.add o (len l)) n = true → allL isOneF l = true → ∀ K : Hp → Ans, storeL H b o l K = K ⟨H.t.set b (.cells (setL l o c0) n e w), H.n, lowr H.lo b⟩ := by
    intro c0 n e w hx hle hall K
    rw [allF_eq] at hall
    simp only [storeL, hx, hle, hall]
  rcases cellsK_ok h1 with ⟨c, n, e, w, hob, h2⟩ | ⟨c, n, e, w, hob, h2⟩
  · rw [hob] at ho
    obtain ⟨hle, h3⟩ := ifK_ok h2
    obtain ⟨hall, h4⟩ := ifK_ok h3
    obtain ⟨hn, c0, hx, hg⟩ := ho
    have hle' : o + l.length ≤ n := by have := ble_le hle; rw [← len_eq]; exact this
    obtain ⟨H1', r, h5⟩ := backF_ok (ob := .small (set1 l o c) n e w) (o := .cells (setL l o c0) n e w) hr hb ⟨hn, _, rfl, set1_rel hn l o c0 c hle' hg⟩ h4
    exact ⟨H1', _, r, h5, fin c0 n e w hx hle hall⟩
  · rw [hob] at ho
    obtain ⟨hle, h3⟩ := ifK_ok h2
    obtain ⟨hall, h4⟩ := ifK_ok h3
    obtain ⟨hn, c0, hx, hg⟩ := ho
    have hle' : o + l.length ≤ n := by have := ble_le hle; rw [← len_eq]; exact this
    obtain ⟨c', h5, hg'⟩ := put5L_ok hn l hle' hg h4
    obtain ⟨H1', r, h6⟩ := backF_ok (ob := .big c' n e w) (o := .cells (setL l o c0) n e w) hr hb ⟨hn, _, rfl, hg'⟩ h5
    exact ⟨H1', _, r, h6, fin c0 n e w hx hle hall⟩
theorem store1F_ok {b o : Nat} {v : Value} {k : FH → Ans} (hr : RH H' H) (hv : isOne v = true) (h : store1F H' b o v k = .ok V HH) : ∃ H1' H1, RH H1' H1 ∧ k H1' = .ok V HH ∧ ∀ K : Hp → Ans, storeL H b o [v] K = K H1 := by
  obtain ⟨hb, ho, h1⟩ := obK_ok hr (show obK H' b _ = .ok V HH from h)
  have fin : ∀ (c0 : Tr Value) (n : Nat) (e : TypeId) (w : Bool), H.t.get b = some (.cells c0 n e w) → Nat.blt o n = true → ∀ K : Hp → Ans, storeL H b o [v] K = K ⟨H.t.set b (.cells (c0.set o v) n e w), H.n, lowr H.lo b⟩ := by
    intro c0 n e w hx hlt K
    have hle : Nat.ble (Nat.add o (len [v])) n = true := Nat.ble_eq_true_of_le (blt_lt hlt)
    have hall : allL isOne [v] = true := by show @Bool.rec (fun _ => Bool) false true (isOne v) = true; rw [hv]
    simp only [storeL, hx, hle, hall]
    rfl
  rcases cellsK_ok h1 with ⟨c, n, e, w, hob, h2⟩ | ⟨c, n, e, w, hob, h2⟩
  · rw [hob] at ho
    obtain ⟨hlt, h3⟩ := ifK_ok h2
    obtain ⟨hn, c0, hx, hg⟩ := ho
    obtain ⟨H1', r, h5⟩ := backF_ok (ob := .small ((sV1 o).m (fun _ => v) c) n e w) (o := .cells (c0.set o v) n e w) hr hb ⟨hn, _, rfl, cell1_put hn hg (blt_lt hlt) v⟩ h3
    exact ⟨H1', _, r, h5, fin c0 n e w hx hlt⟩
  · rw [hob] at ho
    obtain ⟨hlt, h3⟩ := ifK_ok h2
    obtain ⟨hn, c0, hx, hg⟩ := ho
    rw [put5_ok] at h3
    obtain ⟨H1', r, h5⟩ := backF_ok (ob := .big ((l5 o).s v c) n e w) (o := .cells (c0.set o v) n e w) hr hb ⟨hn, _, rfl, cell5_put hn hg (blt_lt hlt) v⟩ h3
    exact ⟨H1', _, r, h5, fin c0 n e w hx hlt⟩
theorem cellsL_one {v : Value} (h : isOne v = true) : cellsL v = [v] := by cases v <;> first | rfl | cases h
theorem stGen_ok {P : Program} {t : TypeId} {s b o : Nat} {v : Value} {k : FH → Ans} (hs : sizeA P t = some s) (hr : RH H' H) (h : stGen s H' b o v k = .ok V HH) : ∃ H1' H1, RH H1' H1 ∧ k H1' = .ok V HH ∧ ∀ K : Hp → Ans, storeA P H t (.pointer (some ⟨b, o, none⟩)) v K = K H1 := by
  obtain ⟨hl, h1⟩ := ifK_ok h
  rw [cellsF_eq] at hl h1
  obtain ⟨H1', H1, r, h2, h3⟩ := storeLF_ok hr h1
  refine ⟨H1', H1, r, h2, fun K => ?_⟩
  simp only [storeA, hs, hl]
  exact h3 K
theorem stC_ok {P : Program} {t : TypeId} {a v : Value} {k : FH → Ans} (hr : RH H' H) (h : (stC P t).go H' a v k = .ok V HH) : ∃ H1' H1, RH H1' H1 ∧ k H1' = .ok V HH ∧ ∀ K : Hp → Ans, storeA P H t a v K = K H1 := by
  unfold stC at h
  split at h
  · rename_i s hs
    split at h
    · rename_i h1
      have hs1 : s = 1 := beq_eq' h1
      subst hs1
      obtain ⟨b, o, rfl, h2⟩ := ptrK_ok (show ptrK a _ = .ok V HH from h)
      cases hv : isOneF v with
      | true =>
        rw [hv, ifK_true] at h2
        rw [isOneF_eq] at hv
        obtain ⟨H1', H1, r, h3, h4⟩ := store1F_ok hr hv h2
        refine ⟨H1', H1, r, h3, fun K => ?_⟩
        have hl : Nat.beq (len (cellsL v)) 1 = true := by rw [cellsL_one hv]; rfl
        simp only [storeA, hs, hl, cellsL_one hv]
        exact h4 K
      | false =>
        rw [hv, ifK_false] at h2
        exact stGen_ok hs hr h2
    · obtain ⟨b, o, rfl, h2⟩ := ptrK_ok (show ptrK a _ = .ok V HH from h)
      exact stGen_ok hs hr h2
  · cases h
theorem newF_ok {ob : Ob} {o : AObj} {k : Nat → FH → Ans} (hr : RH H' H) (ho : OR ob (some o)) (h : newF H' ob k = .ok V HH) : ∃ H1', RH H1' ⟨H.t.ins H.n o, Nat.succ H.n, H.lo⟩ ∧ k H.n H1' = .ok V HH := by
  obtain ⟨h1, h2⟩ := ifK_ok (show ifK (Nat.blt H'.n 262144) _ _ = .ok V HH from h)
  rw [stN_eq] at h2
  rw [hr.n]
  refine ⟨_, ?_, h2⟩
  have := rh_new hr (blt_lt h1) ho
  rw [hr.n] at this
  exact this
theorem mkOb_ok {l : List Value} {e : TypeId} {w : Bool} {k : Ob → Ans} (h : mkOb l e w k = .ok V HH) : ∃ ob, k ob = .ok V HH ∧ OR ob (some (.cells (ofL l 0 .nil) (len l) e w)) := by
  have h' : (stN (len l) fun n => ifK (Nat.ble n 8) (k (.small (of1 l) n e w)) (ifK (Nat.ble n 32768) (put5L l Nat.zero eV5 fun c => k (.big c n e w)) (.err 7 0))) = .ok V HH := h
  rw [stN_eq] at h'
  cases hb : Nat.ble (len l) 8 with
  | true =>
    rw [hb, ifK_true] at h'
    have hle : l.length ≤ 8 := by have := ble_le hb; rw [len_eq] at this; exact this
    refine ⟨_, h', by rw [len_eq]; exact hle, _, rfl, fun i hi => ?_⟩
    rw [len_eq] at hi
    rw [ofL_nil_full l hi, List.getElem?_eq_getElem hi]
    congr 1
    exact (of1_get (by omega) (List.getElem?_eq_getElem hi)).symm
  | false =>
    rw [hb, ifK_false] at h'
    obtain ⟨h1, h2⟩ := ifK_ok h'
    have hle : l.length ≤ 32768 := by have := ble_le h1; rw [len_eq] at this; exact this
    obtain ⟨c', h3, h4⟩ := put5L_new l (o := 0) (c0 := .nil) (by omega) (fun i hi => absurd hi (Nat.not_lt_zero _)) h2
    refine ⟨_, h3, by rw [len_eq]; exact hle, _, rfl, fun i hi => ?_⟩
    rw [len_eq] at hi
    exact h4 i (by omega)
theorem rowF_ok {l : List Value} {e : TypeId} {w : Bool} {k : Nat → FH → Ans} (hr : RH H' H) (h : rowF H' l e w k = .ok V HH) :
    ∃ H1' H1, RH H1' H1 ∧ k H.n H1' = .ok V HH ∧ ∀ K : Nat → Hp → Ans, rowA H l e w K = K H.n H1 := by
  obtain ⟨h1, h2⟩ := ifK_ok (show ifK (allL isOneF l) _ _ = .ok V HH from h)
  obtain ⟨ob, h3, ho⟩ := mkOb_ok h2
  obtain ⟨H1', r, h4⟩ := newF_ok hr ho h3
  refine ⟨H1', _, r, h4, fun K => ?_⟩
  rw [allF_eq] at h1
  unfold rowA newA
  rw [h1]
end
end Go.Abs
set_option linter.unusedVariables false
set_option linter.unusedSimpArgs false
namespace Go.Abs
open Go.RowKit
variable [TokEnv]
structure RT (n : Nat) (T' : V3) (T : Tr Value) : Prop where
  cap : n ≤ 512
  get : ∀ t, t < n → T.get t = some ((l3 t).g T')
section
variable {P : Program} {V : Value} {HH : Hp} {H' : FH} {H : Hp} {n : Nat} {T' : V3} {T : Tr Value} {o : Oper}
theorem okx_eval {x : Operand} (ht : RT n T' T) (h : okx n x = true) (K : Value → Ans) : evalA T x K = K ((cgx x).g T') := by
  cases x with
  | tmp t =>
    have hg := ht.get t (blt_lt h)
    show @Option.rec Value (fun _ => Ans) (.err 1 t) K (T.get t) = K ((l3 t).g T')
    rw [hg]
  | const v =>
    have hc : constOk v = true := h
    show @Bool.rec (fun _ => Ans) (.err 2 0) (K v) (constOk v) = K v
    rw [hc]
  | global g => cases h
  | func f => rfl
theorem okl_eval {l : List Operand} (ht : RT n T' T) : okl n l = true → ∀ K : List Value → Ans, evalsA T l K = K ((cgl l).g T') := by
  induction l with
  | nil => intro _ K; rfl
  | cons x l ih =>
    intro h K
    have h' : @Bool.rec (fun _ => Bool) false (okl n l) (okx n x) = true := h
    cases hx : okx n x with
    | false => rw [hx] at h'; cases h'
    | true =>
      rw [hx] at h'
      show (evalA T x fun v => evalsA T l fun l => K (v :: l)) = _
      rw [okx_eval ht hx, ih h']
      rfl
theorem okC_ok {b : Bool} {c : COp} {cl : CallF} {r : Value → FH → Ans} (h : (okC b c).run cl T' H' r = .ok V HH) : b = true ∧ c.run cl T' H' r = .ok V HH := by
  cases b
  · cases h
  · exact ⟨rfl, h⟩
theorem ok2_ok {a b : Bool} (h : ok2 a b = true) : a = true ∧ b = true := by rw [ok2_eq] at h; simpa using h
def OpE (P : Program) (o : Oper) (T : Tr Value) (H : Hp) (v : Value) (H1 : Hp) : Prop := ∀ callA r, opA P callA o T H r = r v H1
def OpF (P : Program) (o : Oper) (T : Tr Value) (H : Hp) (r : Value → FH → Ans) (V : Value) (HH : Hp) : Prop :=
  ∃ v H1' H1, RH H1' H1 ∧ r v H1' = .ok V HH ∧ OpE P o T H v H1
theorem bytesA_uni : ∀ {l : List Value} {k : List UInt8 → Ans}, bytesOfA l k = .ok V HH → ∃ bs, k bs = .ok V HH ∧ ∀ K, bytesOfA l K = K bs := by
  intro l
  induction l with
  | nil => intro k h; exact ⟨[], h, fun K => rfl⟩
  | cons v l ih =>
    intro k h
    cases v with
    | int kk m =>
      cases kk with
      | u8 =>
        obtain ⟨bs, h1, h2⟩ := ih (k := fun bs => k (UInt8.ofNat m.toNat :: bs)) h
        exact ⟨_, h1, fun K => h2 _⟩
      | _ => cases h
    | _ => cases h
theorem intBin_uni {op : BinOp} {k : IntKind} {a b : Int} {r : Value → Ans} (h : intBin op k a b r = .ok V HH) : ∃ v, r v = .ok V HH ∧ ∀ K, intBin op k a b K = K v := by
  unfold intBin at h
  cases op <;> simp only at h <;> first
    | exact ⟨_, h, fun K => rfl⟩
    | (cases hb : ieq b 0 with
       | true => rw [hb] at h; cases h
       | false => rw [hb] at h; exact ⟨_, h, fun K => by unfold intBin; simp only [hb]⟩)
    | (cases a <;> cases b <;> first | exact ⟨_, h, fun K => rfl⟩ | cases h)
    | cases h
theorem shiftBin_uni {op : BinOp} {k : IntKind} {a b : Int} {r : Value → Ans} (h : shiftBin op k a b r = .ok V HH) : ∃ v, r v = .ok V HH ∧ ∀ K, shiftBin op k a b K = K v := by
  unfold shiftBin at h
  cases b with
  | ofNat b =>
    simp only at h
    obtain ⟨hb, h1⟩ := brec_ok (c := 44) (x := 0) h
    cases op <;> simp only at h1 <;> first
      | exact ⟨_, h1, fun K => by unfold shiftBin; simp only [hb]⟩
      | (cases a <;> first | exact ⟨_, h1, fun K => by unfold shiftBin; simp only [hb]⟩ | cases h1)
      | cases h1
  | negSucc b => cases h
theorem strBin_uni {op : BinOp} {x y : ByteArray} {r : Value → Ans} (h : strBin op x y r = .ok V HH) : ∃ v, r v = .ok V HH ∧ ∀ K, strBin op x y K = K v := by
  unfold strBin at h
  cases op <;> simp only at h <;> first
    | exact ⟨_, h, fun K => rfl⟩
    | (obtain ⟨hb, h1⟩ := brec_ok (c := 49) (x := 0) h; exact ⟨_, h1, fun K => by unfold strBin; simp only [hb]⟩)
    | cases h
theorem eqA_uni {t : TypeId} {x y : Value} {r : Bool → Ans} (h : eqA P t x y r = .ok V HH) : ∃ b, r b = .ok V HH ∧ ∀ K, eqA P t x y K = K b := by
  unfold eqA at h
  split at h <;> first
    | (rename_i hd
       split at h <;> first
         | (refine ⟨_, h, fun K => ?_⟩; unfold eqA; simp only [hd])
         | cases h)
    | cases h
theorem binA_uni {op : BinOp} {t : TypeId} {x y : Value} {r : Value → Ans} (hx : ∀ k n, x ≠ .int k n) (hs : ∀ s, x ≠ .string s) (h : binA P op t x y r = .ok V HH) : ∃ v, r v = .ok V HH ∧ ∀ K, binA P op t x y K = K v := by
  unfold binA at h
  cases x <;> first
    | exact absurd rfl (hx _ _)
    | exact absurd rfl (hs _)
    | (simp only at h
       cases op <;> simp only at h <;> first
         | (obtain ⟨b, h1, h2⟩ := eqA_uni h
            exact ⟨_, h1, fun K => by unfold binA; exact h2 _⟩)
         | cases h)
theorem binA_int {op : BinOp} {t : TypeId} {k k' : IntKind} {a b : Int} (h1 : op ≠ .shl) (h2 : op ≠ .shr) (hk : kindEq k k' = true) (K : Value → Ans) : binA P op t (.int k a) (.int k' b) K = intBin op k a b K := by
  cases op <;> first
    | exact absurd rfl h1
    | exact absurd rfl h2
    | (unfold binA; simp only [hk])
theorem arC_ok {f : Int → Int → Int} {k k' : IntKind} {a b : Int} {r : Value → Ans} (h : (arC f).run k k' a b r = .ok V HH) : kindEq k k' = true ∧ r (.int k (wrapF k (f a b))) = .ok V HH := by
  obtain ⟨h1, h2⟩ := ifK_ok (show ifK (kindEq k k') (stI (wrapF k (f a b)) fun n => r (.int k n)) (.err 60 0) = .ok V HH from h)
  rw [stI_eq] at h2
  exact ⟨h1, h2⟩
theorem cmC_ok {f : Int → Int → Bool} {k k' : IntKind} {a b : Int} {r : Value → Ans} (h : (cmC f).run k k' a b r = .ok V HH) : kindEq k k' = true ∧ r (.bool (f a b)) = .ok V HH := ifK_ok h
theorem iopC_ok {op : BinOp} {t : TypeId} {k k' : IntKind} {a b : Int} {r : Value → Ans} (h : (iopC op).run k k' a b r = .ok V HH) : ∃ v, r v = .ok V HH ∧ ∀ K, binA P op t (.int k a) (.int k' b) K = K v := by
  cases op with
  | add => obtain ⟨hk, h1⟩ := arC_ok h; exact ⟨_, h1, fun K => by rw [binA_int (by decide) (by decide) hk]; rfl⟩
  | sub => obtain ⟨hk, h1⟩ := arC_ok h; exact ⟨_, h1, fun K => by rw [binA_int (by decide) (by decide) hk]; rfl⟩
  | mul => obtain ⟨hk, h1⟩ := arC_ok h; exact ⟨_, h1, fun K => by rw [binA_int (by decide) (by decide) hk]; rfl⟩
  | eql => obtain ⟨hk, h1⟩ := cmC_ok h; exact ⟨_, h1, fun K => by rw [binA_int (by decide) (by decide) hk]; rfl⟩
  | neq => obtain ⟨hk, h1⟩ := cmC_ok h; exact ⟨_, h1, fun K => by rw [binA_int (by decide) (by decide) hk]; rfl⟩
  | lss => obtain ⟨hk, h1⟩ := cmC_ok h; exact ⟨_, h1, fun K => by rw [binA_int (by decide) (by decide) hk]; rfl⟩
  | leq => obtain ⟨hk, h1⟩ := cmC_ok h; exact ⟨_, h1, fun K => by rw [binA_int (by decide) (by decide) hk]; rfl⟩
  | gtr => obtain ⟨hk, h1⟩ := cmC_ok h; exact ⟨_, h1, fun K => by rw [binA_int (by decide) (by decide) hk]; rfl⟩
  | geq => obtain ⟨hk, h1⟩ := cmC_ok h; exact ⟨_, h1, fun K => by rw [binA_int (by decide) (by decide) hk]; rfl⟩
  | shl => obtain ⟨v, h1, h2⟩ := shiftBin_uni (show shiftBin .shl k a b r = .ok V HH from h); exact ⟨v, h1, fun K => h2 K⟩
  | shr => obtain ⟨v, h1, h2⟩ := shiftBin_uni (show shiftBin .shr k a b r = .ok V HH from h); exact ⟨v, h1, fun K => h2 K⟩
  | _ =>
    obtain ⟨hk, h1⟩ := ifK_ok (show ifK (kindEq k k') (intBin _ k a b r) (.err 60 0) = .ok V HH from h)
    obtain ⟨v, h2, h3⟩ := intBin_uni h1
    exact ⟨v, h2, fun K => by rw [binA_int (by decide) (by decide) hk]; exact h3 K⟩
theorem tokQuo_uni {op : BinOp} {t : Nat} {y : Value} {r : Value → Ans} (h : tokQuo op t y r = .ok V HH) : ∃ v, r v = .ok V HH ∧ ∀ K, tokQuo op t y K = K v := by
  unfold tokQuo at h
  split at h
  · rename_i n
    obtain ⟨h0, h1⟩ := brec_ok (c := 65) (x := t) h
    obtain ⟨h9, h1⟩ := brec_ok (c := 69) (x := t) h1
    obtain ⟨h1, h2⟩ := brec_ok (c := 66) (x := n) h1
    obtain ⟨h2, h3⟩ := brec_ok (c := 67) (x := n) h2
    exact ⟨_, h3, fun K => by unfold tokQuo; simp only [h0, h9, h1, h2]⟩
  · cases h
theorem binTA_uni {op : BinOp} {t : TypeId} {x y : Value} {r : Value → Ans} (hx : ∀ k n, x ≠ .int k n) (hs : ∀ s, x ≠ .string s) (hc : ∀ c, x ≠ .chan (some c)) (h : binTA P op t x y r = .ok V HH) : ∃ v, r v = .ok V HH ∧ ∀ K, binTA P op t x y K = K v := by
  have e : ∀ K, binTA P op t x y K = binA P op t x y K := fun K => by
    unfold binTA
    split
    · exact absurd rfl (hc _)
    · rfl
  rw [e] at h
  obtain ⟨v, h1, h2⟩ := binA_uni hx hs h
  exact ⟨v, h1, fun K => (e K).trans (h2 K)⟩
theorem binC_ok {op : BinOp} {t : TypeId} {a b : Value} {r : Value → Ans} (h : (binC P op t).run a b r = .ok V HH) : ∃ v, r v = .ok V HH ∧ ∀ K, binTA P op t a b K = K v := by
  cases a with
  | int k m =>
    obtain ⟨k', m', rfl, h1⟩ := intK_ok (show intK b (fun k' n => (iopC op).run k k' m n r) = .ok V HH from h)
    obtain ⟨v, h2, h3⟩ := iopC_ok (P := P) (t := t) h1
    exact ⟨v, h2, fun K => h3 K⟩
  | string s =>
    obtain ⟨s', rfl, h1⟩ := strK_ok (show strK b (fun s' => strBin op s s' r) = .ok V HH from h)
    obtain ⟨v, h2, h3⟩ := strBin_uni h1
    exact ⟨v, h2, fun K => h3 K⟩
  | chan c =>
    cases c with
    | none => exact binTA_uni (fun _ _ e => by cases e) (fun _ e => by cases e) (fun _ e => by cases e) (show binTA P op t (.chan none) b r = .ok V HH from h)
    | some c => exact tokQuo_uni (show tokQuo op c b r = .ok V HH from h)
  | _ => exact binTA_uni (fun _ _ e => by cases e) (fun _ e => by cases e) (fun _ e => by cases e) (show binTA P op t _ b r = .ok V HH from h)
theorem unA_uni {op : UnOp} {x : Value} {r : Value → Ans} (h : unA op x r = .ok V HH) : ∃ v, r v = .ok V HH ∧ ∀ K, unA op x K = K v := by
  cases op <;> cases x <;> first | exact ⟨_, h, fun K => rfl⟩ | cases h
theorem minMaxA_uni {q : Bool} {x y : Value} {r : Value → Ans} (h : minMaxA q x y r = .ok V HH) : ∃ v, r v = .ok V HH ∧ ∀ K, minMaxA q x y K = K v := by
  cases x <;> first | (cases y <;> first | exact ⟨_, h, fun K => rfl⟩ | cases h) | cases h
theorem foldMM_uni {q : Bool} : ∀ {l : List Value} {x : Value} {r : Value → Ans}, foldMM q l x r = .ok V HH → ∃ v, r v = .ok V HH ∧ ∀ K, foldMM q l x K = K v := by
  intro l
  induction l with
  | nil => intro x r h; exact ⟨x, h, fun K => rfl⟩
  | cons y l ih =>
    intro x r h
    obtain ⟨z, h1, h2⟩ := minMaxA_uni (show minMaxA q x y (fun z => foldMM q l z r) = .ok V HH from h)
    obtain ⟨v, h3, h4⟩ := ih h1
    exact ⟨v, h3, fun K => by show minMaxA q x y (fun z => foldMM q l z K) = _; rw [h2, h4]⟩
theorem assert_uni {u : TypeId} {ok : Bool} {x : Value} {r : Value → Ans} (h : assertA P u ok x H0 (fun v _ => r v) = .ok V HH) : ∃ v, r v = .ok V HH ∧ ∀ (G : Hp) (K : Value → Hp → Ans), assertA P u ok x G K = K v G := by
  unfold assertA at h
  split at h
  · cases h
  · rename_i hd
    split at h
    · rename_i w v
      cases hb : Nat.beq w u with
      | true =>
        rw [hb] at h
        simp only at h
        unfold assertYes at h
        cases ok with
        | true => exact ⟨_, h, fun G K => by unfold assertA; simp only [hd, hb, assertYes]⟩
        | false => exact ⟨_, h, fun G K => by unfold assertA; simp only [hd, hb, assertYes]⟩
      | false =>
        rw [hb] at h
        simp only at h
        unfold assertNo at h
        cases ok with
        | true =>
          simp only at h
          split at h
          · rename_i z hz
            obtain ⟨hc, h1⟩ := brec_ok (c := 223) (x := u) h
            exact ⟨_, h1, fun G K => by unfold assertA; simp only [hd, hb, assertNo, hz, hc]⟩
          · cases h
        | false => cases h
    · cases h
  · cases h
theorem partA_uni {t : TypeId} {cs : List Value} {off : Nat} {r : Value → Ans} (h : partA P t cs off r = .ok V HH) : ∃ v, r v = .ok V HH ∧ ∀ K, partA P t cs off K = K v := by
  unfold partA at h
  split at h
  · rename_i s ha hs; exact ⟨_, h, fun K => by unfold partA; simp only [ha, hs]⟩
  · rename_i s ha hs
    obtain ⟨v, hv, h1⟩ := orec_ok (c := 97) (x := off) h
    exact ⟨v, h1, fun K => by unfold partA; simp only [ha, hs, hv]⟩
  · cases h
section
variable {r : Value → FH → Ans} {cl : CallF} (ht : RT n T' T) (hr : RH H' H)
include ht hr
theorem f_move {x : Operand} (ho : o.op = .move x) (h : (cop P n (.move x)).run cl T' H' r = .ok V HH) : OpF P o T H r V HH := by
  obtain ⟨hx, h1⟩ := okC_ok h
  exact ⟨_, H', H, hr, h1, fun callA r => by unfold opA; simp only [ho]; exact okx_eval ht hx _⟩
theorem f_assign {x : Operand} (ho : o.op = .assign x) (h : (cop P n (.assign x)).run cl T' H' r = .ok V HH) : OpF P o T H r V HH := by
  obtain ⟨hx, h1⟩ := okC_ok h
  exact ⟨_, H', H, hr, h1, fun callA r => by unfold opA; simp only [ho]; exact okx_eval ht hx _⟩
theorem f_pick {c a b : Operand} (ho : o.op = .pick c a b) (h : (cop P n (.pick c a b)).run cl T' H' r = .ok V HH) : OpF P o T H r V HH := by
  obtain ⟨hx, h1⟩ := okC_ok h
  obtain ⟨hc, hx⟩ := ok2_ok hx
  obtain ⟨ha, hb⟩ := ok2_ok hx
  rcases boolK_ok (show boolK _ _ _ = .ok V HH from h1) with ⟨e, h2⟩ | ⟨e, h2⟩
  · exact ⟨_, H', H, hr, h2, fun callA r => by unfold opA; simp only [ho]; rw [okx_eval ht hc, e]; exact okx_eval ht ha _⟩
  · exact ⟨_, H', H, hr, h2, fun callA r => by unfold opA; simp only [ho]; rw [okx_eval ht hc, e]; exact okx_eval ht hb _⟩
theorem f_alloc {e : TypeId} (ho : o.op = .alloc e) (h : (cop P n (.alloc e)).run cl T' H' r = .ok V HH) : OpF P o T H r V HH := by
  replace h : (allocC P e).run cl T' H' r = .ok V HH := h
  unfold allocC at h
  split at h
  · rename_i i hi
    split at h
    · rename_i z hz
      obtain ⟨hc, h1⟩ := okC_ok h
      obtain ⟨H1', H1, k1, h2, h3⟩ := rowF_ok hr (show rowF H' (cellsF z) e false _ = .ok V HH from h1)
      rw [cellsF_eq] at h3
      exact ⟨_, H1', H1, k1, h2, fun callA r => by unfold opA; simp only [ho, hi, hz, hc]; exact h3 _⟩
    · cases h
  · cases h
theorem f_box {e : TypeId} {x : Operand} (ho : o.op = .box e x) (h : (cop P n (.box e x)).run cl T' H' r = .ok V HH) : OpF P o T H r V HH := by
  obtain ⟨hx, h1⟩ := okC_ok h
  unfold boxC at h1
  split at h1
  · rename_i i hi
    obtain ⟨H1', H1, k1, h2, h3⟩ := rowF_ok hr (show rowF H' (cellsF _) e false _ = .ok V HH from h1)
    rw [cellsF_eq] at h3
    exact ⟨_, H1', H1, k1, h2, fun callA r => by unfold opA; simp only [ho, hi]; rw [okx_eval ht hx]; exact h3 _⟩
  · cases h1
theorem fillF_ok {place : Nat → Option (Nat × Nat)} : ∀ {parts : List (Nat × Operand)} {l : List Value} {k : List Value → Ans}, okp n parts = true → fillF place T' parts l k = .ok V HH → ∃ l', k l' = .ok V HH ∧ ∀ K, fillA place T parts l K = K l' := by
  intro parts
  induction parts with
  | nil => intro l k _ h; exact ⟨l, h, fun K => rfl⟩
  | cons p parts ih =>
    intro l k hp h
    obtain ⟨i, x⟩ := p
    have hp' : @Bool.rec (fun _ => Bool) false (okp n parts) (okx n x) = true := hp
    cases hx : okx n x with
    | false => rw [hx] at hp'; cases hp'
    | true =>
      rw [hx] at hp'
      have h' : @Option.rec (Nat × Nat) (fun _ => Ans) (.err 30 i) (fun q => ifK (Nat.beq (len (cellsF ((cgx x).g T'))) q.2) (ifK (Nat.ble (Nat.add q.1 q.2) (len l)) (fillF place T' parts (appL (takeR q.1 l) (appL (cellsF ((cgx x).g T')) (dropR (Nat.add q.1 q.2) l))) k) (.err 32 i)) (.err 31 i)) (place i) = .ok V HH := h
      obtain ⟨⟨off, s⟩, hq, h1⟩ := orec_ok (c := 30) (x := i) h'
      obtain ⟨hl, h2⟩ := ifK_ok h1
      obtain ⟨hle, h3⟩ := ifK_ok h2
      obtain ⟨l', h4, h5⟩ := ih hp' h3
      refine ⟨l', h4, fun K => ?_⟩
      rw [cellsF_eq] at hl h5
      show (evalA T x fun v => match place i with
        | some (off, s) => @Bool.rec (fun _ => Ans) (.err 31 i) (@Bool.rec (fun _ => Ans) (.err 32 i) (fillA place T parts (spliceL l off (cellsL v)) K) (Nat.ble (Nat.add off s) (len l))) (Nat.beq (len (cellsL v)) s)
        | none => .err 30 i) = _
      rw [okx_eval ht hx]
      simp only at hl hle
      simp only [hq, hl, hle]
      rw [← h5 K]
      congr 1
      unfold spliceL
      rw [takeL_eq, dropL_eq, takeR_eq, dropR_eq, beq_eq' hl]
theorem f_build {t : TypeId} {parts : Array (Nat × Operand)} (ho : o.op = .build t parts) (h : (cop P n (.build t parts)).run cl T' H' r = .ok V HH) : OpF P o T H r V HH := by
  obtain ⟨hp, h1⟩ := okC_ok h
  unfold buildC at h1
  split at h1
  · rename_i z hz
    obtain ⟨hc, h2⟩ := okC_ok h1
    obtain ⟨hpl, hc⟩ := ok2_ok hc
    obtain ⟨l, h3, h4⟩ := fillF_ok ht hr hp (show fillF _ T' _ _ _ = .ok V HH from h2)
    rw [cellsF_eq] at h4
    exact ⟨_, H', H, hr, h3, fun callA r => by unfold opA; simp only [ho, hz, hpl, hc]; exact h4 _⟩
  · cases h1
theorem f_buildSlice {t : TypeId} {m : Nat} {parts : Array (Nat × Operand)} (ho : o.op = .buildSlice t m parts) (h : (cop P n (.buildSlice t m parts)).run cl T' H' r = .ok V HH) : OpF P o T H r V HH := by
  obtain ⟨hp, h1⟩ := okC_ok h
  unfold buildSliceC at h1
  split at h1
  · rename_i e hd
    split at h1
    · rename_i i hi
      split at h1
      · rename_i z hz
        obtain ⟨hc, h2⟩ := okC_ok h1
        obtain ⟨hc1, hc2⟩ := ok2_ok hc
        obtain ⟨hle, hpos⟩ := ok2_ok hc1
        obtain ⟨hlen, hc⟩ := ok2_ok hc2
        obtain ⟨l, h3, h4⟩ := fillF_ok ht hr hp (show fillF (fun j => some (j * i.size, i.size)) T' parts.toList (repL (cellsF z) m) (fun l => rowF H' l e false fun b H => r (.slice (some ⟨b, 0, none⟩) m m) H) = .ok V HH from h2)
        obtain ⟨H1', H1, k1, h5, h6⟩ := rowF_ok hr h3
        rw [cellsF_eq] at h4
        exact ⟨_, H1', H1, k1, h5, fun callA r => by unfold opA; simp only [ho, hd, hi, hz, hle, hpos, hlen, hc]; rw [h4]; exact h6 _⟩
      · cases h1
    · cases h1
  · cases h1
theorem f_load {t : TypeId} {a : Operand} (ho : o.op = .load t a) (h : (cop P n (.load t a)).run cl T' H' r = .ok V HH) : OpF P o T H r V HH := by
  obtain ⟨hx, h1⟩ := okC_ok h
  obtain ⟨v, h2, h3⟩ := ldC_ok hr (show (ldC P t).go H' _ _ = .ok V HH from h1)
  exact ⟨v, H', H, hr, h2, fun callA r => by unfold opA; simp only [ho]; rw [okx_eval ht hx]; exact h3 _⟩
theorem f_store {t : TypeId} {a x : Operand} (ho : o.op = .store t a x) (h : (cop P n (.store t a x)).run cl T' H' r = .ok V HH) : OpF P o T H r V HH := by
  obtain ⟨hx, h1⟩ := okC_ok h
  obtain ⟨ha, hx⟩ := ok2_ok hx
  obtain ⟨H1', H1, k1, h2, h3⟩ := stC_ok hr (show (stC P t).go H' _ _ _ = .ok V HH from h1)
  exact ⟨undef, H1', H1, k1, h2, fun callA r => by unfold opA; simp only [ho]; rw [okx_eval ht ha, okx_eval ht hx]; exact h3 _⟩
theorem f_nilCheck {x : Operand} (ho : o.op = .nilCheck x) (h : (cop P n (.nilCheck x)).run cl T' H' r = .ok V HH) : OpF P o T H r V HH := by
  obtain ⟨hx, h1⟩ := okC_ok h
  obtain ⟨b, off, e, h2⟩ := ptrK_ok (show ptrK _ _ = .ok V HH from h1)
  exact ⟨_, H', H, hr, h2, fun callA r => by unfold opA; simp only [ho]; rw [okx_eval ht hx, e]⟩
theorem f_binOp {op : BinOp} {t ty : TypeId} {x y : Operand} (ho : o.op = .binOp op t x y ty) (h : (cop P n (.binOp op t x y ty)).run cl T' H' r = .ok V HH) : OpF P o T H r V HH := by
  obtain ⟨hx, h1⟩ := okC_ok h
  obtain ⟨hx, hy⟩ := ok2_ok hx
  obtain ⟨v, h2, h3⟩ := binC_ok (show (binC P op t).run _ _ _ = .ok V HH from h1)
  exact ⟨v, H', H, hr, h2, fun callA r => by unfold opA; simp only [ho]; rw [okx_eval ht hx, okx_eval ht hy]; exact h3 _⟩
theorem f_unOp {op : UnOp} {t : TypeId} {x : Operand} (ho : o.op = .unOp op t x) (h : (cop P n (.unOp op t x)).run cl T' H' r = .ok V HH) : OpF P o T H r V HH := by
  obtain ⟨hx, h1⟩ := okC_ok h
  obtain ⟨v, h2, h3⟩ := unA_uni (show unA op ((cgx x).g T') (fun v => r v H') = .ok V HH from h1)
  exact ⟨v, H', H, hr, h2, fun callA r => by unfold opA; simp only [ho]; rw [okx_eval ht hx]; exact h3 _⟩
theorem f_convert {src dst : TypeId} {x : Operand} (ho : o.op = .convert src dst x) (h : (cop P n (.convert src dst x)).run cl T' H' r = .ok V HH) : OpF P o T H r V HH := by
  obtain ⟨hx, h1⟩ := okC_ok h
  unfold convC at h1
  split at h1
  · cases h1
  · rename_i s hs
    split at h1
    · rename_i k hd
      obtain ⟨kk, m, e, h2⟩ := intK_ok (show intK _ _ = .ok V HH from h1)
      rw [stI_eq] at h2
      exact ⟨_, H', H, hr, h2, fun callA r => by unfold opA; simp only [ho]; rw [okx_eval ht hx, e]; unfold convA; simp only [hs, hd]⟩
    · rename_i hd
      split at h1
      · obtain ⟨b, e, h2⟩ := strK_ok (show strK _ _ = .ok V HH from h1)
        exact ⟨_, H', H, hr, h2, fun callA r => by unfold opA; simp only [ho]; rw [okx_eval ht hx, e]; unfold convA; simp only [hs, hd]⟩
      · rename_i e
        split at h1
        · rename_i he
          rcases slcK_ok (show slcK _ _ _ = .ok V HH from h1) with ⟨l, c, e1, h2⟩ | ⟨b, off, l, c, e1, h2⟩
          · exact ⟨_, H', H, hr, h2, fun callA r => by unfold opA; simp only [ho]; rw [okx_eval ht hx, e1]; unfold convA; simp only [hs, hd, he]⟩
          · obtain ⟨hb, hor, h3⟩ := obK_ok hr h2
            obtain ⟨cs, c0, m, e2, w, hx2, hle, hl, hg, h4⟩ := rdF_ok hor h3
            obtain ⟨bs, h5, h6⟩ := bytesA_uni h4
            have hble : Nat.ble (Nat.add off l) m = true := Nat.ble_eq_true_of_le hle
            refine ⟨_, H', H, hr, h5, fun callA r => ?_⟩
            unfold opA; simp only [ho]; rw [okx_eval ht hx, e1]; unfold convA; simp only [hs, hd, he, hx2, hble]
            rw [rdA_eq hl hg]; exact h6 _
        · cases h1
      · cases h1
    · rename_i e hd
      split at h1
      · rename_i he hse
        obtain ⟨b, e1, h2⟩ := strK_ok (show strK _ _ = .ok V HH from h1)
        obtain ⟨H1', H1, k1, h3, h4⟩ := rowF_ok hr h2
        exact ⟨_, H1', H1, k1, h3, fun callA r => by unfold opA; simp only [ho]; rw [okx_eval ht hx, e1]; unfold convA; simp only [hs, hd, he, hse]; exact h4 _⟩
      · cases h1
    · cases h1
theorem f_makeInterface {t : TypeId} {x : Operand} (ho : o.op = .makeInterface t x) (h : (cop P n (.makeInterface t x)).run cl T' H' r = .ok V HH) : OpF P o T H r V HH := by
  obtain ⟨hx, h1⟩ := okC_ok h
  unfold makeIfC at h1
  split at h1
  · cases h1
  · rename_i d hni hd
    refine ⟨_, H', H, hr, h1, fun callA r => ?_⟩
    unfold opA; simp only [ho]
    split
    · rename_i q hq; rw [hq] at hd; cases hd; exact absurd rfl (hni _)
    · exact okx_eval ht hx _
    · rename_i hq; rw [hq] at hd; cases hd
  · cases h1
theorem f_makeFunc {fn : Fn} {first captured : Array Operand} (ho : o.op = .makeFunc fn first captured) (h : (cop P n (.makeFunc fn first captured)).run cl T' H' r = .ok V HH) : OpF P o T H r V HH := by
  obtain ⟨hx, h1⟩ := okC_ok h
  obtain ⟨hf, hc⟩ := ok2_ok hx
  exact ⟨_, H', H, hr, h1, fun callA r => by unfold opA; simp only [ho]; rw [okl_eval ht hf, okl_eval ht hc]⟩
theorem f_makeSlice {t : TypeId} {a c : Operand} (ho : o.op = .makeSlice t a c) (h : (cop P n (.makeSlice t a c)).run cl T' H' r = .ok V HH) : OpF P o T H r V HH := by
  obtain ⟨hx, h1⟩ := okC_ok h
  obtain ⟨ha, hcx⟩ := ok2_ok hx
  unfold makeSliceF at h1
  split at h1
  · rename_i e hd
    split at h1
    · rename_i i hi
      split at h1
      · rename_i z hz
        obtain ⟨hc, h2⟩ := okC_ok h1
        obtain ⟨hlen, hc⟩ := ok2_ok hc
        obtain ⟨k1, m1, e1, h3⟩ := intK_ok (show intK _ _ = .ok V HH from h2)
        obtain ⟨n1, rfl, h4⟩ := natK_ok h3
        obtain ⟨k2, m2, e2, h5⟩ := intK_ok h4
        obtain ⟨n2, rfl, h6⟩ := natK_ok h5
        obtain ⟨hle, h7⟩ := ifK_ok h6
        obtain ⟨hsz, h8⟩ := ifK_ok h7
        obtain ⟨H1', H1, r1, h9, h10⟩ := rowF_ok hr h8
        rw [cellsF_eq] at h10
        refine ⟨_, H1', H1, r1, h9, fun callA r => ?_⟩
        unfold opA; simp only [ho]; rw [okx_eval ht ha, okx_eval ht hcx, e1, e2]; unfold makeSliceA; simp only [hd, hi, hz, hle, hsz, hlen, hc]; exact h10 _
      · cases h1
    · cases h1
  · cases h1
end
end
end Go.Abs
set_option linter.unusedVariables false
set_option linter.unusedSimpArgs false
set_option linter.unusedSectionVars false
namespace Go.Abs
open Go.RowKit
variable [TokEnv]
section
variable {P : Program} {V : Value} {HH : Hp} {H' : FH} {H : Hp} {n : Nat} {T' : V3} {T : Tr Value} {o : Oper}
section
variable {r : Value → FH → Ans} {cl : CallF} (ht : RT n T' T) (hr : RH H' H)
theorem bndV_ok {x : Option Operand} {dflt y : Nat} {k : Nat → Ans} (ht : RT n T' T) (hx : oko n x = true) (h : bndV ((cgo x).g T') dflt y k = .ok V HH) : ∃ m, k m = .ok V HH ∧ ∀ K, boundA x T dflt y K = K m := by
  cases x with
  | none => exact ⟨dflt, h, fun K => rfl⟩
  | some x =>
    obtain ⟨kk, m, e, h1⟩ := intK_ok (show intK ((cgx x).g T') _ = .ok V HH from h)
    obtain ⟨q, rfl, h2⟩ := natK_ok h1
    obtain ⟨hle, h3⟩ := ifK_ok h2
    refine ⟨q, h3, fun K => ?_⟩
    unfold boundA
    simp only
    rw [okx_eval ht hx, e]
    simp only [asI, hle]
theorem ownK_ok {ob : Ob} {x : Option AObj} (ho : OR ob x) {ks : V1 → Nat → TypeId → Bool → Ans} {kb : V5 → Nat → TypeId → Bool → Ans} {k : Nat → TypeId → Bool → Ans} (h : cellsK ob ks kb = .ok V HH) (h1 : ∀ c n e w, ks c n e w = k n e w) (h2 : ∀ c n e w, kb c n e w = k n e w) :
    ∃ c0 m e w, x = some (.cells c0 m e w) ∧ k m e w = .ok V HH := by
  rcases cellsK_ok h with ⟨c, m, e, w, rfl, h3⟩ | ⟨c, m, e, w, rfl, h3⟩
  · obtain ⟨_, c0, hx, _⟩ := ho; exact ⟨c0, m, e, w, hx, by rw [← h1 c]; exact h3⟩
  · obtain ⟨_, c0, hx, _⟩ := ho; exact ⟨c0, m, e, w, hx, by rw [← h2 c]; exact h3⟩
include ht hr
theorem f_slice {t : TypeId} {x : Operand} {lo hi mx : Option Operand} (ho : o.op = .slice t x lo hi mx) (h : (cop P n (.slice t x lo hi mx)).run cl T' H' r = .ok V HH) : OpF P o T H r V HH := by
  obtain ⟨hall, h1⟩ := okC_ok h
  obtain ⟨hx, hq0⟩ := ok2_ok hall
  obtain ⟨hlo, hq1⟩ := ok2_ok hq0
  obtain ⟨hhi, hmx⟩ := ok2_ok hq1
  clear hall hq0 hq1 h
  unfold sliceC at h1
  split at h1
  · rename_i hd
    split at h1
    · obtain ⟨s, e, h2⟩ := strK_ok (show strK _ _ = .ok V HH from h1)
      obtain ⟨hh, h3, e1⟩ := bndV_ok ht hhi h2
      obtain ⟨l, h4, e2⟩ := bndV_ok ht hlo h3
      exact ⟨_, H', H, hr, h4, fun callA r => by unfold opA; simp only [ho]; rw [okx_eval ht hx, e]; unfold sliceA; simp only [hd]; rw [e1, e2]⟩
    · cases h1
  · rename_i e hd
    split at h1
    · rename_i s hs
      obtain ⟨hm, h2⟩ := okC_ok h1
      rcases slcK_ok (show slcK _ _ _ = .ok V HH from h2) with ⟨l, c, e1, h3⟩ | ⟨b, off, l, c, e1, h3⟩
      · obtain ⟨hl, h4⟩ := ifK_ok h3
        obtain ⟨hc, h5⟩ := ifK_ok h4
        have := beq_eq' hl; subst this
        have := beq_eq' hc; subst this
        obtain ⟨m, h6, e2⟩ := bndV_ok ht hmx h5
        obtain ⟨hh, h7, e3⟩ := bndV_ok ht hhi h6
        obtain ⟨ll, h8, e4⟩ := bndV_ok ht hlo h7
        refine ⟨_, H', H, hr, h8, fun callA r => ?_⟩
        unfold opA; simp only [ho]; rw [okx_eval ht hx, e1]; unfold sliceA; simp only [hd, hs]
        cases mx <;> cases hi <;> simp only <;> first | (rw [e2, e3, e4]) | (exfalso; cases hm)
      · obtain ⟨m, h4, e2⟩ := bndV_ok ht hmx h3
        obtain ⟨hh, h5, e3⟩ := bndV_ok ht hhi h4
        obtain ⟨ll, h6, e4⟩ := bndV_ok ht hlo h5
        obtain ⟨hb, hor, h7⟩ := obK_ok hr h6
        obtain ⟨c0, w, el, q, hx2, h8⟩ := ownK_ok (k := fun _ el w => ifK w (mxK mx (ifK (Nat.beq e el) (stN (Nat.add off (Nat.mul ll s)) fun o => stN (Nat.sub hh ll) fun n => stN (Nat.sub m ll) fun c => r (.slice (some ⟨b, o, none⟩) n c) H') (.err 90 ll)) (.err 90 t)) (stN (clsdOff off ll s m) fun o => stN (Nat.sub hh ll) fun n => stN (Nat.sub m ll) fun c => r (.slice (some ⟨b, o, none⟩) n c) H')) hor h7 (fun _ _ _ _ => rfl) (fun _ _ _ _ => rfl)
        have key : ∃ v, r v H' = .ok V HH ∧ ∀ K : Value → Ans, (match (generalizing := false) q with
            | false => K (.slice (some ⟨b, @Bool.rec (fun _ => Nat) (Nat.add off (Nat.mul ll s)) off (Nat.beq m ll), none⟩) (Nat.sub hh ll) (Nat.sub m ll))
            | true => match (generalizing := false) mx with
              | none => @Bool.rec (fun _ => Ans) (.err 90 ll) (K (.slice (some ⟨b, Nat.add off (Nat.mul ll s), none⟩) (Nat.sub hh ll) (Nat.sub m ll))) (Nat.beq e el)
              | some _ => .err 90 t : Ans) = K v := by
          cases q with
          | false =>
            rw [ifK_false, stN_eq, stN_eq, stN_eq] at h8
            exact ⟨_, h8, fun K => rfl⟩
          | true =>
            rw [ifK_true] at h8
            cases mx with
            | some _ => cases h8
            | none =>
              obtain ⟨he, h9⟩ := ifK_ok h8
              rw [stN_eq, stN_eq, stN_eq] at h9
              exact ⟨_, h9, fun K => by simp only [he]⟩
        obtain ⟨v, h9, e5⟩ := key
        refine ⟨v, H', H, hr, h9, fun callA r => ?_⟩
        unfold opA; simp only [ho]; rw [okx_eval ht hx, e1]; unfold sliceA; simp only [hd, hs]
        have e6 := e5 (fun v => r v H)
        cases mx <;> cases hi <;> first | (exfalso; cases hm; done) | (simp only; rw [e2, e3, e4, hx2]; exact e6)
    · cases h1
  · cases h1
theorem f_fieldAddr {s : TypeId} {x : Operand} {f : Nat} (ho : o.op = .fieldAddr s x f) (h : (cop P n (.fieldAddr s x f)).run cl T' H' r = .ok V HH) : OpF P o T H r V HH := by
  obtain ⟨hx, h1⟩ := okC_ok h
  unfold fieldAddrC at h1
  split at h1
  · rename_i fd hf
    split at h1
    · rename_i q hs
      obtain ⟨b, off, e, h2⟩ := ptrK_ok (show ptrK _ _ = .ok V HH from h1)
      rw [stN_eq] at h2
      exact ⟨_, H', H, hr, h2, fun callA r => by unfold opA; simp only [ho]; rw [okx_eval ht hx, e]; simp only [hf, hs]⟩
    · cases h1
  · cases h1
theorem f_field {s : TypeId} {x : Operand} {f : Nat} (ho : o.op = .field s x f) (h : (cop P n (.field s x f)).run cl T' H' r = .ok V HH) : OpF P o T H r V HH := by
  obtain ⟨hx, h1⟩ := okC_ok h
  unfold fieldC at h1
  split at h1
  · rename_i fd hf
    split at h1
    · rename_i q ha hs
      obtain ⟨cs, e, h2⟩ := aggK_ok (show aggK _ _ = .ok V HH from h1)
      refine ⟨_, H', H, hr, h2, fun callA r => ?_⟩
      unfold opA; simp only [ho]; rw [okx_eval ht hx, e]; simp only [hf]; unfold partA; simp only [ha, hs]
      rw [takeL_eq, dropL_eq, takeR_eq, dropR_eq]
    · rename_i q ha hs
      obtain ⟨cs, e, h2⟩ := aggK_ok (show aggK _ _ = .ok V HH from h1)
      obtain ⟨v, hv, h3⟩ := nthR_ok h2
      refine ⟨_, H', H, hr, h3, fun callA r => ?_⟩
      unfold opA; simp only [ho]; rw [okx_eval ht hx, e]; simp only [hf]; unfold partA; simp only [ha, hs]
      rw [nthL_eq, hv]
    · cases h1
  · cases h1
theorem f_indexAddr {t : TypeId} {x i : Operand} (ho : o.op = .indexAddr t x i) (h : (cop P n (.indexAddr t x i)).run cl T' H' r = .ok V HH) : OpF P o T H r V HH := by
  obtain ⟨hx, h1⟩ := okC_ok h
  obtain ⟨hx, hi⟩ := ok2_ok hx
  unfold idxC at h1
  split at h1
  · rename_i e hd
    split at h1
    · rename_i s hs
      obtain ⟨kk, m, e1, h2⟩ := intK_ok (show intK _ _ = .ok V HH from h1)
      obtain ⟨q, rfl, h3⟩ := natK_ok h2
      rcases slcK_ok h3 with ⟨l, c, _, h4⟩ | ⟨b, off, l, c, e2, h4⟩
      · cases h4
      · obtain ⟨hlt, h5⟩ := ifK_ok h4
        rw [stN_eq] at h5
        exact ⟨_, H', H, hr, h5, fun callA r => by unfold opA; simp only [ho]; rw [okx_eval ht hx, okx_eval ht hi, e1, e2]; unfold idxA; simp only [hd, hs, hlt]⟩
    · cases h1
  · rename_i m e hd
    split at h1
    · rename_i s hs
      obtain ⟨kk, m, e1, h2⟩ := intK_ok (show intK _ _ = .ok V HH from h1)
      obtain ⟨q, rfl, h3⟩ := natK_ok h2
      obtain ⟨b, off, e2, h4⟩ := ptrK_ok h3
      obtain ⟨hlt, h5⟩ := ifK_ok h4
      rw [stN_eq] at h5
      exact ⟨_, H', H, hr, h5, fun callA r => by unfold opA; simp only [ho]; rw [okx_eval ht hx, okx_eval ht hi, e1, e2]; unfold idxA; simp only [hd, hs, hlt]⟩
    · cases h1
  · cases h1
theorem nthBK_ok {m : Nat} : ∀ {l : List UInt8} {k : UInt8 → Ans}, nthBK m l k = .ok V HH → ∃ b l', dropB m l = b :: l' ∧ k b = .ok V HH := by
  induction m with
  | zero => intro l k h; cases l with
    | nil => cases h
    | cons v l => exact ⟨v, l, rfl, h⟩
  | succ m ih => intro l k h; cases l with
    | nil => cases h
    | cons v l => obtain ⟨b, l', h1, h2⟩ := ih (l := l) h; exact ⟨b, l', h1, h2⟩
theorem f_index {t : TypeId} {x i : Operand} (ho : o.op = .index t x i) (h : (cop P n (.index t x i)).run cl T' H' r = .ok V HH) : OpF P o T H r V HH := by
  obtain ⟨hx, h1⟩ := okC_ok h
  obtain ⟨hx, hi⟩ := ok2_ok hx
  unfold indexC at h1
  split at h1
  · rename_i hd
    obtain ⟨kk, m, e1, h2⟩ := intK_ok (show intK _ _ = .ok V HH from h1)
    obtain ⟨q, rfl, h3⟩ := natK_ok h2
    obtain ⟨s, e2, h4⟩ := strK_ok h3
    obtain ⟨b, l', e3, h5⟩ := nthBK_ok ht hr h4
    rw [stN_eq] at h5
    exact ⟨_, H', H, hr, h5, fun callA r => by unfold opA; simp only [ho]; rw [okx_eval ht hx, okx_eval ht hi, e1, e2]; unfold indexA; simp only [hd, e3]⟩
  · rename_i m e hd
    split at h1
    · rename_i s hs
      obtain ⟨kk, m, e1, h2⟩ := intK_ok (show intK _ _ = .ok V HH from h1)
      obtain ⟨q, rfl, h3⟩ := natK_ok h2
      obtain ⟨cs, e2, h4⟩ := aggK_ok h3
      obtain ⟨hlt, h5⟩ := ifK_ok h4
      obtain ⟨v, h6, h7⟩ := partA_uni h5
      exact ⟨v, H', H, hr, h6, fun callA r => by unfold opA; simp only [ho]; rw [okx_eval ht hx, okx_eval ht hi, e1, e2]; unfold indexA; simp only [hd, hs, hlt]; exact h7 _⟩
    · cases h1
  · cases h1
theorem f_typeAssert {x : Operand} {t u : TypeId} {ok : Bool} (ho : o.op = .typeAssert x t u ok) (h : (cop P n (.typeAssert x t u ok)).run cl T' H' r = .ok V HH) : OpF P o T H r V HH := by
  obtain ⟨hx, h1⟩ := okC_ok h
  obtain ⟨v, h2, h3⟩ := assert_uni (r := fun v => r v H') (show assertA P u ok _ H0 (fun v _ => r v H') = .ok V HH from h1)
  exact ⟨v, H', H, hr, h2, fun callA r => by unfold opA; simp only [ho]; rw [okx_eval ht hx]; exact h3 _ _⟩
theorem f_extract {x : Operand} {i : Nat} (ho : o.op = .extract x i) (h : (cop P n (.extract x i)).run cl T' H' r = .ok V HH) : OpF P o T H r V HH := by
  obtain ⟨hx, h1⟩ := okC_ok h
  obtain ⟨cs, e, h2⟩ := tupK_ok (show tupK _ _ = .ok V HH from h1)
  obtain ⟨v, hv, h3⟩ := nthR_ok h2
  exact ⟨v, H', H, hr, h3, fun callA r => by unfold opA; simp only [ho]; rw [okx_eval ht hx, e]; simp only; rw [nthL_eq, hv]⟩
theorem map_at {b : Nat} {k : List MapEntry → Nat → Ans} (h : (obK H' b fun ob => othK ob fun o => esK o k) = .ok V HH) : ∃ es c, H.t.get b = some (.map es c) ∧ b < H'.n ∧ k es c = .ok V HH := by
  obtain ⟨hb, hor, h1⟩ := obK_ok hr h
  obtain ⟨o, e, h2⟩ := othK_ok h1
  rw [e] at hor
  obtain ⟨es, c, e2, h3⟩ := esK_ok h2
  have hx : H.t.get b = some o := hor.1
  exact ⟨es, c, by rw [hx, e2], hb, h3⟩
theorem f_makeMap {t : TypeId} {rs : Option Operand} (ho : o.op = .makeMap t rs) (h : (cop P n (.makeMap t rs)).run cl T' H' r = .ok V HH) : OpF P o T H r V HH := by
  cases rs with
  | some x => cases h
  | none =>
    obtain ⟨H1', k1, h1⟩ := newF_ok (ob := .oth (.map [] 0)) (o := .map [] 0) hr ⟨rfl, rfl⟩ (show newF H' (.oth (.map [] 0)) _ = .ok V HH from h)
    exact ⟨_, H1', _, k1, h1, fun callA r => by unfold opA; simp only [ho]; rfl⟩
theorem f_lookup {t : TypeId} {m k : Operand} {ok : Bool} (ho : o.op = .lookup t m k ok) (h : (cop P n (.lookup t m k ok)).run cl T' H' r = .ok V HH) : OpF P o T H r V HH := by
  obtain ⟨hx, h⟩ := okC_ok h
  obtain ⟨hm, hk⟩ := ok2_ok hx
  unfold lookupC at h
  split at h
  · rename_i kt et ht'
    split at h
    · rename_i d hd
      split at h
      · rename_i z hz
        obtain ⟨hc, h⟩ := okC_ok h
        obtain ⟨hko, h⟩ := ifK_ok (show ifK (keyOk d ((cgx k).g T')) _ _ = .ok V HH from h)
        rcases mapK_ok h with ⟨e, h1⟩ | ⟨b, e, h1⟩
        · exact ⟨_, H', H, hr, h1, fun callA r => by unfold opA; simp only [ho]; rw [okx_eval ht hm, okx_eval ht hk, e]; unfold lookupA; simp only [ht', hd, hz, hc, hko]⟩
        · obtain ⟨es, c, hg, hb, h2⟩ := map_at ht hr h1
          obtain ⟨R, h3, h4⟩ := findA_uni h2
          cases R with
          | none => exact ⟨_, H', H, hr, h3, fun callA r => by unfold opA; simp only [ho]; rw [okx_eval ht hm, okx_eval ht hk, e]; unfold lookupA; simp only [ht', hd, hz, hc, hko, hg]; rw [h4]⟩
          | some p => exact ⟨_, H', H, hr, h3, fun callA r => by unfold opA; simp only [ho]; rw [okx_eval ht hm, okx_eval ht hk, e]; unfold lookupA; simp only [ht', hd, hz, hc, hko, hg]; rw [h4]⟩
      · cases h
    · cases h
  · cases h
theorem update_at {t : TypeId} {m k x : Operand} (hm : okx n m = true) (hk : okx n k = true) (hx : okx n x = true) (h : (updateC P t (cgx m) (cgx k) (cgx x)).run cl T' H' r = .ok V HH) :
    ∃ H1' H1, RH H1' H1 ∧ r undef H1' = .ok V HH ∧ ∀ K : Hp → Ans, updateA P H t ((cgx m).g T') ((cgx k).g T') ((cgx x).g T') K = K H1 := by
  unfold updateC at h
  split at h
  · rename_i kt et ht'
    split at h
    · rename_i d hd
      obtain ⟨hko, h⟩ := ifK_ok (show ifK (keyOk d ((cgx k).g T')) _ _ = .ok V HH from h)
      rcases mapK_ok h with ⟨e, h1⟩ | ⟨b, e, h1⟩
      · cases h1
      · obtain ⟨es, c, hg, hb, h2⟩ := map_at ht hr h1
        obtain ⟨R, h3, h4⟩ := findA_uni h2
        cases R with
        | none =>
          obtain ⟨H1', k1, h5⟩ := backF_ok (ob := .oth (.map (es ++ [⟨(cgx k).g T', (cgx x).g T', c⟩]) (Nat.succ c))) (o := .map (es ++ [⟨(cgx k).g T', (cgx x).g T', c⟩]) (Nat.succ c)) hr hb ⟨rfl, rfl⟩ h3
          exact ⟨H1', _, k1, h5, fun K => by rw [e]; unfold updateA; simp only [ht', hd, hko, hg]; rw [h4]⟩
        | some p =>
          obtain ⟨H1', k1, h5⟩ := backF_ok (ob := .oth (.map (es.modify p.1 fun e => ⟨(cgx k).g T', (cgx x).g T', e.born⟩) c)) (o := .map (es.modify p.1 fun e => ⟨(cgx k).g T', (cgx x).g T', e.born⟩) c) hr hb ⟨rfl, rfl⟩ h3
          exact ⟨H1', _, k1, h5, fun K => by rw [e]; unfold updateA; simp only [ht', hd, hko, hg]; rw [h4]⟩
    · cases h
  · cases h
theorem f_mapUpdate {t : TypeId} {m k x : Operand} (ho : o.op = .mapUpdate t m k x) (h : (cop P n (.mapUpdate t m k x)).run cl T' H' r = .ok V HH) : OpF P o T H r V HH := by
  obtain ⟨hx, h⟩ := okC_ok h
  obtain ⟨hm, hx⟩ := ok2_ok hx
  obtain ⟨hk, hx⟩ := ok2_ok hx
  obtain ⟨H1', H1, k1, h1, h2⟩ := update_at ht hr hm hk hx h
  exact ⟨undef, H1', H1, k1, h1, fun callA r => by unfold opA; simp only [ho]; rw [okx_eval ht hm, okx_eval ht hk, okx_eval ht hx]; exact h2 _⟩
theorem f_insert {t : TypeId} {m k x : Operand} (ho : o.op = .insert t m k x) (h : (cop P n (.insert t m k x)).run cl T' H' r = .ok V HH) : OpF P o T H r V HH := by
  obtain ⟨hx, h⟩ := okC_ok h
  obtain ⟨hm, hx⟩ := ok2_ok hx
  obtain ⟨hk, hx⟩ := ok2_ok hx
  obtain ⟨H1', H1, k1, h1, h2⟩ := update_at ht hr hm hk hx h
  exact ⟨undef, H1', H1, k1, h1, fun callA r => by unfold opA; simp only [ho]; rw [okx_eval ht hm, okx_eval ht hk, okx_eval ht hx]; exact h2 _⟩
def BltE (P : Program) (b : Builtin) (ts : Array TypeId) (l : List Value) (H : Hp) (v : Value) (H1 : Hp) : Prop := ∀ r, bltA P b ts l H r = r v H1
def BltF (P : Program) (b : Builtin) (ts : Array TypeId) (l : List Value) (H : Hp) (r : Value → FH → Ans) (V : Value) (HH : Hp) : Prop := ∃ v H1' H1, RH H1' H1 ∧ r v H1' = .ok V HH ∧ BltE P b ts l H v H1
theorem ts_head {ts : Array TypeId} {t : TypeId} {l : List TypeId} (h : ts.toList = t :: l) : ts[0]? = some t := by
  rw [← Array.getElem?_toList, h]; rfl
theorem b_len {ts : Array TypeId} {t : TypeId} {tl : List TypeId} {x : Operand} (h0 : ts.toList = t :: tl) (h : (lenC P t (cgx x)).run cl T' H' r = .ok V HH) : BltF P .len ts [(cgx x).g T'] H r V HH := by
  have e0 := ts_head ht hr h0
  unfold lenC at h
  split at h
  · rename_i hd
    obtain ⟨s, e, h1⟩ := strK_ok (show strK _ _ = .ok V HH from h)
    rw [stN_eq] at h1
    exact ⟨_, H', H, hr, h1, fun r => by unfold bltA; simp only [e0]; unfold lenA; simp only [hd, e]⟩
  · rename_i hd
    rcases slcK_ok (show slcK _ _ _ = .ok V HH from h) with ⟨l, c, e, h1⟩ | ⟨b, off, l, c, e, h1⟩
    · exact ⟨_, H', H, hr, h1, fun r => by unfold bltA; simp only [e0]; unfold lenA; simp only [hd, e]⟩
    · exact ⟨_, H', H, hr, h1, fun r => by unfold bltA; simp only [e0]; unfold lenA; simp only [hd, e]⟩
  · rename_i m e hd
    exact ⟨_, H', H, hr, h, fun r => by unfold bltA; simp only [e0]; unfold lenA; simp only [hd]⟩
  · rename_i kt et hd
    rcases mapK_ok (show mapK _ _ _ = .ok V HH from h) with ⟨e, h1⟩ | ⟨b, e, h1⟩
    · exact ⟨_, H', H, hr, h1, fun r => by unfold bltA; simp only [e0]; unfold lenA; simp only [hd, e]⟩
    · obtain ⟨es, c, hg, hb, h2⟩ := map_at ht hr h1
      exact ⟨_, H', H, hr, h2, fun r => by unfold bltA; simp only [e0]; unfold lenA; simp only [hd, e, hg]⟩
  · cases h
theorem srcF_ok {s : Nat} {q : Bool} {x : Value} {k : Nat → List Value → Ans} (h : srcF H' s q x k = .ok V HH) : ∃ m l, k m l = .ok V HH ∧ (∀ K, srcA H s x K = K m l) ∧ (q = false → ∀ b, x ≠ .string b) := by
  cases q with
  | true =>
    obtain ⟨b, e, h1⟩ := strK_ok (show strK _ _ = .ok V HH from h)
    obtain ⟨hs, h2⟩ := ifK_ok h1
    exact ⟨_, _, h2, fun K => by rw [e]; unfold srcA; simp only [hs], fun h => by cases h⟩
  | false =>
    rcases slcK_ok (show slcK _ _ _ = .ok V HH from h) with ⟨l, c, e, h1⟩ | ⟨b, off, l, c, e, h1⟩
    · exact ⟨_, _, h1, fun K => by rw [e]; rfl, fun _ b hb => by rw [e] at hb; cases hb⟩
    · obtain ⟨hb, hor, h2⟩ := obK_ok hr h1
      obtain ⟨cs, c0, m, e2, w, hx2, hle, hl, hg, h3⟩ := rdF_ok hor h2
      obtain ⟨hall, h4⟩ := ifK_ok h3
      rw [allF_eq] at hall
      have hble : Nat.ble (Nat.add off (Nat.mul l s)) m = true := Nat.ble_eq_true_of_le hle
      refine ⟨_, _, h4, fun K => ?_, fun _ b hb => by rw [e] at hb; cases hb⟩
      rw [e]; unfold srcA; simp only [hx2, hble]
      rw [rdA_eq hl hg]; simp only [hall]
theorem growF_ok {e : TypeId} {m : Nat} {l : List Value} (h : growF H' e m l r = .ok V HH) : ∃ v H1' H1, RH H1' H1 ∧ r v H1' = .ok V HH ∧ ∀ K, growA H e m l K = K v H1 := by
  obtain ⟨H1', H1, k1, h1, h2⟩ := rowF_ok hr (show rowF H' l e true _ = .ok V HH from h)
  exact ⟨_, H1', H1, k1, h1, fun K => h2 _⟩
theorem stealF_ok {b m : Nat} {ob : Ob} {ao : AObj} (hb : b < H'.n) (hor : OR ob (some ao)) (h : stealF H' b ob m r = .ok V HH) : ∃ v H1' H1, RH H1' H1 ∧ r v H1' = .ok V HH ∧ ∀ K, stealA H b ao m K = K v H1 := by
  obtain ⟨H2', k1, h1⟩ := backF_ok (ob := .dead) (o := .dead) hr hb trivial (show backF H' b (fun H => newF H ob fun b H => r (.slice (some ⟨b, 0, none⟩) m m) H) .dead = .ok V HH from h)
  obtain ⟨H3', k2, h2⟩ := newF_ok k1 hor h1
  exact ⟨_, H3', _, k2, h2, fun K => rfl⟩
theorem extF_ok {e : TypeId} {w : Nat} {ob : Ob} {x : Option AObj} {c0 : Tr Value} {m : Nat} {e0 : TypeId} {w0 : Bool} (hor : OR ob x) (hx : x = some (.cells c0 m e0 w0)) (hw : w = m) {xs : List Value} {k : Ob → Ans} (h : extF e w ob xs k = .ok V HH) :
    ∃ ob', k ob' = .ok V HH ∧ OR ob' (some (.cells (ofL xs w c0) (Nat.add w (len xs)) e true)) := by
  subst hw
  rcases cellsK_ok (show cellsK ob _ _ = .ok V HH from h) with ⟨c, q, e1, w1, rfl, h1⟩ | ⟨c, q, e1, w1, rfl, h1⟩
  · obtain ⟨hq, c1, hx1, hg⟩ := hor
    rw [hx] at hx1
    simp only [Option.some.injEq, AObj.cells.injEq] at hx1
    obtain ⟨rfl, rfl, rfl, rfl⟩ := hx1
    obtain ⟨ob', h2, ho⟩ := mkOb_ok h1
    have hrl : (rd1 c w 0).length = w := by simp [rd1, takeR_eq, dropR_eq, toL1_len]; omega
    have hlen : len (appL (rd1 c w 0) xs) = w + xs.length := by rw [len_eq, appL_eq]; simp [hrl]
    have hfull : ∀ i, i < w → (c0.get i).isSome = true := fun i hi => by rw [hg i hi]; rfl
    have eq : ∀ i, i < w + xs.length → (ofL xs w c0).get i = (ofL (appL (rd1 c w 0) xs) 0 .nil).get i := by
      intro i hi
      have hf := ofL_full xs w c0 hfull i
      rw [ofL_nil_full _ (by rw [← len_eq, hlen]; exact hi), appL_eq]
      by_cases hiw : i < w
      · rw [hf.1 hiw, List.getElem?_append_left (by omega), hg i hiw]
        simp only [rd1, takeR_eq, dropR_eq, List.drop_zero]
        rw [List.getElem?_take_of_lt hiw, toL1_get c (by omega)]
      · rw [hf.2 (by omega) hi, List.getElem?_append_right (by omega), hrl]
    refine ⟨ob', h2, ?_⟩
    have e3 : Nat.add w (len xs) = len (appL (rd1 c w 0) xs) := by rw [hlen, len_eq]; rfl
    rw [e3]
    have hco : ∀ i, i < len (appL (rd1 c w 0) xs) → (ofL xs w c0).get i = (ofL (appL (rd1 c w 0) xs) 0 .nil).get i := fun i hi => eq i (by rw [← hlen]; exact hi)
    cases ob' with
    | dead => trivial
    | oth o => obtain ⟨q1, q2⟩ := ho; cases q1; cases q2
    | small c' n' e' w' =>
      obtain ⟨a1, c2, a2, a3⟩ := ho
      simp only [Option.some.injEq, AObj.cells.injEq] at a2
      obtain ⟨rfl, rfl, rfl, rfl⟩ := a2
      exact ⟨a1, _, rfl, fun i hi => by rw [hco i hi]; exact a3 i hi⟩
    | big c' n' e' w' =>
      obtain ⟨a1, c2, a2, a3⟩ := ho
      simp only [Option.some.injEq, AObj.cells.injEq] at a2
      obtain ⟨rfl, rfl, rfl, rfl⟩ := a2
      exact ⟨a1, _, rfl, fun i hi => by rw [hco i hi]; exact a3 i hi⟩
  · obtain ⟨hq, c1, hx1, hg⟩ := hor
    rw [hx] at hx1
    simp only [Option.some.injEq, AObj.cells.injEq] at hx1
    obtain ⟨rfl, rfl, rfl, rfl⟩ := hx1
    rw [stN_eq] at h1
    obtain ⟨hle, h2⟩ := ifK_ok h1
    have hle : w + len xs ≤ 32768 := ble_le hle
    rw [len_eq] at hle
    obtain ⟨c', h3, h4⟩ := put5L_new xs hle hg h2
    refine ⟨_, h3, ?_⟩
    have e3 : Nat.add w (len xs) = w + xs.length := by rw [len_eq]; rfl
    rw [e3]
    exact ⟨hle, _, rfl, h4⟩
theorem appendF_ok {e : TypeId} {i : TypeInfo} {s : Value} {m : Nat} {xs : List Value} (h : appendF e i.size i.bytes H' s m xs r = .ok V HH) : ∃ v H1' H1, RH H1' H1 ∧ r v H1' = .ok V HH ∧ ∀ K, appendTo H e i s m xs K = K v H1 := by
  rcases slcK_ok (show slcK s _ _ = .ok V HH from h) with ⟨l, c, rfl, h1⟩ | ⟨b, off, l, c, rfl, h1⟩
  · obtain ⟨hl, h2⟩ := ifK_ok h1
    obtain ⟨hc, h3⟩ := ifK_ok h2
    have := beq_eq' hl; subst this
    have := beq_eq' hc; subst this
    cases m with
    | zero => exact ⟨_, H', H, hr, h3, fun K => rfl⟩
    | succ m =>
      obtain ⟨hle, h4⟩ := ifK_ok (show ifK (Nat.ble (Nat.mul (m + 1) i.bytes) 1099511627776) _ _ = .ok V HH from h3)
      obtain ⟨v, H1', H1, k1, h5, h6⟩ := growF_ok ht hr h4
      refine ⟨v, H1', H1, k1, h5, fun K => ?_⟩
      rw [← h6 K]
      unfold appendTo
      simp only
      show @Bool.rec (fun _ => Ans) (.err 127 (m + 1)) (growA H e (m + 1) xs K) (Nat.ble (Nat.mul (m + 1) i.bytes) 1099511627776) = _
      rw [hle]
  · cases hfit : Nat.ble (Nat.add l m) c with
    | true =>
      rw [hfit, ifK_true] at h1
      cases m with
      | zero => exact ⟨_, H', H, hr, h1, fun K => by unfold appendTo; simp only [hfit]; rfl⟩
      | succ m =>
        have h2 : storeLF H' b (Nat.add off (Nat.mul l i.size)) xs (fun H => stN (Nat.add l (m + 1)) fun m => r (.slice (some ⟨b, off, none⟩) m c) H) = .ok V HH := h1
        obtain ⟨H1', H1, k1, h3, h4⟩ := storeLF_ok hr h2
        rw [stN_eq] at h3
        exact ⟨_, H1', H1, k1, h3, fun K => by unfold appendTo; simp only [hfit]; exact h4 _⟩
    | false =>
      rw [hfit, ifK_false] at h1
      obtain ⟨hsz, h2⟩ := ifK_ok h1
      obtain ⟨hb, hor, h3⟩ := obK_ok hr h2
      obtain ⟨c0, w, e', q, hx, h4⟩ := ownK_ok (k := fun w e' opn => ifK (Nat.ble (Nat.add off (Nat.mul l i.size)) w)
        (ifK opn (ifK (Nat.beq e e') (ifK (ok2 (Nat.beq off 0) (Nat.beq (Nat.mul l i.size) w))
              (stN (Nat.mul l i.size) fun w => stN (Nat.add l m) fun q => extF e w ((l6 b).g H'.t) xs fun ob => stealF H' b ob q r)
              (rdF ((l6 b).g H'.t) (Nat.mul l i.size) off fun old => ifK (allL isOneF (appL old xs)) (stN (Nat.add l m) fun q => mkOb (appL old xs) e true fun ob => stealF H' b ob q r) (.err 133 off))) (.err 132 off))
          (rdF ((l6 b).g H'.t) (Nat.mul l i.size) off fun old => stN (Nat.add l m) fun q => growF H' e q (appL old xs) r)) (.err 131 off)) hor h3 (fun _ _ _ _ => rfl) (fun _ _ _ _ => rfl)
      obtain ⟨hlw, h5⟩ := ifK_ok h4
      -- what the first one does
      have shape : ∀ K, appendTo H e i (.slice (some ⟨b, off, none⟩) l c) m xs K = (match q with
          | false => rdA c0 (Nat.mul l i.size) off fun old => growA H e (Nat.add l m) (appL old xs) K
          | true => @Bool.rec (fun _ => Ans) (.err 132 off) (@Bool.rec (fun _ => Ans)
              (rdA c0 (Nat.mul l i.size) off fun old => @Bool.rec (fun _ => Ans) (.err 133 off) (stealA H b (.cells (ofL (appL old xs) 0 .nil) (len (appL old xs)) e true) (Nat.add l m) K) (allL isOne (appL old xs)))
              (stealA H b (.cells (ofL xs (Nat.mul l i.size) c0) (Nat.add (Nat.mul l i.size) (len xs)) e true) (Nat.add l m) K)
              (@Bool.rec (fun _ => Bool) false (Nat.beq (Nat.mul l i.size) w) (Nat.beq off 0))) (Nat.beq e e') : Ans) := fun K => by
        unfold appendTo
        simp only [hfit, hsz, hx, hlw]
        first | done | rfl | (cases q <;> rfl)
      cases q with
      | false =>
        rw [ifK_false] at h5
        obtain ⟨old, c1, m1, e1, w1, hx1, hle, hl, hg, h6⟩ := rdF_ok hor h5
        rw [hx] at hx1
        simp only [Option.some.injEq, AObj.cells.injEq] at hx1
        obtain ⟨rfl, rfl, rfl, rfl⟩ := hx1
        rw [stN_eq] at h6
        obtain ⟨v, H1', H1, k1, h7, h8⟩ := growF_ok ht hr h6
        refine ⟨v, H1', H1, k1, h7, fun K => ?_⟩
        rw [shape]
        simp only
        rw [rdA_eq hl hg]
        exact h8 K
      | true =>
        rw [ifK_true] at h5
        obtain ⟨hee, h6⟩ := ifK_ok h5
        cases hown : ok2 (Nat.beq off 0) (Nat.beq (Nat.mul l i.size) w) with
        | true =>
          rw [hown, ifK_true, stN_eq, stN_eq] at h6
          obtain ⟨ho1, ho2⟩ := ok2_ok hown
          obtain ⟨ob', h7, hor'⟩ := extF_ok ht hr hor hx (beq_eq' ho2) h6
          obtain ⟨v, H1', H1, k1, h8, h9⟩ := stealF_ok ht hr hb hor' h7
          refine ⟨v, H1', H1, k1, h8, fun K => ?_⟩
          rw [shape]
          simp only [hee, ho1, ho2]
          exact h9 K
        | false =>
          rw [hown, ifK_false] at h6
          obtain ⟨old, c1, m1, e1, w1, hx1, hle, hl, hg, h7⟩ := rdF_ok hor h6
          rw [hx] at hx1
          simp only [Option.some.injEq, AObj.cells.injEq] at hx1
          obtain ⟨rfl, rfl, rfl, rfl⟩ := hx1
          obtain ⟨hall, h8⟩ := ifK_ok h7
          rw [allF_eq] at hall
          rw [stN_eq] at h8
          obtain ⟨ob', h9, hor'⟩ := mkOb_ok h8
          obtain ⟨v, H1', H1, k1, h10, h11⟩ := stealF_ok ht hr hb hor' h9
          refine ⟨v, H1', H1, k1, h10, fun K => ?_⟩
          have hown' : @Bool.rec (fun _ => Bool) false (Nat.beq (Nat.mul l i.size) w) (Nat.beq off 0) = false := by
            cases ha : Nat.beq off 0 with
            | false => rfl
            | true => rw [ha] at hown; exact hown
          rw [shape]
          simp only [hee, hown']
          rw [rdA_eq hl hg]
          simp only [hall]
          exact h11 K
theorem b_append {ts : Array TypeId} {t tx : TypeId} {s x : Operand} (h0 : ts.toList = [t, tx]) (h : (appC P t tx (cgx s) (cgx x)).run cl T' H' r = .ok V HH) : BltF P .append ts [(cgx s).g T', (cgx x).g T'] H r V HH := by
  unfold appC at h
  split at h
  · rename_i e hd
    split at h
    · rename_i i hi
      split at h
      · rename_i z q hz hq
        obtain ⟨hc, h1⟩ := okC_ok h
        obtain ⟨hc, hb⟩ := ok2_ok hc
        obtain ⟨hsz, hlen⟩ := ok2_ok hc
        obtain ⟨m, l, h2, h3, _⟩ := srcF_ok ht hr (show srcF H' i.size q ((cgx x).g T') (fun n xs => appendF e i.size i.bytes H' ((cgx s).g T') n xs r) = .ok V HH from h1)
        obtain ⟨v, H1', H1, k1, h4, h5⟩ := appendF_ok ht hr h2
        have hsk : srcKind P tx = true := by
          unfold srcStr at hq
          unfold srcKind
          split at hq
          · rename_i hh; simp only [hh]
          · rename_i hh; simp only [hh]
          · cases hq
        refine ⟨v, H1', H1, k1, h4, fun K => ?_⟩
        unfold bltA; simp only; unfold appendA; simp only [h0, hd, hi, hz, hsz, hlen, hsk, hb]
        rw [h3]; exact h5 K
      · cases h
    · cases h
  · cases h
theorem b_copy {ts : Array TypeId} {t : TypeId} {tl : List TypeId} {d x : Operand} (h0 : ts.toList = t :: tl) (h : (copyC P t (cgx d) (cgx x)).run cl T' H' r = .ok V HH) : BltF P .copy ts [(cgx d).g T', (cgx x).g T'] H r V HH := by
  have e0 := ts_head ht hr h0
  unfold copyC at h
  split at h
  · rename_i e hd
    split at h
    · rename_i s hs
      obtain ⟨m, l, h2, h3, hns⟩ := srcF_ok ht hr (show srcF H' s false ((cgx x).g T') (fun n xs => slcK ((cgx d).g T') (fun n c => ifK (Nat.beq n 0) (ifK (Nat.beq c 0) (r (.int .i64 0) H') (.err 141 0)) (.err 141 0)) fun b o m _ => stN (lowr n m) fun q => ifK (Nat.beq q 0) (r (.int .i64 0) H') (storeLF H' b o (takeR (Nat.mul q s) xs) fun H => r (.int .i64 (.ofNat q)) H)) = .ok V HH from h)
      have hns := hns rfl
      generalize hxv : (cgx x).g T' = xv at h3 hns
      rcases slcK_ok h2 with ⟨a, c, e1, h4⟩ | ⟨b, off, a, c, e1, h4⟩
      · obtain ⟨hl, h5⟩ := ifK_ok h4
        obtain ⟨hc, h6⟩ := ifK_ok h5
        have := beq_eq' hl; subst this
        have := beq_eq' hc; subst this
        refine ⟨_, H', H, hr, h6, fun K => ?_⟩
        rw [e1]
        unfold bltA; simp only; unfold copyA; simp only [e0, hd, hs]
        cases xv <;> first | exact absurd rfl (hns _) | (show srcA H s _ _ = _; rw [h3])
      · rw [stN_eq] at h4
        cases hq : lowr m a with
        | zero =>
          rw [hq] at h4
          refine ⟨_, H', H, hr, h4, fun K => ?_⟩
          rw [e1]
          unfold bltA; simp only; unfold copyA; simp only [e0, hd, hs]
          cases xv <;> first | exact absurd rfl (hns _) | (show srcA H s _ _ = _; rw [h3]; simp only [hq]; rfl)
        | succ q =>
          rw [hq] at h4
          have h5 : storeLF H' b off (takeR (Nat.mul (q + 1) s) l) (fun H => r (.int .i64 (.ofNat (q + 1))) H) = .ok V HH := h4
          obtain ⟨H1', H1, k1, h6, h7⟩ := storeLF_ok hr h5
          refine ⟨_, H1', H1, k1, h6, fun K => ?_⟩
          rw [takeR_eq] at h7
          rw [e1]
          unfold bltA; simp only; unfold copyA; simp only [e0, hd, hs]
          cases xv <;> first | exact absurd rfl (hns _) | (show srcA H s _ _ = _; rw [h3]; simp only [hq]; rw [takeL_eq]; exact h7 _)
    · cases h
  · cases h
theorem b_mm {q : Bool} {b : Builtin} {ts : Array TypeId} {l : List Operand} (hb : b = (if q then Builtin.max else Builtin.min)) (h : (mmC q (cgl l)).run cl T' H' r = .ok V HH) : BltF P b ts ((cgl l).g T') H r V HH := by
  have h' : @List.rec Value (fun _ => Ans) (.err 229 1) (fun x l _ => foldMM q l x fun v => r v H') ((cgl l).g T') = .ok V HH := h
  cases hl : (cgl l).g T' with
  | nil => rw [hl] at h'; cases h'
  | cons x xs =>
    rw [hl] at h'
    obtain ⟨v, h1, h2⟩ := foldMM_uni (show foldMM q xs x (fun v => r v H') = .ok V HH from h')
    refine ⟨v, H', H, hr, h1, fun K => ?_⟩
    cases q with
    | true => subst hb; unfold bltA; simp only [if_true]; exact h2 _
    | false => subst hb; unfold bltA; simp only [Bool.false_eq_true, if_false]; exact h2 _
theorem bltC_ok {b : Builtin} {ts : Array TypeId} {args : List Operand} (h : (bltC P n b ts.toList args).run cl T' H' r = .ok V HH) : BltF P b ts ((cgl args).g T') H r V HH := by
  unfold bltC at h
  split at h
  · rename_i h0; exact b_len ht hr h0 h
  · rename_i h0; exact b_append ht hr h0 h
  · rename_i h0; exact b_copy ht hr h0 h
  · exact b_mm ht hr (q := true) rfl h
  · exact b_mm ht hr (q := false) rfl h
  · cases h
end
end
end Go.Abs
set_option linter.unusedVariables false
set_option linter.unusedSimpArgs false
namespace Go.Abs
open Go.RowKit
variable [TokEnv]
section
variable {P : Program} {hk : FuncId → List Value → Option Value} {V : Value} {HH : Hp}
def CallF.Ok (P : Program) (hk : FuncId → List Value → Option Value) (cl : CallF) : Prop := ∀ (f : FuncId) (args : List Value) (H' : FH) (H : Hp) (r : Value → FH → Ans) (V : Value) (HH : Hp), cl f args H' r = .ok V HH → RH H' H →
  ∃ v H1' H1 N, RH H1' H1 ∧ r v H1' = .ok V HH ∧ ∀ m, N ≤ m → ∀ K, hookA hk (enterA P (exec P hk m)) f args H K = K v H1
def OpN (P : Program) (hk : FuncId → List Value → Option Value) (o : Oper) (T : Tr Value) (H : Hp) (N : Nat) (v : Value) (H1 : Hp) : Prop := ∀ m, N ≤ m → ∀ r, opA P (hookA hk (enterA P (exec P hk m))) o T H r = r v H1
theorem f_call {n : Nat} {T' : V3} {T : Tr Value} {H' : FH} {H : Hp} {o : Oper} {r : Value → FH → Ans} {cl : CallF} (hcl : CallF.Ok P hk cl) (ht : RT n T' T) (hr : RH H' H) {c : Call} (ho : o.op = .call c) (h : (cop P n (.call c)).run cl T' H' r = .ok V HH) :
    ∃ v H1' H1 N, RH H1' H1 ∧ r v H1' = .ok V HH ∧ OpN P hk o T H N v H1 := by
  obtain ⟨hargs, h1⟩ := okC_ok (show (okC _ _).run cl T' H' r = .ok V HH from h)
  split at h1
  · rename_i b hc
    obtain ⟨v, H1', H1, k1, h2, h3⟩ := bltC_ok ht hr h1
    refine ⟨v, H1', H1, 0, k1, h2, fun m _ K => ?_⟩
    unfold opA; simp only [ho, hc]
    rw [okl_eval ht hargs]; exact h3 K
  · rename_i f hc
    split at h1
    · rename_i f
      obtain ⟨v, H1', H1, N, k1, h2, h3⟩ := hcl _ _ _ _ _ _ _ (show cl f _ H' r = .ok V HH from h1) hr
      refine ⟨v, H1', H1, N, k1, h2, fun m hm K => ?_⟩
      unfold opA; simp only [ho, hc]
      show (evalsA T c.args.toList fun l => hookA hk (enterA P (exec P hk m)) f (appL ((#[] : Array Value).toList) (appL l ((#[] : Array Value).toList))) H K) = _
      rw [okl_eval ht hargs]
      have e : appL ((#[] : Array Value).toList) (appL ((cgl c.args.toList).g T') ((#[] : Array Value).toList)) = (cgl c.args.toList).g T' := by simp [appL_eq]
      rw [e]; exact h3 m hm K
    · obtain ⟨hf, h2⟩ := okC_ok h1
      obtain ⟨g, fs, cs, e, h3⟩ := funcK_ok (show funcK _ _ = .ok V HH from h2)
      obtain ⟨v, H1', H1, N, k1, h4, h5⟩ := hcl _ _ _ _ _ _ _ h3 hr
      refine ⟨v, H1', H1, N, k1, h4, fun m hm K => ?_⟩
      unfold opA; simp only [ho, hc]
      rw [okx_eval ht hf, e]; simp only
      rw [okl_eval ht hargs]; exact h5 m hm K
  · cases h1
theorem cop_ok {n : Nat} {T' : V3} {T : Tr Value} {H' : FH} {H : Hp} {o : Oper} {r : Value → FH → Ans} {cl : CallF} (hcl : CallF.Ok P hk cl) (ht : RT n T' T) (hr : RH H' H) (h : (cop P n o.op).run cl T' H' r = .ok V HH) :
    ∃ v H1' H1 N, RH H1' H1 ∧ r v H1' = .ok V HH ∧ OpN P hk o T H N v H1 := by
  have of : OpF P o T H r V HH → ∃ v H1' H1 N, RH H1' H1 ∧ r v H1' = .ok V HH ∧ OpN P hk o T H N v H1 := fun ⟨v, H1', H1, k1, h1, h2⟩ => ⟨v, H1', H1, 0, k1, h1, fun m _ K => h2 _ K⟩
  cases ho : o.op with
  | move x => rw [ho] at h; exact of (f_move ht hr ho h)
  | assign x => rw [ho] at h; exact of (f_assign ht hr ho h)
  | pick c a b => rw [ho] at h; exact of (f_pick ht hr ho h)
  | alloc e => rw [ho] at h; exact of (f_alloc ht hr ho h)
  | box e x => rw [ho] at h; exact of (f_box ht hr ho h)
  | build t parts => rw [ho] at h; exact of (f_build ht hr ho h)
  | buildSlice t m parts => rw [ho] at h; exact of (f_buildSlice ht hr ho h)
  | load t a => rw [ho] at h; exact of (f_load ht hr ho h)
  | store t a x => rw [ho] at h; exact of (f_store ht hr ho h)
  | nilCheck x => rw [ho] at h; exact of (f_nilCheck ht hr ho h)
  | binOp op t x y ty => rw [ho] at h; exact of (f_binOp ht hr ho h)
  | unOp op t x => rw [ho] at h; exact of (f_unOp ht hr ho h)
  | convert src dst x => rw [ho] at h; exact of (f_convert ht hr ho h)
  | makeInterface t x => rw [ho] at h; exact of (f_makeInterface ht hr ho h)
  | makeFunc fn first captured => rw [ho] at h; exact of (f_makeFunc ht hr ho h)
  | makeSlice t a c => rw [ho] at h; exact of (f_makeSlice ht hr ho h)
  | slice t x lo hi mx => rw [ho] at h; exact of (f_slice ht hr ho h)
  | fieldAddr s x f => rw [ho] at h; exact of (f_fieldAddr ht hr ho h)
  | field t x f => rw [ho] at h; exact of (f_field ht hr ho h)
  | indexAddr t x i => rw [ho] at h; exact of (f_indexAddr ht hr ho h)
  | index t x i => rw [ho] at h; exact of (f_index ht hr ho h)
  | typeAssert x t u ok => rw [ho] at h; exact of (f_typeAssert ht hr ho h)
  | extract x i => rw [ho] at h; exact of (f_extract ht hr ho h)
  | call c => rw [ho] at h; exact f_call hcl ht hr ho h
  | makeMap t rs => rw [ho] at h; exact of (f_makeMap ht hr ho h)
  | lookup t m k ok => rw [ho] at h; exact of (f_lookup ht hr ho h)
  | mapUpdate t m k x => rw [ho] at h; exact of (f_mapUpdate ht hr ho h)
  | insert t m k x => rw [ho] at h; exact of (f_insert ht hr ho h)
  | _ => rw [ho] at h; cases h
theorem rt_put {n : Nat} {T' : V3} {T : Tr Value} (ht : RT n T' T) {d : Option Tmp} (hd : okd n d = true) (v : Value) : RT n ((putC d).s v T') (putA T d v) := by
  cases d with
  | none => exact ht
  | some d =>
    have hd : d < n := blt_lt hd
    have hc := ht.cap
    refine ⟨hc, fun t hlt => ?_⟩
    show (T.set d v).get t = some ((l3 t).g ((l3 d).s v T'))
    by_cases e : t = d
    · subst e; rw [Tr.set_eq, ht.get t hlt, l3_same]; rfl
    · rw [Tr.set_ne _ _ _ _ (fun x => e x.symm), ht.get t hlt, l3_ne d t v T' (Nat.lt_of_lt_of_le hd hc) (Nat.lt_of_lt_of_le hlt hc) (fun x => e x.symm)]
theorem okR_ok {b : Bool} {c : RG} {cl : CallF} {T' : V3} {H' : FH} {k : V3 → FH → Ans} (h : (okR b c).go cl T' H' k = .ok V HH) : b = true ∧ c.go cl T' H' k = .ok V HH := by
  cases b
  · cases h
  · exact ⟨rfl, h⟩
theorem guardR_ok {n : Nat} {T' : V3} {T : Tr Value} {H' : FH} (ht : RT n T' T) {g : Option (Option Tmp × Bool)} {yes no : RG} {cl : CallF} {k : V3 → FH → Ans} (h : (guardR n g yes no).go cl T' H' k = .ok V HH) :
    ∃ b, (∀ K, guardA g T K = K b) ∧ (match b with | true => yes | false => no).go cl T' H' k = .ok V HH := by
  unfold guardR at h
  split at h
  · exact ⟨true, fun K => rfl, h⟩
  · exact ⟨false, fun K => rfl, h⟩
  · rename_i d want
    obtain ⟨hd, h1⟩ := okR_ok h
    have hg := ht.get d (blt_lt hd)
    have key : ∀ (v : Value) (A B C : Ans), boolD v A B C = (match v with | .bool true => A | .bool false => B | _ => C) := fun v A B C => by
      cases v <;> first | rfl | (rename_i b; cases b <;> rfl)
    have old : ∀ K : Bool → Ans, guardA (some (some d, want)) T K = (match (l3 d).g T' with | .bool b => K (boolEq b want) | _ => K false) := fun K => by
      simp only [guardA, hg]; rfl
    cases want with
    | true =>
      have h2 : boolD ((l3 d).g T') (yes.go cl T' H' k) (no.go cl T' H' k) (no.go cl T' H' k) = .ok V HH := h1
      rw [key] at h2
      split at h2
      · rename_i e; exact ⟨true, fun K => by rw [old, e]; rfl, h2⟩
      · rename_i e; exact ⟨false, fun K => by rw [old, e]; rfl, h2⟩
      · rename_i e1 e2
        refine ⟨false, fun K => ?_, h2⟩
        rw [old]
        split
        · rename_i b e; cases b
          · exact absurd e e2
          · exact absurd e e1
        · rfl
    | false =>
      have h2 : boolD ((l3 d).g T') (no.go cl T' H' k) (yes.go cl T' H' k) (no.go cl T' H' k) = .ok V HH := h1
      rw [key] at h2
      split at h2
      · rename_i e; exact ⟨false, fun K => by rw [old, e]; rfl, h2⟩
      · rename_i e; exact ⟨true, fun K => by rw [old, e]; rfl, h2⟩
      · rename_i e1 e2
        refine ⟨false, fun K => ?_, h2⟩
        rw [old]
        split
        · rename_i b e; cases b
          · exact absurd e e2
          · exact absurd e e1
        · rfl
theorem okD_ok {b : Bool} {c : RD} {cl : CallF} {T' : V3} {H' : FH} {rs ms : List Nat} {rl : Nat} {k : V3 → FH → Ans} (h : (okD b c).go cl T' H' rs ms rl k = .ok V HH) : b = true ∧ c.go cl T' H' rs ms rl k = .ok V HH := by
  cases b
  · cases h
  · exact ⟨rfl, h⟩
theorem guardD_ok {n : Nat} {T' : V3} {T : Tr Value} {H' : FH} (ht : RT n T' T) {g : Option (Option Tmp × Bool)} {yes no : RD} {cl : CallF} {rs ms : List Nat} {rl : Nat} {k : V3 → FH → Ans} (h : (guardD n g yes no).go cl T' H' rs ms rl k = .ok V HH) :
    ∃ b, (∀ K, guardA g T K = K b) ∧ (match b with | true => yes | false => no).go cl T' H' rs ms rl k = .ok V HH := by
  unfold guardD at h
  split at h
  · exact ⟨true, fun K => rfl, h⟩
  · exact ⟨false, fun K => rfl, h⟩
  · rename_i d want
    obtain ⟨hd, h1⟩ := okD_ok h
    have hg := ht.get d (blt_lt hd)
    have key : ∀ (v : Value) (A B C : Ans), boolD v A B C = (match v with | .bool true => A | .bool false => B | _ => C) := fun v A B C => by
      cases v <;> first | rfl | (rename_i b; cases b <;> rfl)
    have old : ∀ K : Bool → Ans, guardA (some (some d, want)) T K = (match (l3 d).g T' with | .bool b => K (boolEq b want) | _ => K false) := fun K => by
      simp only [guardA, hg]; rfl
    cases want with
    | true =>
      have h2 : boolD ((l3 d).g T') (yes.go cl T' H' rs ms rl k) (no.go cl T' H' rs ms rl k) (no.go cl T' H' rs ms rl k) = .ok V HH := h1
      rw [key] at h2
      split at h2
      · rename_i e; exact ⟨true, fun K => by rw [old, e]; rfl, h2⟩
      · rename_i e; exact ⟨false, fun K => by rw [old, e]; rfl, h2⟩
      · rename_i e1 e2
        refine ⟨false, fun K => ?_, h2⟩
        rw [old]
        split
        · rename_i b e; cases b
          · exact absurd e e2
          · exact absurd e e1
        · rfl
    | false =>
      have h2 : boolD ((l3 d).g T') (no.go cl T' H' rs ms rl k) (yes.go cl T' H' rs ms rl k) (no.go cl T' H' rs ms rl k) = .ok V HH := h1
      rw [key] at h2
      split at h2
      · rename_i e; exact ⟨false, fun K => by rw [old, e]; rfl, h2⟩
      · rename_i e; exact ⟨true, fun K => by rw [old, e]; rfl, h2⟩
      · rename_i e1 e2
        refine ⟨false, fun K => ?_, h2⟩
        rw [old]
        split
        · rename_i b e; cases b
          · exact absurd e e2
          · exact absurd e e1
        · rfl
theorem creg_ok {n : Nat} {ops : Array Oper} {cl : CallF} (hcl : CallF.Ok P hk cl) : ∀ {l : List Oper} {T' : V3} {T : Tr Value} {H' : FH} {H : Hp} {k : V3 → FH → Ans}, RT n T' T → RH H' H → (creg P n ops l).go cl T' H' k = .ok V HH →
    ∃ T1' T1 H1' H1 N, RT n T1' T1 ∧ RH H1' H1 ∧ k T1' H1' = .ok V HH ∧ ∀ m, N ≤ m → ∀ K, opsA P (hookA hk (enterA P (exec P hk m))) ops l T H K = K T1 H1 := by
  intro l
  induction l with
  | nil => intro T' T H' H k ht hr h; exact ⟨T', T, H', H, 0, ht, hr, h, fun m _ K => rfl⟩
  | cons o l ih =>
    intro T' T H' H k ht hr h
    obtain ⟨hd, h1⟩ := okR_ok (show (okR (okd n o.dst) (guardR n (gslot ops o) (stepR (cop P n o.op) (putC o.dst) (creg P n ops l)) (skipR (putC o.dst) (creg P n ops l)))).go cl T' H' k = .ok V HH from h)
    obtain ⟨b, hb, h2⟩ := guardR_ok ht h1
    have shape : ∀ m K, opsA P (hookA hk (enterA P (exec P hk m))) ops (o :: l) T H K = (guardA (gslot ops o) T fun b => @Bool.rec (fun _ => Ans) (opsA P (hookA hk (enterA P (exec P hk m))) ops l (putA T o.dst undef) H K) (opA P (hookA hk (enterA P (exec P hk m))) o T H fun v H => opsA P (hookA hk (enterA P (exec P hk m))) ops l (putA T o.dst v) H K) b) := fun _ _ => rfl
    cases b with
    | false =>
      obtain ⟨T1', T1, H1', H1, N, q1, q2, q3, q4⟩ := ih (rt_put ht hd undef) hr h2
      exact ⟨T1', T1, H1', H1, N, q1, q2, q3, fun m hm K => by rw [shape, hb]; exact q4 m hm K⟩
    | true =>
      obtain ⟨v, H2', H2, N1, k1, h3, h4⟩ := cop_ok hcl ht hr (show (cop P n o.op).run cl T' H' _ = .ok V HH from h2)
      obtain ⟨T1', T1, H1', H1, N2, q1, q2, q3, q4⟩ := ih (rt_put ht hd v) k1 h3
      refine ⟨T1', T1, H1', H1, max N1 N2, q1, q2, q3, fun m hm K => ?_⟩
      rw [shape, hb]
      show (opA P (hookA hk (enterA P (exec P hk m))) o T H fun v H => opsA P (hookA hk (enterA P (exec P hk m))) ops l (putA T o.dst v) H K) = _
      rw [h4 m (by omega)]; exact q4 m (by omega) K
theorem blk_of {n : Nat} {T' : V3} {T : Tr Value} (ht : RT n T' T) {o : Op} {t : Tmp} (hld : ldAddr o = some t) (hbt : Nat.blt t n = true) {b off : Nat} (hp : (l3 t).g T' = .pointer (some ⟨b, off, none⟩)) : blkOf T o = b := by
  have hg := ht.get t (blt_lt hbt)
  rw [hp] at hg
  unfold ldAddr at hld
  split at hld
  · cases hld
    unfold blkOf; simp only [hg]
  · cases hld
    unfold blkOf; simp only [hg]
  · cases hld
theorem cregD_ok {n : Nat} {ops : Array Oper} {cl : CallF} (hcl : CallF.Ok P hk cl) : ∀ {l : List Oper} {i : Nat} {rs ms : List Nat} {rl : Nat} {T' : V3} {T : Tr Value} {H' : FH} {H : Hp} {k : V3 → FH → Ans}, RT n T' T → RH H' H → (cregD P n ops l i).go cl T' H' rs ms rl k = .ok V HH →
    ∃ T1' T1 H1' H1 N, RT n T1' T1 ∧ RH H1' H1 ∧ k T1' H1' = .ok V HH ∧ ∀ m, N ≤ m → ∀ K, opsDA P (hookA hk (enterA P (exec P hk m))) ops l i rs ms rl T H K = K T1 H1 := by
  intro l
  induction l with
  | nil =>
    intro i rs ms rl T' T H' H k ht hr h
    obtain ⟨hb, h1⟩ := ifK_ok (show ifK (keptAll rs ms rl) (k T' H') (.err 315 rl) = .ok V HH from h)
    refine ⟨T', T, H', H, 0, ht, hr, h1, fun m _ K => ?_⟩
    show @Bool.rec (fun _ => Ans) (.err 315 rl) (K T H) (keptAll rs ms rl) = _
    rw [hb]
  | cons o l ih =>
    intro i rs ms rl T' T H' H k ht hr h
    obtain ⟨hd, h1⟩ := okD_ok (show (okD (okd n o.dst) (guardD n (gslot ops o) (bodyD P n ops o i (cregD P n ops l (i + 1))) (skipD (putC o.dst) (cregD P n ops l (i + 1))))).go cl T' H' rs ms rl k = .ok V HH from h)
    obtain ⟨b, hb, h2⟩ := guardD_ok ht h1
    have shape : ∀ m K, opsDA P (hookA hk (enterA P (exec P hk m))) ops (o :: l) i rs ms rl T H K = (guardA (gslot ops o) T fun b => @Bool.rec (fun _ => Ans) (opsDA P (hookA hk (enterA P (exec P hk m))) ops l (i + 1) rs ms rl (putA T o.dst undef) H K)
      (opA P (hookA hk (enterA P (exec P hk m))) o T ⟨H.t, H.n, H.n⟩ fun v H' => @Bool.rec (fun _ => Ans)
        (@Bool.rec (fun _ => Ans) (.err 301 i) (@Bool.rec (fun _ => Ans) (opsDA P (hookA hk (enterA P (exec P hk m))) ops l (i + 1) rs ms (lowr rl H'.lo) (putA T o.dst v) ⟨H'.t, H'.n, lowr H.lo H'.lo⟩ K) (opsDA P (hookA hk (enterA P (exec P hk m))) ops l (i + 1) rs (blkOf T o.op :: ms) rl (putA T o.dst v) ⟨H'.t, H'.n, lowr H.lo H'.lo⟩ K) (isStore o.op)) (pivot ops i))
        (opsDA P (hookA hk (enterA P (exec P hk m))) ops l (i + 1) (@Bool.rec (fun _ => List Nat) rs (blkOf T o.op :: rs) (laxLoad ops i)) ms rl (putA T o.dst v) ⟨H'.t, H'.n, H.lo⟩ K) (Nat.ble H.n H'.lo)) b) := fun _ _ => rfl
    cases b with
    | false =>
      obtain ⟨T1', T1, H1', H1, N, q1, q2, q3, q4⟩ := ih (rt_put ht hd undef) hr h2
      exact ⟨T1', T1, H1', H1, N, q1, q2, q3, fun m hm K => by rw [shape, hb]; exact q4 m hm K⟩
    | true =>
      have hr0 : RH ⟨H'.t, H'.n, H'.n⟩ ⟨H.t, H.n, H.n⟩ := ⟨hr.n, hr.n, hr.cap, hr.full, hr.rel⟩
      have h2 : (bodyD P n ops o i (cregD P n ops l (i + 1))).go cl T' H' rs ms rl k = .ok V HH := h2
      have put : ∀ {H2' : FH} {H2 : Hp}, RH H2' H2 → ∀ lo lo', lo = lo' → RH ⟨H2'.t, H2'.n, lo'⟩ ⟨H2.t, H2.n, lo⟩ := fun k1 lo lo' e => ⟨k1.n, e, k1.cap, k1.full, k1.rel⟩
      unfold bodyD at h2
      split at h2
      · rename_i hlx hst
        obtain ⟨v, H2', H2, N1, k1, h3, h4⟩ := cop_ok hcl ht hr0 (show (cop P n o.op).run cl T' ⟨H'.t, H'.n, H'.n⟩ (fun v G => ifK (Nat.ble H'.n G.lo) ((cregD P n ops l (i + 1)).go cl ((putC o.dst).s v T') ⟨G.t, G.n, H'.lo⟩ rs ms rl k)
          (ifK (pivot ops i) (stN (lowr H'.lo G.lo) fun lo => stN (lowr rl G.lo) fun rl => (cregD P n ops l (i + 1)).go cl ((putC o.dst).s v T') ⟨G.t, G.n, lo⟩ rs ms rl k) (.err 301 i))) = .ok V HH from h2)
        cases hble : Nat.ble H'.n H2'.lo with
        | true =>
          rw [hble, ifK_true] at h3
          obtain ⟨T1', T1, H1', H1, N2, q1, q2, q3, q4⟩ := ih (rt_put ht hd v) (put k1 _ _ hr.lo) h3
          refine ⟨T1', T1, H1', H1, max N1 N2, q1, q2, q3, fun m hm K => ?_⟩
          rw [shape, hb]
          simp only
          rw [h4 m (by omega)]
          have e : Nat.ble H.n H2.lo = true := by rw [hr.n, k1.lo]; exact hble
          simp only [e, hlx]
          exact q4 m (by omega) K
        | false =>
          rw [hble, ifK_false] at h3
          obtain ⟨hp, h5⟩ := ifK_ok h3
          rw [stN_eq, stN_eq, ← k1.lo] at h5
          obtain ⟨T1', T1, H1', H1, N2, q1, q2, q3, q4⟩ := ih (rt_put ht hd v) (put k1 (lowr H.lo H2.lo) _ (by rw [hr.lo])) h5
          refine ⟨T1', T1, H1', H1, max N1 N2, q1, q2, q3, fun m hm K => ?_⟩
          rw [shape, hb]
          simp only
          rw [h4 m (by omega)]
          have e : Nat.ble H.n H2.lo = false := by rw [hr.n, k1.lo]; exact hble
          simp only [e, hp, hst]
          exact q4 m (by omega) K
      · rename_i hlx hst
        split at h2
        · rename_i t hld
          obtain ⟨hbt, h2⟩ := okD_ok h2
          obtain ⟨v, H2', H2, N1, k1, h3, h4⟩ := cop_ok hcl ht hr0 (show (cop P n o.op).run cl T' ⟨H'.t, H'.n, H'.n⟩ (fun v G => ifK (Nat.ble H'.n G.lo) ((cregD P n ops l (i + 1)).go cl ((putC o.dst).s v T') ⟨G.t, G.n, H'.lo⟩ rs ms rl k)
            (ifK (pivot ops i) (stN (lowr H'.lo G.lo) fun lo => ptrK ((l3 t).g T') fun b _ => (cregD P n ops l (i + 1)).go cl ((putC o.dst).s v T') ⟨G.t, G.n, lo⟩ rs (b :: ms) rl k) (.err 301 i))) = .ok V HH from h2)
          cases hble : Nat.ble H'.n H2'.lo with
          | true =>
            rw [hble, ifK_true] at h3
            obtain ⟨T1', T1, H1', H1, N2, q1, q2, q3, q4⟩ := ih (rt_put ht hd v) (put k1 _ _ hr.lo) h3
            refine ⟨T1', T1, H1', H1, max N1 N2, q1, q2, q3, fun m hm K => ?_⟩
            rw [shape, hb]
            simp only
            rw [h4 m (by omega)]
            have e : Nat.ble H.n H2.lo = true := by rw [hr.n, k1.lo]; exact hble
            simp only [e, hlx]
            exact q4 m (by omega) K
          | false =>
            rw [hble, ifK_false] at h3
            obtain ⟨hp, h5⟩ := ifK_ok h3
            rw [stN_eq, ← k1.lo] at h5
            obtain ⟨blk, off, hpt, h6⟩ := ptrK_ok h5
            have hblk := blk_of ht hld hbt hpt
            obtain ⟨T1', T1, H1', H1, N2, q1, q2, q3, q4⟩ := ih (rt_put ht hd v) (put k1 (lowr H.lo H2.lo) _ (by rw [hr.lo])) h6
            refine ⟨T1', T1, H1', H1, max N1 N2, q1, q2, q3, fun m hm K => ?_⟩
            rw [shape, hb]
            simp only
            rw [h4 m (by omega)]
            have e : Nat.ble H.n H2.lo = false := by rw [hr.n, k1.lo]; exact hble
            simp only [e, hp, hst, hblk]
            exact q4 m (by omega) K
        · cases h2
      · rename_i hlx
        split at h2
        · rename_i t hld
          obtain ⟨hbt, h2⟩ := okD_ok h2
          obtain ⟨v, H2', H2, N1, k1, h3, h4⟩ := cop_ok hcl ht hr0 (show (cop P n o.op).run cl T' ⟨H'.t, H'.n, H'.n⟩ (fun v G => ifK (Nat.ble H'.n G.lo) (ptrK ((l3 t).g T') fun b _ => (cregD P n ops l (i + 1)).go cl ((putC o.dst).s v T') ⟨G.t, G.n, H'.lo⟩ (b :: rs) ms rl k) (.err 301 i)) = .ok V HH from h2)
          obtain ⟨hble, h5⟩ := ifK_ok h3
          obtain ⟨blk, off, hp, h6⟩ := ptrK_ok h5
          have hblk := blk_of ht hld hbt hp
          obtain ⟨T1', T1, H1', H1, N2, q1, q2, q3, q4⟩ := ih (rt_put ht hd v) (put k1 _ _ hr.lo) h6
          refine ⟨T1', T1, H1', H1, max N1 N2, q1, q2, q3, fun m hm K => ?_⟩
          rw [shape, hb]
          simp only
          rw [h4 m (by omega)]
          have e : Nat.ble H.n H2.lo = true := by rw [hr.n, k1.lo]; exact hble
          simp only [e, hlx, hblk]
          exact q4 m (by omega) K
        · cases h2
def CodeN (P : Program) (hk : FuncId → List Value → Option Value) (n : Nat) (c : Code) (x : CC) : Prop := ∀ {cl : CallF}, CallF.Ok P hk cl → ∀ {T' : V3} {T : Tr Value} {H' : FH} {H : Hp} {k : AExit → V3 → FH → Ans} {V : Value} {HH : Hp}, RT n T' T → RH H' H → x.go cl T' H' k = .ok V HH →
  ∃ e T1' T1 H1' H1 N, RT n T1' T1 ∧ RH H1' H1 ∧ k e T1' H1' = .ok V HH ∧ ∀ m, N ≤ m → ∀ K, exec P hk m c T H K = K e T1 H1
theorem okK_ok {b : Bool} {c : CC} {cl : CallF} {T' : V3} {H' : FH} {k : AExit → V3 → FH → Ans} (h : (okK b c).go cl T' H' k = .ok V HH) : b = true ∧ c.go cl T' H' k = .ok V HH := by
  cases b
  · cases h
  · exact ⟨rfl, h⟩
theorem codeN_err {n c x : Nat} {d : Code} : CodeN P hk n d (errK c x) := fun _ _ _ _ _ _ _ _ _ _ h => by cases h
theorem codeN_pure {n : Nat} {d : Code} {e : AExit} (h : ∀ m T H (K : AExit → Tr Value → Hp → Ans), exec P hk (m + 1) d T H K = K e T H) : CodeN P hk n d ⟨fun _ T H k => k e T H⟩ := by
  intro cl hcl T' T H' H k V HH ht hr hk
  exact ⟨e, T', T, H', H, 1, ht, hr, hk, fun m hm K => by obtain ⟨m, rfl⟩ : ∃ q, m = q + 1 := ⟨m - 1, by omega⟩; exact h m T H K⟩
theorem succ_of {m N : Nat} (h : N + 1 ≤ m) : ∃ q, m = q + 1 ∧ N ≤ q := ⟨m - 1, by omega, by omega⟩
theorem cc_ok {n : Nat} (c : Code) : CodeN P hk n c (cc P n c) := by
  induction c with
  | skip => exact codeN_pure fun m T H K => rfl
  | label l => exact codeN_pure fun m T H K => rfl
  | exit id => exact codeN_pure fun m T H K => rfl
  | ret => exact codeN_pure fun m T H K => rfl
  | goto l => exact codeN_err
  | refuse w => exact codeN_err
  | rangeFunc f ps a b _ _ => exact codeN_err
  | region id ops draw =>
    intro cl hcl T' T H' H k V HH ht hr h
    cases draw with
    | false =>
      obtain ⟨T1', T1, H1', H1, N, q1, q2, q3, q4⟩ := creg_ok hcl ht hr (show (creg P n ops ops.toList).go cl T' H' _ = .ok V HH from h)
      refine ⟨.normal, T1', T1, H1', H1, N + 1, q1, q2, q3, fun m hm K => ?_⟩
      obtain ⟨m, rfl, hm'⟩ := succ_of hm; replace hm := hm'
      exact q4 m hm _
    | true =>
      obtain ⟨hd, h1⟩ := okK_ok (show (okK (drawOk ops) (ofD (cregD P n ops ops.toList 0))).go cl T' H' k = .ok V HH from h)
      obtain ⟨T1', T1, H1', H1, N, q1, q2, q3, q4⟩ := cregD_ok hcl ht hr (show (cregD P n ops ops.toList 0).go cl T' H' [] [] farOff (fun T H => k .normal T H) = .ok V HH from h1)
      refine ⟨.normal, T1', T1, H1', H1, N + 1, q1, q2, q3, fun m hm K => ?_⟩
      obtain ⟨m, rfl, hm'⟩ := succ_of hm; replace hm := hm'
      show @Bool.rec (fun _ => Ans) (.err 309 0) (opsDA P (hookA hk (enterA P (exec P hk m))) ops ops.toList 0 [] [] farOff T H fun T H => K .normal T H) (drawOk ops) = _
      rw [hd]; exact q4 m hm _
  | seq a b iha ihb =>
    intro cl hcl T' T H' H k V HH ht hr h
    have h' : (cc P n a).go cl T' H' (fun e T H => @AExit.rec (fun _ => Ans) ((cc P n b).go cl T H k) (k .ret T H) (fun i => k (.exit i) T H) e) = .ok V HH := h
    obtain ⟨e, T1', T1, H1', H1, N, q1, q2, q3, q4⟩ := iha hcl ht hr h'
    have shape : ∀ m K, exec P hk (m + 1) (.seq a b) T H K = (exec P hk m a T H fun e T H => match e with
        | .normal => exec P hk m b T H K
        | e => K e T H) := fun _ _ => rfl
    cases e with
    | normal =>
      obtain ⟨e2, T2', T2, H2', H2, N2, p1, p2, p3, p4⟩ := ihb hcl q1 q2 q3
      refine ⟨e2, T2', T2, H2', H2, max N N2 + 1, p1, p2, p3, fun m hm K => ?_⟩
      obtain ⟨m, rfl, hm'⟩ := succ_of hm; replace hm := hm'
      rw [shape, q4 m (by omega)]
      exact p4 m (by omega) K
    | ret =>
      refine ⟨.ret, T1', T1, H1', H1, N + 1, q1, q2, q3, fun m hm K => ?_⟩
      obtain ⟨m, rfl, hm'⟩ := succ_of hm; replace hm := hm'
      rw [shape, q4 m hm]
    | exit i =>
      refine ⟨.exit i, T1', T1, H1', H1, N + 1, q1, q2, q3, fun m hm K => ?_⟩
      obtain ⟨m, rfl, hm'⟩ := succ_of hm; replace hm := hm'
      rw [shape, q4 m hm]
  | cond x a b iha ihb =>
    intro cl hcl T' T H' H k V HH ht hr h
    obtain ⟨hx, h1⟩ := okK_ok (show (okK (okx n x) (condK (cgx x) (cc P n a) (cc P n b))).go cl T' H' k = .ok V HH from h)
    have shape : ∀ m K, exec P hk (m + 1) (.cond x a b) T H K = (evalA T x fun v => match v with
        | .bool true => exec P hk m a T H K
        | .bool false => exec P hk m b T H K
        | _ => .err 310 0) := fun _ _ => rfl
    rcases boolK_ok (show boolK ((cgx x).g T') ((cc P n a).go cl T' H' k) ((cc P n b).go cl T' H' k) = .ok V HH from h1) with ⟨e, h2⟩ | ⟨e, h2⟩
    · obtain ⟨e1, T1', T1, H1', H1, N, q1, q2, q3, q4⟩ := iha hcl ht hr h2
      refine ⟨e1, T1', T1, H1', H1, N + 1, q1, q2, q3, fun m hm K => ?_⟩
      obtain ⟨m, rfl, hm'⟩ := succ_of hm; replace hm := hm'
      rw [shape, okx_eval ht hx, e]; exact q4 m hm K
    · obtain ⟨e1, T1', T1, H1', H1, N, q1, q2, q3, q4⟩ := ihb hcl ht hr h2
      refine ⟨e1, T1', T1, H1', H1, N + 1, q1, q2, q3, fun m hm K => ?_⟩
      obtain ⟨m, rfl, hm'⟩ := succ_of hm; replace hm := hm'
      rw [shape, okx_eval ht hx, e]; exact q4 m hm K
  | block id a iha =>
    intro cl hcl T' T H' H k V HH ht hr h
    have h' : (cc P n a).go cl T' H' (fun e T H => @AExit.rec (fun _ => Ans) (k .normal T H) (k .ret T H) (fun i => ifK (Nat.beq i id) (k .normal T H) (k (.exit i) T H)) e) = .ok V HH := h
    obtain ⟨e, T1', T1, H1', H1, N, q1, q2, q3, q4⟩ := iha hcl ht hr h'
    have shape : ∀ m K, exec P hk (m + 1) (.block id a) T H K = (exec P hk m a T H fun e T H => match e with
        | .exit i => @Bool.rec (fun _ => Ans) (K (.exit i) T H) (K .normal T H) (Nat.beq i id)
        | e => K e T H) := fun _ _ => rfl
    cases e with
    | normal =>
      refine ⟨.normal, T1', T1, H1', H1, N + 1, q1, q2, q3, fun m hm K => ?_⟩
      obtain ⟨m, rfl, hm'⟩ := succ_of hm; replace hm := hm'
      rw [shape, q4 m hm]
    | ret =>
      refine ⟨.ret, T1', T1, H1', H1, N + 1, q1, q2, q3, fun m hm K => ?_⟩
      obtain ⟨m, rfl, hm'⟩ := succ_of hm; replace hm := hm'
      rw [shape, q4 m hm]
    | exit i =>
      cases hi : Nat.beq i id with
      | true =>
        have q3 : ifK (Nat.beq i id) (k .normal T1' H1') (k (.exit i) T1' H1') = .ok V HH := q3
        rw [hi, ifK_true] at q3
        refine ⟨.normal, T1', T1, H1', H1, N + 1, q1, q2, q3, fun m hm K => ?_⟩
        obtain ⟨m, rfl, hm'⟩ := succ_of hm; replace hm := hm'
        rw [shape, q4 m hm]; simp only [hi]
      | false =>
        have q3 : ifK (Nat.beq i id) (k .normal T1' H1') (k (.exit i) T1' H1') = .ok V HH := q3
        rw [hi, ifK_false] at q3
        refine ⟨.exit i, T1', T1, H1', H1, N + 1, q1, q2, q3, fun m hm K => ?_⟩
        obtain ⟨m, rfl, hm'⟩ := succ_of hm; replace hm := hm'
        rw [shape, q4 m hm]; simp only [hi]
  | scope a iha =>
    intro cl hcl T' T H' H k V HH ht hr h
    obtain ⟨e, T1', T1, H1', H1, N, q1, q2, q3, q4⟩ := iha hcl ht hr (show (cc P n a).go cl T' H' k = .ok V HH from h)
    refine ⟨e, T1', T1, H1', H1, N + 1, q1, q2, q3, fun m hm K => ?_⟩
    obtain ⟨m, rfl, hm'⟩ := succ_of hm; replace hm := hm'
    exact q4 m hm K
  | loop a iha =>
    intro cl hcl T' T H' H k V HH ht hr h
    have shape : ∀ m T H K, exec P hk (m + 1) (.loop a) T H K = (exec P hk m a T H fun e T H => match e with
        | .normal => exec P hk m (.loop a) T H K
        | e => K e T H) := fun _ _ _ _ => rfl
    have go : ∀ (d : Nat) (T' : V3) (T : Tr Value) (H' : FH) (H : Hp), RT n T' T → RH H' H → loopGo (cc P n a) cl k d T' H' = .ok V HH →
        ∃ e T1' T1 H1' H1 N, RT n T1' T1 ∧ RH H1' H1 ∧ k e T1' H1' = .ok V HH ∧ ∀ m, N ≤ m → ∀ K, exec P hk m (.loop a) T H K = K e T1 H1 := by
      intro d
      induction d with
      | zero => intro T' T H' H ht hr h; cases h
      | succ d ih =>
        intro T' T H' H ht hr h
        obtain ⟨e, T1', T1, H1', H1, N, q1, q2, q3, q4⟩ := iha hcl ht hr (show (cc P n a).go cl T' H' (fun e T H => @AExit.rec (fun _ => Ans) (loopGo (cc P n a) cl k d T H) (k .ret T H) (fun i => k (.exit i) T H) e) = .ok V HH from h)
        cases e with
        | normal =>
          obtain ⟨e2, T2', T2, H2', H2, N2, p1, p2, p3, p4⟩ := ih T1' T1 H1' H1 q1 q2 q3
          refine ⟨e2, T2', T2, H2', H2, max N N2 + 1, p1, p2, p3, fun m hm K => ?_⟩
          obtain ⟨m, rfl, hm'⟩ := succ_of hm; replace hm := hm'
          rw [shape, q4 m (by omega)]
          exact p4 m (by omega) K
        | ret =>
          refine ⟨.ret, T1', T1, H1', H1, N + 1, q1, q2, q3, fun m hm K => ?_⟩
          obtain ⟨m, rfl, hm'⟩ := succ_of hm; replace hm := hm'
          rw [shape, q4 m hm]
        | exit i =>
          refine ⟨.exit i, T1', T1, H1', H1, N + 1, q1, q2, q3, fun m hm K => ?_⟩
          obtain ⟨m, rfl, hm'⟩ := succ_of hm; replace hm := hm'
          rw [shape, q4 m hm]
    have e0 : cc P n (.loop a) = loopK (cc P n a) := rfl
    rw [e0] at h
    dsimp only [loopK] at h
    exact go _ T' T H' H ht hr h
theorem mkB_full : ∀ (k n t : Nat), t < n → n < 2 ^ k → (mkB k n).get t = some undef := by
  intro k
  induction k with
  | zero => intro n t h1 h2; omega
  | succ k ih =>
    intro n t h1 h2
    show (@Bool.rec (fun _ => Tr Value) (.node (mkB k (n / 2)) undef (mkB k ((n - 1) / 2))) .nil (Nat.beq n 0)).get t = some undef
    have hn : Nat.beq n 0 = false := by rw [Tr.beq0]; simp; omega
    rw [hn]
    show (Tr.node (mkB k (n / 2)) undef (mkB k ((n - 1) / 2))).get t = some undef
    rw [Tr.get_node]
    have hp : 2 ^ (k + 1) = 2 * 2 ^ k := by rw [Nat.pow_succ]; omega
    by_cases h0 : t = 0
    · rw [if_pos h0]
    · rw [if_neg h0]
      by_cases h1 : t % 2 = 1
      · rw [if_pos h1]; exact ih _ _ (by omega) (by omega)
      · rw [if_neg h1]; exact ih _ _ (by omega) (by omega)
theorem l3_empty (t : Nat) : (l3 t).g eV3 = undef := by
  show (sV1 _).g ((sV2 _).g ((sV3 _).g eV3)) = undef
  rw [sV3_e, sV2_e, sV1_e]
theorem frame_rt {n : Nat} : ∀ (l : List Value) (i : Nat) (T' : V3) (T : Tr Value), i + l.length ≤ n → RT n T' T → RT n (frameF l i T') (setL l i T) := by
  intro l
  induction l with
  | nil => intro i T' T _ h; exact h
  | cons v l ih =>
    intro i T' T hi h
    simp only [List.length_cons] at hi
    exact ih (i + 1) _ _ (by omega) (rt_put (d := some i) h (Nat.ble_eq_true_of_le (by omega)) v)
theorem resC_ok {n : Nat} {T' : V3} {T : Tr Value} {H' : FH} {H : Hp} (ht : RT n T' T) (hr : RH H' H) : ∀ {l : List ResultVar} {k : List Value → Ans}, (resC P n l).go T' H' k = .ok V HH → ∃ vs, k vs = .ok V HH ∧ ∀ K, resA P l T H K = K vs := by
  intro l
  induction l with
  | nil => intro k h; exact ⟨[], h, fun K => rfl⟩
  | cons x l ih =>
    intro k h
    cases x with
    | tmp t =>
      have h' : (match Nat.blt t n with
        | true => (⟨fun T H k => (resC P n l).go T H fun l => k ((l3 t).g T :: l)⟩ : RC)
        | false => ⟨fun _ _ _ => .err 302 t⟩).go T' H' k = .ok V HH := h
      cases hb : Nat.blt t n with
      | false => rw [hb] at h'; cases h'
      | true =>
        rw [hb] at h'
        obtain ⟨vs, h1, h2⟩ := ih (show (resC P n l).go T' H' (fun l => k ((l3 t).g T' :: l)) = .ok V HH from h')
        refine ⟨_, h1, fun K => ?_⟩
        show @Option.rec Value (fun _ => Ans) (.err 302 t) (fun v => resA P l T H fun l => K (v :: l)) (T.get t) = _
        rw [ht.get t (blt_lt hb)]
        exact h2 _
    | cell a t =>
      have h' : (match Nat.blt a n with
        | true => (⟨fun T H k => (ldC P t).go H ((l3 a).g T) fun v => (resC P n l).go T H fun l => k (v :: l)⟩ : RC)
        | false => ⟨fun _ _ _ => .err 303 a⟩).go T' H' k = .ok V HH := h
      cases hb : Nat.blt a n with
      | false => rw [hb] at h'; cases h'
      | true =>
        rw [hb] at h'
        obtain ⟨v, h1, h2⟩ := ldC_ok hr (show (ldC P t).go H' ((l3 a).g T') (fun v => (resC P n l).go T' H' fun l => k (v :: l)) = .ok V HH from h')
        obtain ⟨vs, h3, h4⟩ := ih h1
        refine ⟨_, h3, fun K => ?_⟩
        show @Option.rec Value (fun _ => Ans) (.err 303 a) (fun p => loadA P H t p fun v => resA P l T H fun l => K (v :: l)) (T.get a) = _
        rw [ht.get a (blt_lt hb)]
        show (loadA P H t ((l3 a).g T') fun v => resA P l T H fun l => K (v :: l)) = _
        rw [h2]
        exact h4 _
theorem oneK_ok {l : List Value} {k : Value → Ans} : oneK l k = k (oneOr l) := by
  rcases l with _ | ⟨a, _ | ⟨b, l⟩⟩ <;> rfl
theorem cfun_ok {cl : CallF} (hcl : CallF.Ok P hk cl) {f : FuncId} {args : List Value} {H' : FH} {H : Hp} {r : Value → FH → Ans} (hr : RH H' H) (h : (cfun P f).go cl args H' r = .ok V HH) :
    ∃ v H1' H1 N, RH H1' H1 ∧ r v H1' = .ok V HH ∧ ∀ m, N ≤ m → ∀ K, enterA P (exec P hk m) f args H K = K v H1 := by
  unfold cfun at h
  split at h
  · cases h
  · rename_i fn hfn
    split at h
    · cases h
    · rename_i c hc
      split at h
      · cases h
      · rename_i hok
        obtain ⟨hnm, hcap⟩ := ok2_ok hok
        have hcap := ble_le hcap
        obtain ⟨hle, h1⟩ := ifK_ok (show ifK (Nat.ble (len args) fn.ntmps) _ _ = .ok V HH from h)
        have hle' : args.length ≤ fn.ntmps := by have := ble_le hle; rw [len_eq] at this; exact this
        have ht0 : RT fn.ntmps eV3 (mkB 14 fn.ntmps) := ⟨hcap, fun t hlt => by rw [mkB_full 14 _ _ hlt (by omega), l3_empty]⟩
        have ht := frame_rt args 0 _ _ (by omega) ht0
        obtain ⟨e, T1', T1, H1', H1, N, q1, q2, q3, q4⟩ := cc_ok c hcl ht hr h1
        have shape : ∀ m K, enterA P (exec P hk m) f args H K = (exec P hk m c (setL args 0 (mkB 14 fn.ntmps)) H fun e T H => match e with
            | .exit _ => .err 308 f
            | _ => resA P fn.results.toList T H fun l => K (oneOr l) H) := fun m K => by
          unfold enterA; simp only [hfn, hc, hnm, hle]; rfl
        cases e with
        | exit i => cases q3
        | normal =>
          obtain ⟨vs, h2, h3⟩ := resC_ok q1 q2 (show (resC P fn.ntmps fn.results.toList).go T1' H1' _ = .ok V HH from q3)
          rw [oneK_ok] at h2
          refine ⟨_, H1', H1, N, q2, h2, fun m hm K => ?_⟩
          rw [shape, q4 m hm]; exact h3 _
        | ret =>
          obtain ⟨vs, h2, h3⟩ := resC_ok q1 q2 (show (resC P fn.ntmps fn.results.toList).go T1' H1' _ = .ok V HH from q3)
          rw [oneK_ok] at h2
          refine ⟨_, H1', H1, N, q2, h2, fun m hm K => ?_⟩
          rw [shape, q4 m hm]; exact h3 _
theorem clF_ok (d : Nat) : CallF.Ok P hk (clF P hk d) := by
  induction d with
  | zero => intro f args H' H r V HH h; cases h
  | succ d ih =>
    intro f args H' H r V HH h hr
    have h' : @Option.rec Value (fun _ => Ans) ((cfun P f).go (clF P hk d) args H' r) (fun v => r v H') (hk f args) = .ok V HH := h
    cases hf : hk f args with
    | none =>
      rw [hf] at h'
      obtain ⟨v, H1', H1, N, k1, h1, h2⟩ := cfun_ok ih hr h'
      refine ⟨v, H1', H1, N, k1, h1, fun m hm K => ?_⟩
      unfold hookA
      rw [hf]
      exact h2 m hm K
    | some v =>
      rw [hf] at h'
      refine ⟨v, H', H, 0, hr, h', fun m _ K => ?_⟩
      unfold hookA
      rw [hf]
noncomputable def tokH (k : Nat) : Hp := ⟨deadT k, k, k⟩
theorem l6_empty (b : Nat) : (l6 b).g eO6 = .dead := by
  show (sO1 _).g ((sO2 _).g ((sO3 _).g ((sO4 _).g ((sO5 _).g ((sO6 _).g eO6))))) = .dead
  rw [sO6_e, sO5_e, sO4_e, sO3_e, sO2_e, sO1_e]
end
end Go.Abs
