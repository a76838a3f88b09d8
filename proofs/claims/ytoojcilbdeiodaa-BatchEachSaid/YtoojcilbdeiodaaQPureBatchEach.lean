/- BatchEach over numbers and lists alone: it tells true. No conditions. -/
import Derived.Test.YtoojcilbdeiodaaQEachx4
import Derived.Test.YtoojcilbdeiodaaQEachp
namespace Go.Proofs.Ytoojcilbdeiodaa.Pure
open Go.RowKit Go.Proofs.Ytoojcilbdeiodaa.QEach Go.Proofs.YtoojcilbdeiodaaW.PrintWords Go.Proofs.YtoojcilbdeiodaaW.PrintLast
set_option linter.unusedVariables false
set_option linter.unusedSimpArgs false

theorem pick_ok (a m : Int) (h0 : 0 < m) (h1 : m ≤ 1073741824) : ∃ t, abaculushand_Pick.f a m = some t ∧ 0 ≤ t ∧ t < m := by
  have a1 := Int.tmod_lt_of_pos a h0
  have a2 := Int.lt_tmod_of_pos a h0
  unfold abaculushand_Pick.f
  rw [if_neg (by omega)]
  by_cases h : Int.tmod a m < 0
  · rw [if_pos h, w64 _ (by omega)]
    exact ⟨_, rfl, by omega, by omega⟩
  · rw [if_neg h]
    exact ⟨_, rfl, by omega, by omega⟩
theorem known_ev : EvR (fun k => abaculuslaw38_known.f k) true := EvR.up abaculuslaw38_known.mono (k := 30) (by decide +kernel)

/-! ### the times: they rise -/
structure Rise (T : List Int) (b : Int) : Prop where
  lo : ∀ i : Nat, i < T.length → 0 ≤ T.getD i 0
  hi : ∀ i : Nat, i < T.length → T.getD i 0 ≤ b
  up : ∀ i : Nat, i + 1 < T.length → T.getD i 0 ≤ T.getD (i + 1) 0
theorem getD_snoc (T : List Int) (v : Int) (i : Nat) : (T ++ [v]).getD i 0 = if i < T.length then T.getD i 0 else if i = T.length then v else 0 := by
  rw [List.getD_eq_getElem?_getD, List.getElem?_append]
  split
  · rw [List.getD_eq_getElem?_getD]
  · split
    · rename_i h; subst h; simp
    · rw [List.getElem?_eq_none (by simp; omega)]; rfl
theorem Rise.snoc {T : List Int} {b v : Int} (h : Rise T b) (hb : 0 ≤ b) (hv : b ≤ v) : Rise (T ++ [v]) v where
  lo i hi := by
    rw [getD_snoc]
    split
    · exact h.lo i (by assumption)
    · split <;> omega
  hi i hi := by
    rw [getD_snoc]
    split
    · have := h.hi i (by assumption); omega
    · split <;> omega
  up i hi := by
    rw [List.length_append, List.length_singleton] at hi
    rw [getD_snoc, getD_snoc, if_pos (by omega)]
    by_cases h1 : i + 1 < T.length
    · rw [if_pos h1]; exact h.up i h1
    · rw [if_neg h1, if_pos (by omega)]
      have := h.hi i (by omega)
      omega

theorem Rise.wide {T : List Int} {b c : Int} (h : Rise T b) (hb : b ≤ c) : Rise T c where
  lo := h.lo
  hi i hi := by have := h.hi i hi; omega
  up := h.up

def tl (x1 : Int) (x5 : List Int) : Option (List Int) := (abaculushand_Pick.f x1 8).bind fun t106 => (if t106 < 3 then (if (x5.length : Int) > 0 then (if 0 ≤ (wrap64 ((x5.length : Int) - 1)) then (if (wrap64 ((x5.length : Int) - 1)) < (x5.length : Int) then (some (x5.set ((wrap64 ((x5.length : Int) - 1)) : Int).toNat (rd ([-1, 1073741824, 1073741825] : List Int) t106))) else (none)) else (none)) else (some x5)) else (some x5))

theorem times_ok (l : List Int) (odd : Int) : ∀ d j (T : List Int) (now : Int), j + d = 40 → T.length = j → j ≤ l.length → Rise T now → 0 ≤ now → now ≤ 5 * j →
    ∃ T', Rise T' 200 ∧ T'.length ≤ 40 ∧ ∀ r, tl odd T' = some r → EvR (fun k => abaculuslaw38_times.l0 k l odd T now (j : Int)) r := by
  intro d
  induction d with
  | zero =>
    intro j T now hj hT hl hR h0 h5
    refine ⟨T, hR.wide (by omega), by omega, fun r hr => EvR.now (fun k => ?_)⟩
    rw [abaculuslaw38_times.l0]
    by_cases h : (j : Int) < l.length
    · rw [if_pos h, if_neg (by omega)]; exact hr
    · rw [if_neg h]; exact hr
  | succ d ih =>
    intro j T now hj hT hl hR h0 h5
    by_cases h : j < l.length
    · obtain ⟨t, ht, ht0, ht1⟩ := pick_ok (rd l j) 6 (by omega) (by omega)
      have e1 : wrap64 (now + t) = now + t := w64 _ (by omega)
      have e2 : wrap64 ((j : Int) + 1) = ((j + 1 : Nat) : Int) := by rw [w64 _ (by omega)]; omega
      obtain ⟨T', hR', hl', hr'⟩ := ih (j + 1) (T ++ [now + t]) (now + t) (by omega) (by simp [hT]) (by omega) (hR.snoc h0 (by omega)) (by omega) (by omega)
      refine ⟨T', hR', hl', fun r hr => EvR.step (fun k => ?_) (hr' r hr)⟩
      rw [abaculuslaw38_times.l0, if_pos (by omega), if_pos (by omega), if_pos (by omega), ht, Option.bind_some, if_pos (by omega), e1, e2]
    · refine ⟨T, hR.wide (by omega), by omega, fun r hr => EvR.now (fun k => ?_)⟩
      rw [abaculuslaw38_times.l0, if_neg (by omega)]; exact hr

/-! ### the groups: what they hold -/
theorem adv_spec (T : List Int) (m e : Int) (fr : Nat) : ∀ d i, i + d = T.length →
    (∀ q, i ≤ q → q < adv T m e fr d i → (q : Int) - fr < m ∧ T.getD q 0 ≤ e) ∧
    (adv T m e fr d i < T.length → ¬ (((adv T m e fr d i : Nat) : Int) - fr < m ∧ T.getD (adv T m e fr d i) 0 ≤ e)) := by
  intro d
  induction d with
  | zero =>
    intro i hi
    rw [adv]
    exact ⟨fun q h1 h2 => by omega, fun h => by omega⟩
  | succ d ih =>
    intro i hi
    rw [adv]
    by_cases h : (i : Int) - fr < m ∧ T.getD i 0 ≤ e
    · rw [if_pos h]
      obtain ⟨h1, h2⟩ := ih (i + 1) (by omega)
      refine ⟨fun q hq1 hq2 => ?_, h2⟩
      by_cases hq : q = i
      · subst hq; exact h
      · exact h1 q (by omega) hq2
    · rw [if_neg h]
      exact ⟨fun q h1 h2 => by omega, fun _ => h⟩
theorem rise_le {T : List Int} (up : ∀ i : Nat, i + 1 < T.length → T.getD i 0 ≤ T.getD (i + 1) 0) (p : Nat) : ∀ d, p + d < T.length → T.getD p 0 ≤ T.getD (p + d) 0 := by
  intro d
  induction d with
  | zero => intro _; exact Int.le_refl _
  | succ d ih =>
    intro h
    have a := ih (by omega)
    have b := up (p + d) (by omega)
    rw [show p + (d + 1) = p + d + 1 by omega]
    omega
theorem iota_get (n q : Nat) (h : q < n) : (iota n).getD q 0 = q := by
  simp [iota, List.getD_eq_getElem?_getD, h]
theorem grp_len (T : List Int) (m e : Int) (i a : Nat) (h1 : i ≤ a) (h2 : a ≤ T.length) : (grp T m e i a).f0.length = a - i := by
  simp only [grp, List.length_drop, List.length_take, iota_len]; omega
theorem grp_get (T : List Int) (m e : Int) (i a q : Nat) (h1 : i + q < a) (h2 : a ≤ T.length) : rd (grp T m e i a).f0 (q : Int) = ((i + q : Nat) : Int) := by
  rw [rd_nat]
  simp only [grp]
  rw [List.getD_eq_getElem?_getD, List.getElem?_drop, List.getElem?_take, if_pos h1, ← List.getD_eq_getElem?_getD, iota_get _ _ (by omega)]
theorem wsucc (n : Nat) (h : n ≤ 1000000) : wrap64 ((n : Int) + 1) = ((n + 1 : Nat) : Int) := by rw [w64 _ (by omega)]; omega
theorem at_pre (pre rest : List S40) (g : S40) : rd_T40 (pre ++ g :: rest) (pre.length : Int) = g := by
  simp [rd_T40, List.getD_eq_getElem?_getD]

section
variable {T : List Int} {m w : Int} (F : Fit T m w)
include F

theorem j3_ok (X : List S40) (x a : Nat) (n' : Int) (ha : a ≤ T.length) (hx : x < X.length) (hxb : X.length ≤ 65537) (htm : n' < m → a < T.length → ¬ T.getD a 0 ≤ (rd_T40 X (x : Int)).f1)
    (h : EvR (fun k => abaculuslaw38_BatchEach.l0 k T X (a : Int) ((x + 1 : Nat) : Int) m w) true) :
    EvR (fun k => abaculuslaw38_BatchEach.j3 k T X (a : Int) (x : Int) n' false m w) true := by
  have hl := F.len
  have eb : wrap64 ((x : Int) + 1) = ((x + 1 : Nat) : Int) := by rw [w64 _ (by omega)]; omega
  refine EvR.step (fun k => ?_) h
  rw [abaculuslaw38_BatchEach.j3, if_neg (by decide), eb]
  by_cases h1 : n' < m
  · rw [if_pos h1]
    by_cases h2 : a < T.length
    · rw [if_pos (by omega), if_pos (by omega), if_pos (by omega), if_pos (by omega), rd_nat, if_neg (htm h1 h2)]
    · rw [if_neg (by omega)]
  · rw [if_neg h1]

theorem l1_all (X : List S40) (x i n' : Nat) (G : S40) (hG : Aside0 (rd_T40 X (x : Int) = G)) (h0 : 0 < n') (ha : i + n' ≤ T.length) (hx : x < X.length) (hxb : X.length ≤ 65537)
    (hlen : Aside0 (G.f0.length = n')) (hget : ∀ q : Nat, q < n' → rd G.f0 (q : Int) = ((i + q : Nat) : Int))
    (hlo : ∀ q : Nat, q < n' → ¬ G.f1 < T.getD (i + q) 0) (hhi : ∀ q : Nat, q < n' → ¬ G.f1 > T.getD (i + q) 0 + w)
    (hend : Aside0 ((n' : Int) < m → G.f1 = T.getD i 0 + w))
    (h : EvR (fun k => abaculuslaw38_BatchEach.j3 k T X ((i + n' : Nat) : Int) (x : Int) (n' : Int) false m w) true) :
    ∀ d q, q + d = n' → EvR (fun k => abaculuslaw38_BatchEach.l1 k T X ((i + q : Nat) : Int) (x : Int) (n' : Int) (q : Int) m w) true := by
  have hl := F.len
  have hlen' : ((G.f0.length : Nat) : Int) = (n' : Int) := by rw [hlen.out]
  intro d
  induction d with
  | zero =>
    intro q hq
    have eq : q = n' := hq
    subst eq
    have b1 : ¬ ((q : Int) < (q : Int)) := Int.lt_irrefl _
    have b2 : (0 : Int) ≤ (x : Int) := Int.natCast_nonneg _
    have b3 : (x : Int) < (X.length : Int) := by omega
    have b4 : (0 : Int) < (q : Int) := by omega
    have b5 : (0 : Int) ≤ ((i + 0 : Nat) : Int) := Int.natCast_nonneg _
    have b6 : ((i + 0 : Nat) : Int) < (T.length : Int) := by omega
    have g1 := F.lo i (by omega)
    have g2 := F.hi i (by omega)
    have g3 := F.w0
    have g4 := F.w1
    have ew : wrap64 (T.getD i 0 + w) = T.getD i 0 + w := w64 _ (by omega)
    refine EvR.step (fun k => ?_) h
    rw [abaculuslaw38_BatchEach.l1, hG.out, if_neg b1]
    have hg0 : rd G.f0 0 = ((i + 0 : Nat) : Int) := hget 0 h0
    by_cases h1 : (q : Int) < m
    · rw [if_pos h1, if_pos b2, if_pos b3, hlen', if_pos b4, hg0, if_pos b5, if_pos b6, rd_nat, Nat.add_zero, ew, hend.out h1]
      simp
    · rw [if_neg h1]
  | succ d ih =>
    intro q hq
    have b1 : (q : Int) < (n' : Int) := by omega
    have b2 : (0 : Int) ≤ (x : Int) := Int.natCast_nonneg _
    have b3 : (x : Int) < (X.length : Int) := by omega
    have b4 : (0 : Int) ≤ (q : Int) := Int.natCast_nonneg _
    have b5 : (0 : Int) ≤ ((i + q : Nat) : Int) := Int.natCast_nonneg _
    have b6 : ((i + q : Nat) : Int) < (T.length : Int) := by omega
    have b7 : q < n' := by omega
    have b8 : i + q ≤ 1000000 := by omega
    have b9 : q ≤ 1000000 := by omega
    have g1 := F.lo (i + q) (by omega)
    have g2 := F.hi (i + q) (by omega)
    have g3 := F.w0
    have g4 := F.w1
    have ew : wrap64 (T.getD (i + q) 0 + w) = T.getD (i + q) 0 + w := w64 _ (by omega)
    have eb : wrap64 (((i + q : Nat) : Int) + 1) = ((i + (q + 1) : Nat) : Int) := wsucc (i + q) b8
    have ec : wrap64 ((q : Int) + 1) = ((q + 1 : Nat) : Int) := wsucc q b9
    have hi2 := ih (q + 1) (by omega)
    refine EvR.step (fun k => ?_) hi2
    rw [abaculuslaw38_BatchEach.l1, hG.out, if_pos b1, if_pos b2, if_pos b3, if_pos b4, hlen', if_pos b1, hget q b7, if_pos rfl, if_pos b5, if_pos b6, rd_nat, if_neg (hlo q b7), ew, if_neg (hhi q b7), eb, ec]

theorem each_ok (X : List S40) (hxb : X.length ≤ 65537) : ∀ f i (pre : List S40), X = pre ++ gs T m w f i → T.length ≤ i + f → i ≤ T.length →
    EvR (fun k => abaculuslaw38_BatchEach.l0 k T X (i : Int) (pre.length : Int) m w) true := by
  have hl := F.len
  have hm := F.m1
  have hw0 := F.w0
  obtain ⟨K, hK⟩ := known_ev
  have fin : ∀ i (pre : List S40), X = pre → T.length = i → EvR (fun k => abaculuslaw38_BatchEach.l0 k T X (i : Int) (pre.length : Int) m w) true := by
    intro i pre hX hi
    refine ⟨K + 1, fun k hk => ?_⟩
    cases k with
    | zero => omega
    | succ k =>
      show abaculuslaw38_BatchEach.l0 (k + 1) T X (i : Int) (pre.length : Int) m w = some true
      have h1 : abaculuslaw38_known.f k = some true := hK k (by omega)
      rw [abaculuslaw38_BatchEach.l0, if_neg (by rw [hX]; omega), h1, Option.bind_some, if_pos rfl, hi]
      simp
  intro f
  induction f with
  | zero =>
    intro i pre hX h1 h2
    rw [gs, List.append_nil] at hX
    exact fin i pre hX (by omega)
  | succ f ih =>
    intro i pre hX h1 h2
    by_cases h : i < T.length
    · rw [gs, if_pos h] at hX
      have hg := adv_gt F i h
      have ha := adv_ge T m (T.getD i 0 + w) i (T.length - i) i
      obtain ⟨hs1, hs2⟩ := adv_spec T m (T.getD i 0 + w) i (T.length - i) i (by omega)
      generalize adv T m (T.getD i 0 + w) i (T.length - i) i = a at hX hg ha hs1 hs2
      have hG : Aside0 (rd_T40 X (pre.length : Int) = grp T m (T.getD i 0 + w) i a) := ⟨by rw [hX]; exact at_pre _ _ _⟩
      have hx : pre.length < X.length := by rw [hX, List.length_append, List.length_cons]; omega
      have hXX := Aside0.mk hX
      clear hX
      have hs1' := Aside0.mk hs1
      have hs2' := Aside0.mk hs2
      clear hs1 hs2
      obtain ⟨n', hn'⟩ : ∃ n', a = i + n' := ⟨a - i, by omega⟩
      subst hn'
      obtain ⟨G, hGG⟩ : ∃ G, G = grp T m (T.getD i 0 + w) i (i + n') := ⟨_, rfl⟩
      have hlen : Aside0 (G.f0.length = n') := ⟨by rw [hGG, grp_len _ _ _ _ _ (by omega) (by omega)]; omega⟩
      have ham := (hs1'.out (i + n' - 1) (by omega) (by omega)).1
      have htm : G.f1 = if ((i + n' : Nat) : Int) - i = m then T.getD (i + n' - 1) 0 else T.getD i 0 + w := by rw [hGG]; rfl
      have hget : ∀ q : Nat, q < n' → rd G.f0 (q : Int) = ((i + q : Nat) : Int) := fun q hq => by rw [hGG]; exact grp_get _ _ _ _ _ _ (by omega) (by omega)
      rw [← hGG] at hG
      have h3 := ih (i + n') (pre ++ [G]) (by rw [hXX.out, hGG]; simp) (by omega) (by omega)
      rw [List.length_append, List.length_singleton] at h3
      have hGp := Aside0.mk hGG
      clear hGG
      have hend : Aside0 ((n' : Int) < m → G.f1 = T.getD i 0 + w) := ⟨fun c => by rw [htm, if_neg (by omega)]⟩
      have htm' := Aside0.mk htm
      clear htm
      have h4 := j3_ok F X pre.length (i + n') (n' : Int) (by omega) hx hxb (fun c1 c2 c3 => by
        rw [hG.out, hend.out c1] at c3
        exact hs2'.out c2 ⟨by omega, c3⟩) h3
      have hlast := (hs1'.out (i + n' - 1) (by omega) (by omega)).2
      have h5 := l1_all F X pre.length i n' G hG (by omega) (by omega) hx hxb hlen hget
        (fun q hq => by
          rw [htm'.out]
          split
          · have := rise_le F.up (i + q) (i + n' - 1 - (i + q)) (by omega)
            rw [show i + q + (i + n' - 1 - (i + q)) = i + n' - 1 by omega] at this
            exact Int.not_lt.2 this
          · exact Int.not_lt.2 (hs1'.out (i + q) (by omega) (by omega)).2)
        (fun q hq => by
          rw [htm'.out]
          have hq1 := rise_le F.up i q (by omega)
          split
          · omega
          · omega)
        hend h4 n' 0 (by omega)
      have b1 : (pre.length : Int) < (X.length : Int) := by omega
      have b2 : (0 : Int) ≤ (pre.length : Int) := Int.natCast_nonneg _
      have b3 : ¬ ((n' : Int) < 1) := by omega
      have b4 : decide ((n' : Int) > m) = false := decide_eq_false (by omega)
      have hlen' : ((G.f0.length : Nat) : Int) = (n' : Int) := by rw [hlen.out]
      refine EvR.step (fun k => ?_) (EvR.step (f := fun k => abaculuslaw38_BatchEach.j1 k T X (i : Int) (pre.length : Int) (n' : Int) false m w) (fun k => ?_) h5)
      · rw [abaculuslaw38_BatchEach.l0, if_pos b1, if_pos b2, hG.out, hlen', if_neg b3, b4]
      · rw [abaculuslaw38_BatchEach.j1, if_neg (by decide)]
        rfl
    · rw [gs, if_neg h, List.append_nil] at hX
      exact fin i pre hX (by omega)
end

theorem gs_len {T : List Int} {m w : Int} : ∀ f i, (gs T m w f i).length ≤ f := by
  intro f
  induction f with
  | zero => intro i; rw [gs]; simp
  | succ f ih =>
    intro i
    rw [gs]
    split
    · rw [List.length_cons]; have := ih (adv T m (T.getD i 0 + w) i (T.length - i) i); omega
    · simp
theorem BatchEach : abaculuslaw38_BatchEach.Pure := by
  intro l a1 a2 _ _ _ _ _
  obtain ⟨T, hR, hTl, hT⟩ := times_ok l 7 40 0 [] 0 (by omega) rfl (by omega) ⟨fun i h => by simp at h, fun i h => by simp at h, fun i h => by simp at h⟩ (by omega) (by omega)
  obtain ⟨K1, hK1⟩ := hT T (by
    have e : abaculushand_Pick.f 7 8 = some 7 := by decide +kernel
    rw [tl, e, Option.bind_some, if_neg (by decide)])
  obtain ⟨s, hs, hs0, hs1⟩ := pick_ok a1 5 (by omega) (by omega)
  obtain ⟨u, hu, hu0, hu1⟩ := pick_ok a2 9 (by omega) (by omega)
  have e1 : wrap64 (s + 1) = s + 1 := w64 _ (by omega)
  have F : Fit T (s + 1) u := ⟨hR.lo, fun i h => by have := hR.hi i h; omega, hR.up, by omega, by omega, by omega, by omega, by omega⟩
  obtain ⟨K2, hK2⟩ := form_ok F
  have hgl := @gs_len T (s + 1) u T.length 0
  obtain ⟨K3, hK3⟩ := each_ok F (gs T (s + 1) u T.length 0) (by omega) T.length 0 [] rfl (by omega) (by omega)
  refine ⟨max K1 (max K2 K3), ?_⟩
  have h1 : abaculuslaw38_times.f (max K1 (max K2 K3)) l 7 = some T := hK1 _ (by omega)
  have h2 : batch_Form.f (max K1 (max K2 K3)) T (s + 1) u = some (gs T (s + 1) u T.length 0, 0) := hK2 _ (by omega)
  have h3 : abaculuslaw38_BatchEach.l0 (max K1 (max K2 K3)) T (gs T (s + 1) u T.length 0) 0 0 (s + 1) u = some true := hK3 _ (by omega)
  unfold abaculuslaw38_BatchEach.f
  rw [h1, Option.bind_some, hs, Option.bind_some, hu, Option.bind_some, e1, h2, Option.bind_some, if_pos rfl]
  exact h3

end Go.Proofs.Ytoojcilbdeiodaa.Pure
