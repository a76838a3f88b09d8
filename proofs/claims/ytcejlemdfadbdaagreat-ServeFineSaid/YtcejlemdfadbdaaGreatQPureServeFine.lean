/- ServeFine over numbers and lists alone: it tells true. No conditions. -/
import Derived.Test.YtcejlemdfadbdaaGreatQServex5
namespace Go.Proofs.YtcejlemdfadbdaaGreat.Pure
open Go.RowKit Go.Proofs.YtcejlemdfadbdaaGreat.QServe Go.Proofs.YtcejlemdfadbdaaGreatW.PrintWords Go.Proofs.YtcejlemdfadbdaaGreatW.PrintLast
set_option linter.unusedVariables false
set_option linter.unusedSimpArgs false

theorem pick_ok (a m : Int) (h0 : 0 < m) (h1 : m ≤ 4294967296) : ∃ t, abaculushand_Pick.f a m = some t ∧ 0 ≤ t ∧ t < m := by
  have a1 := Int.tmod_lt_of_pos a h0
  have a2 := Int.lt_tmod_of_pos a h0
  unfold abaculushand_Pick.f
  rw [if_neg (by omega)]
  by_cases h : Int.tmod a m < 0
  · rw [if_pos h, show wrap64 (Int.tmod a m + m) = Int.tmod a m + m by unfold wrap64; omega]
    exact ⟨_, rfl, by omega, by omega⟩
  · rw [if_neg h]
    exact ⟨_, rfl, by omega, by omega⟩

/-! ### a cell -/
structure GoodCell (x : S36) : Prop where
  pos : x.f1.f0.f0 = false
  low : x.f1.f1.f0 = []
  num : x.f1.f0.f1.f0 = [] ∨ x.f1.f0.f1.f0 = [1] ∨ x.f1.f0.f1.f0 = [2]
def sg (x : S36) : Int := if x.f1.f0.f1.f0 = [] then 0 else 1
theorem bits1 (k : Nat) : nat_Nat_Bits.f k [1] = some 1 := by
  simp [nat_Nat_Bits.f, bits_Len64.f, rd, wrap64]
theorem bits2 (k : Nat) : nat_Nat_Bits.f k [2] = some 2 := by
  simp [nat_Nat_Bits.f, bits_Len64.f, rd, wrap64]
theorem bits0 (k : Nat) : nat_Nat_Bits.f k [] = some 0 := by
  simp [nat_Nat_Bits.f]
theorem sign_ok {x : S36} (h : GoodCell x) (k : Nat) : frac_Q_Sign.f k x.f1.f0.f0 x.f1.f0.f1.f0 x.f1.f1.f0 = some (sg x) := by
  unfold frac_Q_Sign.f whole_Int_Sign.f sg
  rw [h.pos]
  rcases h.num with e | e | e <;> rw [e]
  · simp [bits0]
  · simp [bits1]
  · simp [bits2]
def bad (x : S36) : Prop := x.f2 < 0 ∨ x.f2 > 12 ∨ (x.f2 ≠ 0 ∧ sg x ≠ 0) ∨ (x.f0 = true ∧ (x.f2 ≠ 0 ∨ sg x ≠ 0))
instance (x : S36) : Decidable (bad x) := by unfold bad; exact inferInstance

theorem wsucc (n : Nat) (h : n ≤ 1000000) : wrap64 ((n : Int) + 1) = ((n + 1 : Nat) : Int) := by unfold wrap64; omega

section
variable (kd a b c : Int) (nm : ByteArray) (xs : List S36)
theorem serve_step (m i : Nat) (hi : i < xs.length) (hl : xs.length ≤ 20) (hx : GoodCell (rd_T36 xs (i : Int))) :
    serve_Fine.l0 (m + 1) xs (xs.length : Int) (i : Int) kd a b c nm [] xs = if bad (rd_T36 xs (i : Int)) then some false else serve_Fine.l0 m xs (xs.length : Int) ((i + 1 : Nat) : Int) kd a b c nm [] xs := by
  rw [serve_Fine.l0, if_pos (show (i : Int) < (xs.length : Int) by omega), if_pos (show 0 ≤ (i : Int) by omega), if_pos (show (i : Int) < (xs.length : Int) by omega), wsucc i (by omega)]
  simp only [sign_ok hx, Option.bind_some]
  generalize rd_T36 xs (i : Int) = x
  by_cases h1 : x.f2 < 0
  · rw [if_pos h1, if_pos (.inl h1)]
  rw [if_neg h1]
  by_cases h2 : x.f2 > 12
  · rw [if_pos h2, if_pos (.inr (.inl h2))]
  rw [if_neg h2]
  by_cases h3 : x.f2 = 0
  · rw [if_pos h3]
    by_cases h4 : x.f0 = true
    · rw [if_pos h4]
      by_cases h5 : sg x = 0
      · rw [if_pos h5, if_neg (by unfold bad; omega)]
      · rw [if_neg h5, if_pos (.inr (.inr (.inr ⟨h4, .inr h5⟩)))]
    · rw [if_neg h4, if_neg (by unfold bad; rintro (h | h | ⟨h, _⟩ | ⟨h, _⟩) <;> first | exact h1 h | exact h2 h | exact h h3 | exact h4 h)]
  · rw [if_neg h3]
    by_cases h5 : sg x = 0
    · rw [if_pos h5]
      by_cases h4 : x.f0 = true
      · rw [if_pos h4, if_pos (.inr (.inr (.inr ⟨h4, .inl h3⟩)))]
      · rw [if_neg h4, if_neg (by unfold bad; rintro (h | h | ⟨_, h⟩ | ⟨h, _⟩) <;> first | exact h1 h | exact h2 h | exact h h5 | exact h4 h)]
    · rw [if_neg h5, if_pos (.inr (.inr (.inl ⟨h3, h5⟩)))]
theorem shelf_step (m i : Nat) (hi : i < xs.length) (hl : xs.length ≤ 20) (hx : GoodCell (rd_T36 xs (i : Int))) :
    abaculusshelf_Fine.l0 (m + 1) (i : Int) kd a b c nm [] xs = if bad (rd_T36 xs (i : Int)) then some false else abaculusshelf_Fine.l0 m ((i + 1 : Nat) : Int) kd a b c nm [] xs := by
  rw [abaculusshelf_Fine.l0, if_pos (show (i : Int) < (xs.length : Int) by omega), if_pos (show 0 ≤ (i : Int) by omega), wsucc i (by omega)]
  simp only [sign_ok hx, Option.bind_some]
  generalize rd_T36 xs (i : Int) = x
  by_cases h1 : x.f2 < 0
  · rw [if_pos h1, if_pos (.inl h1)]
  rw [if_neg h1]
  by_cases h2 : x.f2 > 12
  · rw [if_pos h2, if_pos (.inr (.inl h2))]
  rw [if_neg h2]
  by_cases h5 : sg x = 0
  · rw [if_pos h5]
    by_cases h4 : x.f0 = true
    · rw [if_pos h4]
      by_cases h3 : x.f2 = 0
      · rw [if_pos h3, if_neg (by unfold bad; omega)]
      · rw [if_neg h3, if_pos (.inr (.inr (.inr ⟨h4, .inl h3⟩)))]
    · rw [if_neg h4, if_neg (by unfold bad; rintro (h | h | ⟨_, h⟩ | ⟨h, _⟩) <;> first | exact h1 h | exact h2 h | exact h h5 | exact h4 h)]
  · rw [if_neg h5]
    by_cases h3 : x.f2 = 0
    · rw [if_pos h3]
      by_cases h4 : x.f0 = true
      · rw [if_pos h4, if_pos (.inr (.inr (.inr ⟨h4, .inr h5⟩)))]
      · rw [if_neg h4, if_neg (by unfold bad; rintro (h | h | ⟨h, _⟩ | ⟨h, _⟩) <;> first | exact h1 h | exact h2 h | exact h h3 | exact h4 h)]
    · rw [if_neg h3, if_pos (.inr (.inr (.inl ⟨h3, h5⟩)))]

theorem rd_good (hg : ∀ x ∈ xs, GoodCell x) (i : Nat) (hi : i < xs.length) : GoodCell (rd_T36 xs (i : Int)) := by
  have e : rd_T36 xs (i : Int) = xs[i] := by simp [rd_T36, hi]
  rw [e]
  exact hg _ (List.getElem_mem hi)
theorem loops (hg : ∀ x ∈ xs, GoodCell x) (hl : xs.length ≤ 20) : ∀ d i : Nat, i + d = xs.length → ∃ r, (∀ k, d < k → serve_Fine.l0 k xs (xs.length : Int) (i : Int) kd a b c nm [] xs = some r) ∧ (∀ k, d < k → abaculusshelf_Fine.l0 k (i : Int) kd a b c nm [] xs = some r) := by
  intro d
  induction d with
  | zero =>
    intro i hi
    refine ⟨decide (kd = 4) || ((xs.length : Int) == 0), fun k hk => ?_, fun k hk => ?_⟩
    · obtain ⟨m, rfl⟩ : ∃ m, k = m + 1 := ⟨k - 1, by omega⟩
      rw [serve_Fine.l0, if_neg (show ¬ (i : Int) < (xs.length : Int) by omega), if_pos (show (([] : List Int).length : Int) = 0 from rfl)]
      by_cases h4 : kd = 4
      · subst h4; simp
      · simp [h4]
    · obtain ⟨m, rfl⟩ : ∃ m, k = m + 1 := ⟨k - 1, by omega⟩
      rw [abaculusshelf_Fine.l0, if_neg (show ¬ (i : Int) < (xs.length : Int) by omega), if_pos (show (([] : List Int).length : Int) = 0 from rfl)]
      by_cases hn : (xs.length : Int) = 0
      · rw [if_pos hn]; simp [hn]
      · rw [if_neg hn]
        have hn' : ((xs.length : Int) == 0) = false := by simpa using hn
        rw [hn']
        by_cases h4 : kd = 4 <;> simp [h4]
  | succ d ih =>
    intro i hi
    have hx := rd_good xs hg i (by omega)
    by_cases hb : bad (rd_T36 xs (i : Int))
    · refine ⟨false, fun k hk => ?_, fun k hk => ?_⟩ <;> obtain ⟨m, rfl⟩ : ∃ m, k = m + 1 := ⟨k - 1, by omega⟩
      · rw [serve_step kd a b c nm xs m i (by omega) hl hx, if_pos hb]
      · rw [shelf_step kd a b c nm xs m i (by omega) hl hx, if_pos hb]
    · obtain ⟨r, h1, h2⟩ := ih (i + 1) (by omega)
      refine ⟨r, fun k hk => ?_, fun k hk => ?_⟩ <;> obtain ⟨m, rfl⟩ : ∃ m, k = m + 1 := ⟨k - 1, by omega⟩
      · rw [serve_step kd a b c nm xs m i (by omega) hl hx, if_neg hb]; exact h1 m (by omega)
      · rw [shelf_step kd a b c nm xs m i (by omega) hl hx, if_neg hb]; exact h2 m (by omega)

theorem fine_both (hg : ∀ x ∈ xs, GoodCell x) : ∃ r, ∀ k, 23 ≤ k → serve_Fine.f k kd a b c nm [] xs = some r ∧ abaculusshelf_Fine.f k kd a b c nm [] xs = some r := by
  have jt : ∀ k, 23 ≤ k → serve_Fine.j0 k true kd a b c nm [] xs = some false ∧ abaculusshelf_Fine.j0 k true kd a b c nm [] xs = some false := fun k hk => by
    obtain ⟨m, rfl⟩ : ∃ m, k = m + 1 := ⟨k - 1, by omega⟩
    rw [serve_Fine.j0, abaculusshelf_Fine.j0]
    exact ⟨rfl, rfl⟩
  have held_no : ∀ n : Int, ¬ (0 ≤ n ∧ n ≤ 1073741824) → serve_held.f n = some false := fun n hn => by
    unfold serve_held.f
    by_cases h : n ≥ 0
    · rw [if_pos h, decide_eq_false (by omega)]
    · rw [if_neg h]
  have held_yes : ∀ n : Int, 0 ≤ n ∧ n ≤ 1073741824 → serve_held.f n = some true := fun n hn => by
    unfold serve_held.f
    rw [if_pos hn.1, decide_eq_true hn.2]
  unfold serve_Fine.f abaculusshelf_Fine.f
  by_cases h1 : kd < 1
  · simp only [if_pos h1]; exact ⟨false, jt⟩
  simp only [if_neg h1]
  by_cases h2 : kd > 6
  · simp only [if_pos h2]; exact ⟨false, jt⟩
  simp only [if_neg h2]
  by_cases ha : 0 ≤ a ∧ a ≤ 1073741824
  · simp only [held_yes a ha, Option.bind_some, if_true, if_neg (show ¬ a < 0 by omega), if_neg (show ¬ a > 1073741824 by omega)]
    by_cases hb : 0 ≤ b ∧ b ≤ 1073741824
    · simp only [held_yes b hb, Option.bind_some, if_true, if_neg (show ¬ b < 0 by omega), if_neg (show ¬ b > 1073741824 by omega)]
      by_cases hc : 0 ≤ c ∧ c ≤ 1073741824
      · simp only [held_yes c hc, Option.bind_some, if_true, if_neg (show ¬ c < 0 by omega), if_neg (show ¬ c > 1073741824 by omega)]
        by_cases hn : (nm.size : Int) > 20
        · simp only [if_pos hn]; exact ⟨false, jt⟩
        simp only [if_neg hn]
        by_cases hx : (xs.length : Int) > 20
        · simp only [decide_eq_true hx]; exact ⟨false, jt⟩
        simp only [decide_eq_false hx]
        obtain ⟨r, r1, r2⟩ := loops kd a b c nm xs hg (by omega) xs.length 0 (by omega)
        refine ⟨r, fun k hk => ?_⟩
        obtain ⟨m, rfl⟩ : ∃ m, k = m + 1 := ⟨k - 1, by omega⟩
        rw [serve_Fine.j0, abaculusshelf_Fine.j0, if_neg (by decide), if_neg (by decide)]
        exact ⟨r1 m (by omega), r2 m (by omega)⟩
      · simp only [held_no c hc, Option.bind_some, Bool.false_eq_true, if_false]
        by_cases q : c < 0
        · simp only [if_pos q]; exact ⟨false, jt⟩
        · simp only [if_neg q, if_pos (show c > 1073741824 by omega)]; exact ⟨false, jt⟩
    · simp only [held_no b hb, Option.bind_some, Bool.false_eq_true, if_false]
      by_cases q : b < 0
      · simp only [if_pos q]; exact ⟨false, jt⟩
      · simp only [if_neg q, if_pos (show b > 1073741824 by omega)]; exact ⟨false, jt⟩
  · simp only [held_no a ha, Option.bind_some, Bool.false_eq_true, if_false]
    by_cases q : a < 0
    · simp only [if_pos q]; exact ⟨false, jt⟩
    · simp only [if_neg q, if_pos (show a > 1073741824 by omega)]; exact ⟨false, jt⟩
end

theorem tail_ok (x0 x1 x2 x3 kd a b c : Int) (nm : ByteArray) (xs : List S36) (hg : ∀ x ∈ xs, GoodCell x) : ∀ k, 24 ≤ k → abaculuslaw40_ServeFine.j1 k x0 x1 x2 x3 kd a b c nm xs = some true := by
  intro k hk
  obtain ⟨m, rfl⟩ : ∃ m, k = m + 1 := ⟨k - 1, by omega⟩
  obtain ⟨t0, e0, _⟩ := pick_ok x0 8 (by decide) (by decide)
  obtain ⟨t1, e1, _⟩ := pick_ok x1 2147483648 (by decide) (by decide)
  obtain ⟨t2, e2, _⟩ := pick_ok x2 2147483648 (by decide) (by decide)
  obtain ⟨t3, e3, _⟩ := pick_ok x3 2147483648 (by decide) (by decide)
  obtain ⟨r, hr⟩ := fine_both kd a b c nm xs hg
  obtain ⟨s, hs⟩ := fine_both t0 t1 t2 t3 nm xs hg
  rw [abaculuslaw40_ServeFine.j1]
  simp only [e0, e1, e2, e3, Option.bind_some, abaculuslaw40_known.f, if_true, (hr m (by omega)).1, (hr m (by omega)).2, (hs m (by omega)).1, (hs m (by omega)).2, beq_self_eq_true]

theorem frac_ok (t : Int) (h0 : 0 ≤ t) (h1 : t < 3) : ∃ l : List Int, (∀ k, frac_Of.f k t = some (false, l, [])) ∧ (l = [] ∨ l = [1] ∨ l = [2]) := by
  by_cases e0 : t = 0
  · exact ⟨[], fun k => by unfold frac_Of.f; rw [if_pos e0], .inl rfl⟩
  by_cases e1 : t = 1
  · exact ⟨[1], fun k => by unfold frac_Of.f; rw [if_neg e0, if_pos e1], .inr (.inl rfl)⟩
  have e2 : t = 2 := by omega
  exact ⟨[2], fun k => by unfold frac_Of.f; rw [if_neg e0, if_neg e1, if_pos e2], .inr (.inr rfl)⟩

theorem build_ok (x0 x1 x2 x3 x5 x6 x7 : Int) (x8 : Bool) (kd a b c : Int) (nm : ByteArray) (t q : Int) (ht : abaculushand_Pick.f x7 24 = some t) (htb : t < 24) (hq : abaculushand_Pick.f x6 3 = some q) (l : List Int) (hf : ∀ k, frac_Of.f k q = some (false, l, [])) (hl : l = [] ∨ l = [1] ∨ l = [2]) :
    ∀ d i : Nat, (i : Int) + d = t ∨ (d = 0 ∧ t ≤ i) → ∀ xs : List S36, (∀ x ∈ xs, GoodCell x) → xs.length = i → i ≤ 24 → ∀ k, d + 25 ≤ k → abaculuslaw40_ServeFine.l0 k x0 x1 x2 x3 x5 x6 x7 x8 (i : Int) kd a b c nm xs = some true := by
  intro d
  induction d with
  | zero =>
    intro i hi xs hg hlen hi2 k hk
    obtain ⟨m, rfl⟩ : ∃ m, k = m + 1 := ⟨k - 1, by omega⟩
    rw [abaculuslaw40_ServeFine.l0]
    simp only [ht, Option.bind_some]
    rw [if_neg (by omega)]
    exact tail_ok _ _ _ _ _ _ _ _ _ _ hg m (by omega)
  | succ d ih =>
    intro i hi xs hg hlen hi2 k hk
    obtain ⟨m, rfl⟩ : ∃ m, k = m + 1 := ⟨k - 1, by omega⟩
    rw [abaculuslaw40_ServeFine.l0]
    simp only [ht, hq, hf, Option.bind_some]
    rw [if_pos (by omega), if_pos (by omega), wsucc i (by omega)]
    refine ih (i + 1) (by omega) _ (fun x hx => ?_) (by simp [hlen]) (by omega) m (by omega)
    rcases List.mem_append.1 hx with hx | hx
    · exact hg x hx
    · rw [List.mem_singleton.1 hx]
      exact ⟨rfl, rfl, hl⟩

theorem ServeFine : abaculuslaw40_ServeFine.Pure := by
  intro a0 a1 a2 a3 a4 a5 a6 a7 a8 _ _ _ _ _ _ _ _
  obtain ⟨t, ht, ht0, ht1⟩ := pick_ok a7 24 (by decide) (by decide)
  obtain ⟨q, hq, hq0, hq1⟩ := pick_ok a6 3 (by decide) (by decide)
  obtain ⟨l, hf, hl⟩ := frac_ok q hq0 hq1
  refine ⟨60, ?_⟩
  unfold abaculuslaw40_ServeFine.f
  by_cases h : a0 = 4
  · rw [if_pos h]
    exact build_ok a0 a1 a2 a3 a5 a6 a7 a8 a0 a1 a2 a3 a4 t q ht ht1 hq l hf hl t.toNat 0 (by omega) [] (fun x hx => by cases hx) rfl (by omega) 60 (by omega)
  · rw [if_neg h]
    exact tail_ok _ _ _ _ _ _ _ _ _ _ (fun x hx => by cases hx) 60 (by omega)
end Go.Proofs.YtcejlemdfadbdaaGreat.Pure
