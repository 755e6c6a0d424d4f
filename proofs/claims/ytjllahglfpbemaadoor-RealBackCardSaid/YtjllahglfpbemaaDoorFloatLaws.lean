/- How floats' words compare, doubled, halved and negated: plain laws. -/
import Derived.Test.YtjllahglfpbemaaDoorDouble
import Derived.Test.YtjllahglfpbemaaDoorFloat
namespace Go.Proofs.YtjllahglfpbemaaDoor.Fl
open Go Ieee Go.Proofs.YtjllahglfpbemaaDoor.Dbl

def val (r : Nat) : Nat := V (magR r) (plR r)
theorem val_eq (r : Nat) : val r = magR r * 2 ^ (if r < 4503599627370496 then 0 else r / 4503599627370496 - 1) := by
  unfold val V plR
  split
  · rfl
  · congr 2; omega
theorem ord_rung {r s : Nat} (hr : r < 9218868437227405312) (hs : s < 9218868437227405312) : ord r s = some (compare (val r) (val s)) := by
  have := order_W (magR r) (magR s) (plR r) (plR s) (magR_lt r) (magR_lt s) (plR_ge r) (plR_le hr) (plR_ge s) (plR_le hs)
  rwa [W_rung r hr, W_rung s hs] at this
theorem val_succ (r : Nat) : val r < val (r + 1) := by
  rw [val_eq, val_eq]
  unfold magR
  by_cases h : r + 1 < 4503599627370496
  · rw [if_pos h, if_pos h, if_pos (by omega), if_pos (by omega)]; omega
  · by_cases h2 : r < 4503599627370496
    · have e : (r + 1) / 4503599627370496 - 1 = 0 := by omega
      rw [if_pos h2, if_pos h2, if_neg h, if_neg h, e]; omega
    · rw [if_neg h2, if_neg h2, if_neg h, if_neg h]
      obtain ⟨q, hq⟩ : ∃ q, q = r / 4503599627370496 - 1 := ⟨_, rfl⟩
      have hpos : 0 < 2 ^ q := Nat.two_pow_pos q
      by_cases h3 : (r + 1) % 4503599627370496 = 0
      · have e : (r + 1) / 4503599627370496 - 1 = q + 1 := by omega
        have e2 : r % 4503599627370496 = 4503599627370495 := by omega
        rw [← hq, e, h3, e2, Nat.pow_succ]
        omega
      · have e : (r + 1) / 4503599627370496 - 1 = q := by omega
        have e2 : (r + 1) % 4503599627370496 = r % 4503599627370496 + 1 := by omega
        rw [← hq, e, e2]
        exact (Nat.mul_lt_mul_right hpos).2 (by omega)
theorem val_lt {r s : Nat} (h : r < s) : val r < val s := by
  induction s with
  | zero => omega
  | succ s ih =>
    rcases Nat.lt_succ_iff_lt_or_eq.1 h with h | h
    · exact Nat.lt_trans (ih h) (val_succ s)
    · subst h; exact val_succ r
theorem eq_rung {r s : Nat} (hr : r < 9218868437227405312) (hs : s < 9218868437227405312) : eqF r s = decide (r = s) := by
  unfold eqF
  rw [ord_rung hr hs, cmp_eq]
  congr 1
  apply propext
  constructor
  · intro h
    rcases Nat.lt_trichotomy r s with c | c | c
    · have := val_lt c; omega
    · exact c
    · have := val_lt c; omega
  · intro h; rw [h]
theorem lt_rung {r s : Nat} (hr : r < 9218868437227405312) (hs : s < 9218868437227405312) : ltF r s = decide (r < s) := by
  unfold ltF
  rw [ord_rung hr hs, cmp_lt]
  congr 1
  apply propext
  constructor
  · intro h
    rcases Nat.lt_trichotomy r s with c | c | c
    · exact c
    · rw [c] at h; omega
    · have := val_lt c; omega
  · intro h; exact val_lt h
theorem read_inf : double.read 9218868437227405312 = .infinity false := by decide +kernel
theorem read_number {r : Nat} (hr : r < 9218868437227405312) : ∃ m p, double.read r = .number false m p ∧ (m = 0 ↔ r = 0) := by
  unfold Format.read
  rw [signW, binade, infR, least]
  have s0 : r / 9223372036854775808 = 0 := by omega
  have s1 : r % 9223372036854775808 = r := by omega
  have b0 : ((0 : Nat) % 2 == 1) = false := rfl
  simp only [s0, s1, b0]
  by_cases hs : r < 4503599627370496
  · rw [if_pos hs]; exact ⟨_, _, rfl, Iff.rfl⟩
  · rw [if_neg hs, if_pos hr]; exact ⟨_, _, rfl, by omega⟩
theorem read_nan {r : Nat} (hr : 9218868437227405312 < r) (h : r < 9223372036854775808) (s : Bool) : ∃ f t, double.read (double.word s r) = .nan f t := by
  unfold Format.read Format.word
  rw [signW, binade, infR]
  cases s
  · simp only [Bool.false_eq_true, if_false]
    rw [show r % 9223372036854775808 = r from by omega, if_neg (by omega), if_neg (by omega), if_neg (by omega)]
    exact ⟨_, _, rfl⟩
  · simp only [if_true]
    rw [show (9223372036854775808 + r) % 9223372036854775808 = r from by omega, if_neg (by omega), if_neg (by omega), if_neg (by omega)]
    exact ⟨_, _, rfl⟩
theorem read_neg {r : Nat} (h : r < 9223372036854775808) : double.read (9223372036854775808 + r) = (double.read r).opposite := by
  unfold Format.read
  rw [signW, binade, infR, least]
  have s0 : r / 9223372036854775808 = 0 := by omega
  have s1 : r % 9223372036854775808 = r := by omega
  have t0 : (9223372036854775808 + r) / 9223372036854775808 = 1 := by omega
  have t1 : (9223372036854775808 + r) % 9223372036854775808 = r := by omega
  simp only [s0, s1, t0, t1]
  split
  · rfl
  · split
    · rfl
    · split <;> rfl
theorem self_nan {b : Nat} (h : ∃ f t, double.read b = .nan f t) : eqF b b = false := by
  obtain ⟨f, t, h⟩ := h
  show (double.order b b == some .eq) = false
  unfold Format.order
  rw [h]; rfl
theorem self_eq {r : Nat} (h : r ≤ 9218868437227405312) (s : Bool) : eqF (double.word s r) (double.word s r) = true := by
  show (double.order _ _ == some .eq) = true
  have hd : ∃ d, double.read (double.word s r) = d ∧ d.order d = some .eq := by
    refine ⟨_, rfl, ?_⟩
    have key : ∀ d : Datum, (∀ f t, d ≠ .nan f t) → d.order d = some .eq := by
      intro d hd
      cases d with
      | nan f t => exact absurd rfl (hd f t)
      | infinity s => exact congrArg some (Std.ReflCmp.compare_self (cmp := compare) (a := s.toNat))
      | number s m i => exact congrArg some (Std.ReflCmp.compare_self (cmp := compare) (a := signed s m (i - min i i).toNat))
    apply key
    intro f t hn
    have hp : ∀ d : Datum, d.opposite = .nan f t → ∃ f', d = .nan f' t := by
      intro d hd; cases d <;> simp_all [Datum.opposite]
    rcases Nat.lt_or_eq_of_le h with hl | he
    · obtain ⟨m, p, hm, -⟩ := read_number hl
      cases s
      · simp only [Format.word, Bool.false_eq_true, if_false] at hn; rw [hm] at hn; cases hn
      · simp only [Format.word, if_true, signW] at hn; rw [read_neg (by omega), hm] at hn; cases hn
    · subst he
      cases s
      · simp only [Format.word, Bool.false_eq_true, if_false] at hn; rw [read_inf] at hn; cases hn
      · simp only [Format.word, if_true, signW] at hn; rw [read_neg (by omega), read_inf] at hn; cases hn
  obtain ⟨d, h1, h2⟩ := hd
  unfold Format.order
  rw [h1, h2]; rfl
/-- Where a word isn't a number. -/
theorem nan_iff {b : Nat} (h : b < 18446744073709551616) : eqF b b = decide (b % 9223372036854775808 ≤ 9218868437227405312) := by
  have hw : b = double.word (decide (9223372036854775808 ≤ b)) (b % 9223372036854775808) := by
    unfold Format.word
    rw [signW]
    by_cases hs : 9223372036854775808 ≤ b
    · rw [decide_eq_true hs, if_pos rfl]; omega
    · rw [decide_eq_false hs, if_neg (by decide)]; omega
  by_cases hn : b % 9223372036854775808 ≤ 9218868437227405312
  · rw [decide_eq_true hn]
    have := self_eq hn (decide (9223372036854775808 ≤ b))
    rwa [← hw] at this
  · rw [decide_eq_false hn]
    have := read_nan (r := b % 9223372036854775808) (by omega) (by omega) (decide (9223372036854775808 ≤ b))
    rw [← hw] at this
    exact self_nan this
theorem opp_eq (d e : Datum) (o : Ordering) : d.opposite.order e.opposite = some o → o = .eq → d.order e = some .eq := by
  intro h ho
  subst ho
  cases d with
  | nan _ _ => cases e <;> cases h
  | infinity s =>
    cases e with
    | nan _ _ => cases h
    | infinity t => cases s <;> cases t <;> first | rfl | (exfalso; revert h; decide)
    | number t n j => cases s <;> (exfalso; revert h; simp [Datum.opposite, Datum.order])
  | number s m i =>
    cases e with
    | nan _ _ => cases h
    | infinity t => cases t <;> (exfalso; revert h; simp [Datum.opposite, Datum.order])
    | number t n j =>
      simp only [Datum.opposite, Datum.order, Option.some.injEq] at h ⊢
      have h' : compare (signed (!s) m (i - min i j).toNat) (signed (!t) n (j - min i j).toNat) = .eq := h
      have := Std.LawfulEqCmp.eq_of_compare (cmp := compare) h'
      have hs : ∀ (s : Bool) (m u : Nat), signed (!s) m u = - signed s m u := by intro s m u; cases s <;> simp [signed]
      rw [hs, hs] at this
      have : signed s m (i - min i j).toNat = signed t n (j - min i j).toNat := by omega
      rw [this]
      exact Std.ReflCmp.compare_self
theorem eq_words {a b : Nat} (ha : a < 18446744073709551616) (hb : b < 18446744073709551616) (na : eqF a a = true) (nb : eqF b b = true)
    (hs : decide (9223372036854775808 ≤ a) = decide (9223372036854775808 ≤ b)) (h : eqF a b = true) : a = b := by
  rw [nan_iff ha, decide_eq_true_eq] at na
  rw [nan_iff hb, decide_eq_true_eq] at nb
  have plain : ∀ r s : Nat, r ≤ 9218868437227405312 → s ≤ 9218868437227405312 → eqF r s = true → r = s := by
    intro r s hr hs h
    rcases Nat.lt_or_eq_of_le hr with hr | rfl
    · rcases Nat.lt_or_eq_of_le hs with hs | rfl
      · rw [eq_rung hr hs] at h; exact of_decide_eq_true h
      · obtain ⟨m, p, hm, -⟩ := read_number hr
        have : (double.order r 9218868437227405312 == some .eq) = true := h
        unfold Format.order at this; rw [hm, read_inf] at this; cases this
    · rcases Nat.lt_or_eq_of_le hs with hs | rfl
      · obtain ⟨m, p, hm, -⟩ := read_number hs
        have : (double.order 9218868437227405312 s == some .eq) = true := h
        unfold Format.order at this; rw [hm, read_inf] at this; cases this
      · rfl
  by_cases hc : 9223372036854775808 ≤ a
  · have hd : 9223372036854775808 ≤ b := by rw [decide_eq_true hc] at hs; exact of_decide_eq_true hs.symm
    obtain ⟨r, hr⟩ : ∃ r, a = 9223372036854775808 + r := ⟨a - 9223372036854775808, by omega⟩
    obtain ⟨s, hs'⟩ : ∃ s, b = 9223372036854775808 + s := ⟨b - 9223372036854775808, by omega⟩
    subst hr hs'
    have hr' : r ≤ 9218868437227405312 := by omega
    have hs'' : s ≤ 9218868437227405312 := by omega
    have ho : double.order (9223372036854775808 + r) (9223372036854775808 + s) = some .eq := eq_of_beq h
    unfold Format.order at ho
    rw [read_neg (by omega), read_neg (by omega)] at ho
    have := opp_eq _ _ _ ho rfl
    have e : eqF r s = true := by
      show (double.order r s == some .eq) = true
      unfold Format.order; rw [this]; rfl
    rw [plain r s hr' hs'' e]
  · have hd : ¬ 9223372036854775808 ≤ b := by rw [decide_eq_false hc] at hs; exact of_decide_eq_false hs.symm
    exact plain a b (by omega) (by omega) h
/-- Is a float's sign -? What the code asks, one by one. -/
theorem minus_facts {b : Nat} (hb : b < 18446744073709551616) (nb : eqF b b = true) :
    (b < 9223372036854775808 ∧ ltF b 0 = false ∧ (b = 0 ∨ eqF b 0 = false)) ∨ (9223372036854775808 ≤ b ∧ (ltF b 0 = true ∨ b = 9223372036854775808)) := by
  rw [nan_iff hb, decide_eq_true_eq] at nb
  by_cases hc : 9223372036854775808 ≤ b
  · right
    refine ⟨hc, ?_⟩
    obtain ⟨r, hr⟩ : ∃ r, b = 9223372036854775808 + r := ⟨b - 9223372036854775808, by omega⟩
    subst hr
    by_cases h0 : r = 0
    · right; omega
    left
    show (double.order (9223372036854775808 + r) 0 == some .lt) = true
    unfold Format.order
    rw [read_neg (by omega), read_zero]
    by_cases hi : r = 9218868437227405312
    · subst hi; rw [read_inf]; rfl
    · obtain ⟨m, p, hm, hz⟩ := read_number (r := r) (by omega)
      rw [hm]
      simp only [Datum.opposite, Datum.order, Bool.not_false]
      have hm0 : 0 < m := by omega
      have h1 : signed true m (p - min p (-1074)).toNat < signed false 0 (-1074 - min p (-1074)).toNat := by
        have : 0 < m <<< (p - min p (-1074)).toNat := by rw [Nat.shiftLeft_eq]; exact Nat.mul_pos hm0 (Nat.two_pow_pos _)
        show -((m <<< (p - min p (-1074)).toNat : Nat) : Int) < ((0 <<< (-1074 - min p (-1074)).toNat : Nat) : Int)
        rw [Nat.zero_shiftLeft]
        omega
      simp only [compare, compareOfLessAndEq]
      rw [if_pos h1]
      rfl
  · left
    refine ⟨by omega, ?_, ?_⟩
    · by_cases hi : b = 9218868437227405312
      · subst hi; decide +kernel
      · rw [lt_rung (by omega) (by omega)]; exact decide_eq_false (by omega)
    · by_cases h0 : b = 0
      · exact .inl h0
      · right
        by_cases hi : b = 9218868437227405312
        · subst hi; decide +kernel
        · rw [eq_rung (by omega) (by omega)]; exact decide_eq_false (by omega)
theorem xor_top (x : Nat) (h : x < 2 ^ 63) : x ^^^ 2 ^ 63 = 2 ^ 63 + x := by
  apply Nat.eq_of_testBit_eq
  intro i
  rw [Nat.testBit_xor]
  rcases Nat.lt_trichotomy i 63 with c | c | c
  · rw [Nat.testBit_two_pow_add_gt c, Nat.testBit_two_pow_of_ne (by omega), Bool.xor_false]
  · subst c
    rw [Nat.testBit_two_pow_add_eq, Nat.testBit_two_pow_self, Bool.xor_true]
  · rw [Nat.testBit_two_pow_of_ne (by omega), Bool.xor_false]
    have h1 : (2 : Nat) ^ 64 ≤ 2 ^ i := Nat.pow_le_pow_right (by decide) (by omega)
    rw [Nat.testBit_lt_two_pow (by omega), Nat.testBit_lt_two_pow (by omega)]
theorem neg_word {b : Nat} (hb : b < 18446744073709551616) : b ^^^ 2 ^ 63 = if b < 9223372036854775808 then 9223372036854775808 + b else b - 9223372036854775808 := by
  by_cases h : b < 9223372036854775808
  · rw [if_pos h]; exact xor_top b h
  · rw [if_neg h]
    obtain ⟨r, rfl⟩ : ∃ r, b = 2 ^ 63 + r := ⟨b - 2 ^ 63, by omega⟩
    rw [← xor_top r (by omega), Nat.xor_assoc, Nat.xor_self, Nat.xor_zero, xor_top r (by omega)]
    omega
end Go.Proofs.YtjllahglfpbemaaDoor.Fl
