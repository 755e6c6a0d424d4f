/- Texts of this claim, put together (wip/pack.py): Double, FloatLaws, RealAwake5. -/
import Derived.Laws.FloatArith
import Derived.Test.YtppmcbkcohiodaaK3
import Derived.Test.YtppmcbkcohiodaaK4
namespace Go.Proofs.Ytppmcbkcohiodaa.Dbl
open Ieee
theorem least : double.leastPlace = -1074 := by decide
theorem binade : double.binade = 4503599627370496 := by decide
theorem infR : double.infRung = 9218868437227405312 := by decide
theorem signW : double.signWeight = 9223372036854775808 := by decide
theorem log2_shift (n k : Nat) (h : 0 < n) : (n <<< k).log2 = n.log2 + k := by
  have a := Nat.log2_self_le (n := n) (by omega)
  have b := Nat.lt_log2_self (n := n)
  have hp : 0 < 2 ^ k := Nat.two_pow_pos k
  rw [Nat.shiftLeft_eq, Nat.log2_eq_iff (Nat.ne_of_gt (Nat.mul_pos h hp))]
  constructor
  · rw [Nat.pow_add]; exact Nat.mul_le_mul_right _ a
  · rw [show n.log2 + k + 1 = (n.log2 + 1) + k from by omega, Nat.pow_add]; exact (Nat.mul_lt_mul_right hp).2 b
theorem cut_zero (n : Nat) (s : Bool) : Toward.even.cut s n 0 = n := by
  simp [Toward.cut, Nat.mod_one]
theorem cut_exact (n k : Nat) (w : Toward) (s : Bool) (h : 0 < n) : w.cut s (n <<< k) k = n := by
  unfold Toward.cut
  have e : min k ((n <<< k).log2 + 2) = k := by rw [log2_shift n k h]; omega
  rw [e]
  have g : 1 <<< k = 2 ^ k := by rw [Nat.shiftLeft_eq, Nat.one_mul]
  have hp : 0 < 2 ^ k := Nat.two_pow_pos k
  simp only [g, Nat.shiftLeft_eq, Nat.mul_div_cancel _ hp, Nat.mul_mod_left]
  cases w <;> simp <;> omega
/-- The place of the last digit that is kept. -/
def lastP (n : Nat) (e : Int) : Int := max (e + n.log2 - 52) (-1074)
def gapN (n : Nat) (e : Int) : Nat := (e - lastP n e).toNat
/-- The word of n * 2 ^ e (n < 2 ^ 53, e not below -1074). -/
def W (n : Nat) (e : Int) : Nat := double.nearest false n e
theorem log_le {n : Nat} (h : n < 9007199254740992) : n.log2 ≤ 52 := by
  by_cases h0 : n = 0
  · subst h0; simp
  · have := (Nat.log2_lt h0 (k := 53)).2 (by omega); omega
theorem last_le {n : Nat} {e : Int} (h : n < 9007199254740992) (he : -1074 ≤ e) : lastP n e ≤ e := by
  unfold lastP; have := log_le h; omega
theorem nearest_shift (n k : Nat) (e : Int) (s : Bool) (h0 : 0 < n) (h : n < 9007199254740992) (he : -1074 ≤ e) :
    double.nearest s (n <<< k) (e - k) = double.word s (min ((lastP n e + 1074).toNat * 4503599627370496 + n <<< gapN n e) 9218868437227405312) := by
  have hl := last_le h he
  have hne : n <<< k ≠ 0 := by rw [Nat.shiftLeft_eq]; exact Nat.ne_of_gt (Nat.mul_pos h0 (Nat.two_pow_pos k))
  unfold Format.nearest
  rw [if_neg hne, least, binade, infR, log2_shift n k h0]
  have e1 : max (e - (k : Int) + ((n.log2 + k : Nat) : Int) - ((double.fractionBits : Nat) : Int)) (-1074) = lastP n e := by
    unfold lastP; simp only [show double.fractionBits = 52 from rfl]; omega
  have e2 : lastP n e - -1074 = lastP n e + 1074 := by omega
  simp only [e1, e2]
  have key : Toward.even.cut s (n <<< k <<< (e - (k : Int) - lastP n e).toNat) (lastP n e - (e - (k : Int))).toNat = n <<< gapN n e := by
    unfold gapN
    by_cases hk : (k : Int) ≤ e - lastP n e
    · have z : (lastP n e - (e - (k : Int))).toNat = 0 := by omega
      rw [z, cut_zero, ← Nat.shiftLeft_add]
      congr 1
      omega
    · have z : (e - (k : Int) - lastP n e).toNat = 0 := by omega
      rw [z, Nat.shiftLeft_zero]
      obtain ⟨d, hd⟩ : ∃ d, d = (e - lastP n e).toNat := ⟨_, rfl⟩
      obtain ⟨j, hj⟩ : ∃ j, j = (lastP n e - (e - (k : Int))).toNat := ⟨_, rfl⟩
      have hkd : k = d + j := by omega
      rw [← hd, ← hj, hkd, Nat.shiftLeft_add]
      exact cut_exact _ _ _ _ (by rw [Nat.shiftLeft_eq]; exact Nat.mul_pos h0 (Nat.two_pow_pos d))
  rw [key]
theorem W_eq (n : Nat) (e : Int) (h0 : 0 < n) (h : n < 9007199254740992) (he : -1074 ≤ e) :
    W n e = min ((lastP n e + 1074).toNat * 4503599627370496 + n <<< gapN n e) 9218868437227405312 := by
  have := nearest_shift n 0 e false h0 h he
  simpa [W, Format.word] using this
theorem W_shift (n k : Nat) (e : Int) (h : n < 9007199254740992) (he : -1074 ≤ e) : double.nearest false (n <<< k) (e - k) = W n e := by
  by_cases h0 : n = 0
  · subst h0; simp [W, Format.nearest]
  · rw [nearest_shift n k e false (by omega) h he, W_eq n e (by omega) h he]
    simp [Format.word]
theorem W_zero (e : Int) : W 0 e = 0 := by simp [W, Format.nearest, Format.word]
/-- What is kept: at most 53 digits; 53 just where the place isn't the least. -/
theorem kept (n : Nat) (e : Int) (h0 : 0 < n) (h : n < 9007199254740992) (he : -1074 ≤ e) :
    0 < n <<< gapN n e ∧ n <<< gapN n e < 9007199254740992 ∧ (lastP n e = -1074 ∨ 4503599627370496 ≤ n <<< gapN n e) := by
  have hl := last_le h he
  have hlog : (n <<< gapN n e).log2 = n.log2 + gapN n e := log2_shift _ _ h0
  have hpos : 0 < n <<< gapN n e := by rw [Nat.shiftLeft_eq]; exact Nat.mul_pos h0 (Nat.two_pow_pos _)
  refine ⟨hpos, ?_, ?_⟩
  · rw [show (9007199254740992 : Nat) = 2 ^ 53 from rfl, ← Nat.log2_lt (by omega), hlog]
    unfold gapN lastP; have := log_le h; omega
  · by_cases hc : lastP n e = -1074
    · exact .inl hc
    · right
      rw [show (4503599627370496 : Nat) = 2 ^ 52 from rfl, ← Nat.le_log2 (by omega), hlog]
      unfold gapN lastP at *; have := log_le h; omega
theorem read_W (n : Nat) (e : Int) (h0 : 0 < n) (h : n < 9007199254740992) (he : -1074 ≤ e) (he2 : e ≤ 971) :
    double.read (W n e) = .number false (n <<< gapN n e) (e - gapN n e) := by
  have hl := last_le h he
  obtain ⟨k0, k1, k2⟩ := kept n e h0 h he
  have hg : e - (gapN n e : Int) = lastP n e := by unfold gapN; omega
  rw [hg, W_eq n e h0 h he]
  obtain ⟨m, hm⟩ : ∃ m, m = n <<< gapN n e := ⟨_, rfl⟩
  rw [← hm] at k0 k1 k2 ⊢
  obtain ⟨q, hq⟩ : ∃ q : Nat, lastP n e = (q : Int) - 1074 := ⟨(lastP n e + 1074).toNat, by unfold lastP; omega⟩
  have hq2 : q ≤ 2045 := by omega
  rw [hq] at k2 ⊢
  have e1 : ((q : Int) - 1074 + 1074).toNat = q := by omega
  rw [e1]
  have e2 : min (q * 4503599627370496 + m) 9218868437227405312 = q * 4503599627370496 + m := by omega
  rw [e2]
  unfold Format.read
  rw [signW, binade, infR, least]
  have s0 : (q * 4503599627370496 + m) / 9223372036854775808 = 0 := by omega
  have s1 : (q * 4503599627370496 + m) % 9223372036854775808 = q * 4503599627370496 + m := by omega
  simp only [s0, s1]
  have b0 : ((0 : Nat) % 2 == 1) = false := rfl
  rw [b0]
  by_cases hs : q * 4503599627370496 + m < 4503599627370496
  · rw [if_pos hs]
    have : q = 0 := by omega
    subst this
    simp
  · rw [if_neg hs, if_pos (by omega)]
    rcases k2 with k2 | k2
    · have : q = 0 := by omega
      subst this
      have t : m / 4503599627370496 = 1 := by omega
      have t2 : 4503599627370496 + m % 4503599627370496 = m := by omega
      simp only [Nat.zero_mul, Nat.zero_add, t, t2]
      rfl
    · have t : (q * 4503599627370496 + m) / 4503599627370496 = q + 1 := by omega
      have t2 : 4503599627370496 + (q * 4503599627370496 + m) % 4503599627370496 = m := by omega
      rw [t, t2]
      congr 1
theorem read_zero : double.read 0 = .number false 0 (-1074) := by decide +kernel
theorem read_two : double.read 4611686018427387904 = .number false 4503599627370496 (-51) := by decide +kernel
theorem log_52 : (4503599627370496 : Nat).log2 = 52 := by decide +kernel
theorem mul_two (n : Nat) (e : Int) (h : n < 9007199254740992) (he : -1074 ≤ e) (he2 : e ≤ 971) : double.mul (W n e) 4611686018427387904 = some (W n (e + 1)) := by
  unfold Format.mul
  rw [read_two]
  by_cases h0 : n = 0
  · subst h0; rw [W_zero, W_zero, read_zero]; decide +kernel
  rw [read_W n e (by omega) h he he2]
  simp only [Datum.product, Option.map_some, Format.write, Bool.xor_self]
  have e1 : n <<< gapN n e * 4503599627370496 = n <<< (gapN n e + 52) := by rw [Nat.shiftLeft_add, Nat.shiftLeft_eq (n <<< gapN n e)]
  have e2 : e - (gapN n e : Int) + -51 = (e + 1) - ((gapN n e + 52 : Nat) : Int) := by omega
  rw [e1, e2, W_shift n _ _ h (by omega)]
theorem div_two (n : Nat) (e : Int) (h : n < 9007199254740992) (he : -1073 ≤ e) (he2 : e ≤ 971) : double.div (W n e) 4611686018427387904 = some (W n (e - 1)) := by
  unfold Format.div
  rw [read_two]
  by_cases h0 : n = 0
  · subst h0; rw [W_zero, W_zero, read_zero]; decide +kernel
  rw [read_W n e (by omega) h (by omega) he2]
  obtain ⟨k0, k1, -⟩ := kept n e (by omega) h (by omega)
  have hlog := log_le k1
  obtain ⟨j, hj⟩ : ∃ j, double.fractionBits + 2 + (4503599627370496 : Nat).log2 - (n <<< gapN n e).log2 = 52 + j ∧ 2 ≤ j :=
    ⟨54 - (n <<< gapN n e).log2, by rw [log_52]; simp only [show double.fractionBits = 52 from rfl]; omega, by omega⟩
  simp only [Datum.quotient, Bool.xor_self, hj.1]
  rw [if_neg (by decide)]
  have d1 : n <<< gapN n e <<< (52 + j) = n <<< (gapN n e + j) * 4503599627370496 := by
    simp only [← Nat.shiftLeft_add]
    rw [show gapN n e + (52 + j) = (gapN n e + j) + 52 from by omega, Nat.shiftLeft_add n, Nat.shiftLeft_eq (n <<< (gapN n e + j))]
  rw [d1, Nat.mul_div_cancel _ (by decide), Nat.mul_mod_left]
  have d2 : 2 * n <<< (gapN n e + j) + ((0 : Nat) != 0).toNat = n <<< (gapN n e + j + 1) := by
    rw [Nat.shiftLeft_succ]; rfl
  rw [d2]
  simp only [Option.map_some, Format.write]
  have d3 : e - (gapN n e : Int) - -51 - ((52 + j : Nat) : Int) - 1 = (e - 1) - ((gapN n e + j + 1 : Nat) : Int) := by omega
  rw [d3, W_shift n _ _ h (by omega)]

/-- A rung's digits, and its place. -/
def magR (r : Nat) : Nat := if r < 4503599627370496 then r else 4503599627370496 + r % 4503599627370496
def plR (r : Nat) : Int := if r < 4503599627370496 then -1074 else (r / 4503599627370496 : Nat) - 1075
theorem magR_lt (r : Nat) : magR r < 9007199254740992 := by unfold magR; split <;> omega
theorem plR_ge (r : Nat) : -1074 ≤ plR r := by unfold plR; split <;> omega
theorem plR_le {r : Nat} (h : r < 9218868437227405312) : plR r ≤ 971 := by unfold plR; split <;> omega
theorem W_rung (r : Nat) (h : r < 9218868437227405312) : W (magR r) (plR r) = r := by
  by_cases h0 : r = 0
  · subst h0; exact W_zero _
  have hm : 0 < magR r := by unfold magR; split <;> omega
  rw [W_eq _ _ hm (magR_lt r) (plR_ge r)]
  have hl : lastP (magR r) (plR r) = plR r := by
    have hg := log_le (magR_lt r)
    unfold lastP
    by_cases hs : r < 4503599627370496
    · have : plR r = -1074 := if_pos hs
      omega
    · have hp : -1074 ≤ plR r := plR_ge r
      have : 52 ≤ (magR r).log2 := by
        rw [Nat.le_log2 (by omega)]
        unfold magR; rw [if_neg hs]
        have : (2 : Nat) ^ 52 = 4503599627370496 := by decide
        omega
      omega
  have hg : gapN (magR r) (plR r) = 0 := by unfold gapN; omega
  rw [hg, hl, Nat.shiftLeft_zero]
  unfold magR plR
  split <;> omega
/-- The value of n * 2 ^ e, in units of the least place. -/
def V (n : Nat) (e : Int) : Nat := n * 2 ^ (e + 1074).toNat
theorem read_V (n : Nat) (e : Int) (h : n < 9007199254740992) (he : -1074 ≤ e) (he2 : e ≤ 971) : ∃ m p, double.read (W n e) = .number false m p ∧ -1074 ≤ p ∧ m * 2 ^ (p + 1074).toNat = V n e := by
  by_cases h0 : n = 0
  · subst h0
    exact ⟨0, -1074, by rw [W_zero]; exact read_zero, by omega, by simp [V]⟩
  · have hl : lastP n e ≤ e := last_le h he
    have hl2 : -1074 ≤ lastP n e := by unfold lastP; omega
    refine ⟨_, _, read_W n e (by omega) h he he2, by unfold gapN; omega, ?_⟩
    unfold V
    rw [Nat.shiftLeft_eq, Nat.mul_assoc, ← Nat.pow_add]
    congr 2
    unfold gapN
    omega
theorem order_num (m n : Nat) (p q : Int) (hp : -1074 ≤ p) (hq : -1074 ≤ q) :
    Datum.order (.number false m p) (.number false n q) = some (compare (m * 2 ^ (p + 1074).toNat) (n * 2 ^ (q + 1074).toNat)) := by
  unfold Datum.order
  simp only [signed, Bool.false_eq_true, if_false, Nat.shiftLeft_eq]
  congr 1
  obtain ⟨b, hb⟩ : ∃ b : Nat, b = (min p q + 1074).toNat := ⟨_, rfl⟩
  have e1 : (p + 1074).toNat = (p - min p q).toNat + b := by omega
  have e2 : (q + 1074).toNat = (q - min p q).toNat + b := by omega
  rw [e1, e2, Nat.pow_add, Nat.pow_add, ← Nat.mul_assoc, ← Nat.mul_assoc]
  generalize m * 2 ^ (p - min p q).toNat = x
  generalize n * 2 ^ (q - min p q).toNat = y
  have hpos : 0 < 2 ^ b := Nat.two_pow_pos b
  generalize 2 ^ b = z at hpos
  simp only [compare, compareOfLessAndEq, Int.ofNat_lt, Int.ofNat_inj, Nat.mul_lt_mul_right hpos]
  have : (x * z = y * z) ↔ x = y := ⟨fun h => Nat.eq_of_mul_eq_mul_right hpos h, fun h => by rw [h]⟩
  simp only [this]
theorem order_W (m n : Nat) (e f : Int) (hm : m < 9007199254740992) (hn : n < 9007199254740992) (he : -1074 ≤ e) (he2 : e ≤ 971) (hf : -1074 ≤ f) (hf2 : f ≤ 971) :
    double.order (W m e) (W n f) = some (compare (V m e) (V n f)) := by
  obtain ⟨a, p, h1, h2, h3⟩ := read_V m e hm he he2
  obtain ⟨b, q, k1, k2, k3⟩ := read_V n f hn hf hf2
  unfold Format.order
  rw [h1, k1, order_num _ _ _ _ h2 k2, h3, k3]
theorem cmp_lt (a b : Nat) : (some (compare a b) == some Ordering.lt) = decide (a < b) := by
  by_cases h : a < b
  · simp [compare, compareOfLessAndEq, h]
  · by_cases h2 : a = b
    · subst h2; simp
    · simp [compare, compareOfLessAndEq, h, h2]
theorem cmp_eq (a b : Nat) : (some (compare a b) == some Ordering.eq) = decide (a = b) := by
  by_cases h : a < b
  · have : a ≠ b := by omega
    simp [compare, compareOfLessAndEq, h, this]
  · by_cases h2 : a = b
    · subst h2; simp
    · simp [compare, compareOfLessAndEq, h, h2]
theorem cmp_gt (a b : Nat) : (some (compare a b) == some Ordering.gt) = decide (b < a) := by
  by_cases h : a < b
  · have : ¬ b < a := by omega
    simp [compare, compareOfLessAndEq, h, this]
  · by_cases h2 : a = b
    · subst h2; simp
    · have : b < a := by omega
      simp [compare, compareOfLessAndEq, h, h2, this]
/-- Half of a small rung: to the nearest, and between two to the even one. -/
theorem W_small (w : Nat) (h : w < 9007199254740992) : W w (-1074) = w := by
  by_cases h0 : w = 0
  · subst h0; exact W_zero _
  have hg := log_le h
  have hl : lastP w (-1074) = -1074 := by unfold lastP; omega
  rw [W_eq _ _ (by omega) h (by omega), hl]
  have : gapN w (-1074) = 0 := by unfold gapN; omega
  rw [this, Nat.shiftLeft_zero]
  omega
theorem half_small (r : Nat) (h0 : 0 < r) (h : r < 9007199254740992) : ∃ b, double.div r 4611686018427387904 = some b ∧ b ≤ r / 2 + r % 2 ∧ b ≠ r := by
  have hr : double.read r = .number false r (-1074) := by
    have := read_W r (-1074) h0 h (by omega) (by omega)
    rw [W_small r h] at this
    have hg := log_le h
    have hl : lastP r (-1074) = -1074 := by unfold lastP; omega
    have hz : gapN r (-1074) = 0 := by unfold gapN; omega
    rw [hz, Nat.shiftLeft_zero] at this
    simpa using this
  by_cases h1 : r = 1
  · subst h1; exact ⟨0, by decide +kernel, by omega, by omega⟩
  unfold Format.div
  rw [read_two, hr]
  have hlog := log_le h
  obtain ⟨j, hj, hj2⟩ : ∃ j, double.fractionBits + 2 + (4503599627370496 : Nat).log2 - r.log2 = 52 + j ∧ 2 ≤ j :=
    ⟨54 - r.log2, by rw [log_52]; simp only [show double.fractionBits = 52 from rfl]; omega, by omega⟩
  simp only [Datum.quotient, Bool.xor_self, hj]
  rw [if_neg (by decide)]
  have d1 : r <<< (52 + j) = r <<< j * 4503599627370496 := by
    rw [show 52 + j = j + 52 from by omega, Nat.shiftLeft_add r, Nat.shiftLeft_eq (r <<< j)]
  rw [d1, Nat.mul_div_cancel _ (by decide), Nat.mul_mod_left]
  have d2 : 2 * r <<< j + ((0 : Nat) != 0).toNat = r <<< (j + 1) := by
    rw [Nat.shiftLeft_succ]; rfl
  rw [d2]
  simp only [Option.map_some, Format.write]
  have d3 : (-1074 : Int) - -51 - ((52 + j : Nat) : Int) - 1 = -1075 - ((j + 1 : Nat) : Int) := by omega
  rw [d3]
  refine ⟨_, rfl, ?_⟩
  have hne : r <<< (j + 1) ≠ 0 := by rw [Nat.shiftLeft_eq]; exact Nat.ne_of_gt (Nat.mul_pos h0 (Nat.two_pow_pos _))
  unfold Format.nearest
  rw [if_neg hne, least, binade, infR, log2_shift r _ h0]
  have e1 : max (-1075 - ((j + 1 : Nat) : Int) + ((r.log2 + (j + 1) : Nat) : Int) - ((double.fractionBits : Nat) : Int)) (-1074) = -1074 := by
    simp only [show double.fractionBits = 52 from rfl]; omega
  simp only [e1]
  have e2 : (-1075 - ((j + 1 : Nat) : Int) - -1074).toNat = 0 := by omega
  have e3 : (-1074 - (-1075 - ((j + 1 : Nat) : Int))).toNat = j + 2 := by omega
  rw [e2, e3, Nat.shiftLeft_zero]
  unfold Toward.cut
  have e4 : min (j + 2) ((r <<< (j + 1)).log2 + 2) = j + 2 := by rw [log2_shift r _ h0]; omega
  rw [e4]
  have g : 1 <<< (j + 2) = 2 * 2 ^ (j + 1) := by rw [Nat.shiftLeft_eq, Nat.one_mul]; exact Nat.pow_succ'
  have hp : 0 < 2 ^ (j + 1) := Nat.two_pow_pos _
  simp only [g, Nat.shiftLeft_eq]
  generalize 2 ^ (j + 1) = z at hp
  rw [Nat.mul_div_mul_right _ _ hp, Nat.mul_mod_mul_right]
  simp only [Format.word]
  have t : ∀ c : Bool, c.toNat ≤ 1 := by decide
  have hz : ((decide (2 * z < 2 * (r % 2 * z)) || 2 * z == 2 * (r % 2 * z) && r / 2 % 2 == 1)).toNat ≤ r % 2 := by
    rcases Nat.mod_two_eq_zero_or_one r with e | e
    · rw [e]
      have : (decide (2 * z < 2 * (0 * z)) || 2 * z == 2 * (0 * z) && r / 2 % 2 == 1) = false := by
        simp; omega
      rw [this]; decide
    · rw [e]; exact t _
  simp only [Bool.false_eq_true, if_false]
  generalize (decide (2 * z < 2 * (r % 2 * z)) || 2 * z == 2 * (r % 2 * z) && r / 2 % 2 == 1).toNat = c at hz
  omega
end Go.Proofs.Ytppmcbkcohiodaa.Dbl
namespace Go.Proofs.Ytppmcbkcohiodaa.Fl
open Go Ieee Go.Proofs.Ytppmcbkcohiodaa.Dbl

def val (r : Nat) : Nat := V (magR r) (plR r)
theorem val_eq (r : Nat) : val r = magR r * 2 ^ (if r < 4503599627370496 then 0 else r / 4503599627370496 - 1) := by
  unfold val V plR
  split
  · rfl
  · congr 2; omega
theorem ord_rung {r s : Nat} (hr : r < 9218868437227405312) (hs : s < 9218868437227405312) : ord r s = some (compare (val r) (val s)) := by
  have := order_W (magR r) (magR s) (plR r) (plR s) (magR_lt r) (magR_lt s) (plR_ge r) (plR_le hr) (plR_ge s) (plR_le hs)
  rwa [W_rung r hr, W_rung s hs] at this
theorem val_succ (r : Nat) : val r < val (r + 1) := by
  rw [val_eq, val_eq]
  unfold magR
  by_cases h : r + 1 < 4503599627370496
  · rw [if_pos h, if_pos h, if_pos (by omega), if_pos (by omega)]; omega
  · by_cases h2 : r < 4503599627370496
    · have e : (r + 1) / 4503599627370496 - 1 = 0 := by omega
      rw [if_pos h2, if_pos h2, if_neg h, if_neg h, e]; omega
    · rw [if_neg h2, if_neg h2, if_neg h, if_neg h]
      obtain ⟨q, hq⟩ : ∃ q, q = r / 4503599627370496 - 1 := ⟨_, rfl⟩
      have hpos : 0 < 2 ^ q := Nat.two_pow_pos q
      by_cases h3 : (r + 1) % 4503599627370496 = 0
      · have e : (r + 1) / 4503599627370496 - 1 = q + 1 := by omega
        have e2 : r % 4503599627370496 = 4503599627370495 := by omega
        rw [← hq, e, h3, e2, Nat.pow_succ]
        omega
      · have e : (r + 1) / 4503599627370496 - 1 = q := by omega
        have e2 : (r + 1) % 4503599627370496 = r % 4503599627370496 + 1 := by omega
        rw [← hq, e, e2]
        exact (Nat.mul_lt_mul_right hpos).2 (by omega)
theorem val_lt {r s : Nat} (h : r < s) : val r < val s := by
  induction s with
  | zero => omega
  | succ s ih =>
    rcases Nat.lt_succ_iff_lt_or_eq.1 h with h | h
    · exact Nat.lt_trans (ih h) (val_succ s)
    · subst h; exact val_succ r
theorem eq_rung {r s : Nat} (hr : r < 9218868437227405312) (hs : s < 9218868437227405312) : eqF r s = decide (r = s) := by
  unfold eqF
  rw [ord_rung hr hs, cmp_eq]
  congr 1
  apply propext
  constructor
  · intro h
    rcases Nat.lt_trichotomy r s with c | c | c
    · have := val_lt c; omega
    · exact c
    · have := val_lt c; omega
  · intro h; rw [h]
theorem lt_rung {r s : Nat} (hr : r < 9218868437227405312) (hs : s < 9218868437227405312) : ltF r s = decide (r < s) := by
  unfold ltF
  rw [ord_rung hr hs, cmp_lt]
  congr 1
  apply propext
  constructor
  · intro h
    rcases Nat.lt_trichotomy r s with c | c | c
    · exact c
    · rw [c] at h; omega
    · have := val_lt c; omega
  · intro h; exact val_lt h
theorem read_inf : double.read 9218868437227405312 = .infinity false := by decide +kernel
theorem read_number {r : Nat} (hr : r < 9218868437227405312) : ∃ m p, double.read r = .number false m p ∧ (m = 0 ↔ r = 0) := by
  unfold Format.read
  rw [signW, binade, infR, least]
  have s0 : r / 9223372036854775808 = 0 := by omega
  have s1 : r % 9223372036854775808 = r := by omega
  have b0 : ((0 : Nat) % 2 == 1) = false := rfl
  simp only [s0, s1, b0]
  by_cases hs : r < 4503599627370496
  · rw [if_pos hs]; exact ⟨_, _, rfl, Iff.rfl⟩
  · rw [if_neg hs, if_pos hr]; exact ⟨_, _, rfl, by omega⟩
theorem read_nan {r : Nat} (hr : 9218868437227405312 < r) (h : r < 9223372036854775808) (s : Bool) : ∃ f t, double.read (double.word s r) = .nan f t := by
  unfold Format.read Format.word
  rw [signW, binade, infR]
  cases s
  · simp only [Bool.false_eq_true, if_false]
    rw [show r % 9223372036854775808 = r from by omega, if_neg (by omega), if_neg (by omega), if_neg (by omega)]
    exact ⟨_, _, rfl⟩
  · simp only [if_true]
    rw [show (9223372036854775808 + r) % 9223372036854775808 = r from by omega, if_neg (by omega), if_neg (by omega), if_neg (by omega)]
    exact ⟨_, _, rfl⟩
theorem read_neg {r : Nat} (h : r < 9223372036854775808) : double.read (9223372036854775808 + r) = (double.read r).opposite := by
  unfold Format.read
  rw [signW, binade, infR, least]
  have s0 : r / 9223372036854775808 = 0 := by omega
  have s1 : r % 9223372036854775808 = r := by omega
  have t0 : (9223372036854775808 + r) / 9223372036854775808 = 1 := by omega
  have t1 : (9223372036854775808 + r) % 9223372036854775808 = r := by omega
  simp only [s0, s1, t0, t1]
  split
  · rfl
  · split
    · rfl
    · split <;> rfl
theorem self_nan {b : Nat} (h : ∃ f t, double.read b = .nan f t) : eqF b b = false := by
  obtain ⟨f, t, h⟩ := h
  show (double.order b b == some .eq) = false
  unfold Format.order
  rw [h]; rfl
theorem self_eq {r : Nat} (h : r ≤ 9218868437227405312) (s : Bool) : eqF (double.word s r) (double.word s r) = true := by
  show (double.order _ _ == some .eq) = true
  have hd : ∃ d, double.read (double.word s r) = d ∧ d.order d = some .eq := by
    refine ⟨_, rfl, ?_⟩
    have key : ∀ d : Datum, (∀ f t, d ≠ .nan f t) → d.order d = some .eq := by
      intro d hd
      cases d with
      | nan f t => exact absurd rfl (hd f t)
      | infinity s => exact congrArg some (Std.ReflCmp.compare_self (cmp := compare) (a := s.toNat))
      | number s m i => exact congrArg some (Std.ReflCmp.compare_self (cmp := compare) (a := signed s m (i - min i i).toNat))
    apply key
    intro f t hn
    have hp : ∀ d : Datum, d.opposite = .nan f t → ∃ f', d = .nan f' t := by
      intro d hd; cases d <;> simp_all [Datum.opposite]
    rcases Nat.lt_or_eq_of_le h with hl | he
    · obtain ⟨m, p, hm, -⟩ := read_number hl
      cases s
      · simp only [Format.word, Bool.false_eq_true, if_false] at hn; rw [hm] at hn; cases hn
      · simp only [Format.word, if_true, signW] at hn; rw [read_neg (by omega), hm] at hn; cases hn
    · subst he
      cases s
      · simp only [Format.word, Bool.false_eq_true, if_false] at hn; rw [read_inf] at hn; cases hn
      · simp only [Format.word, if_true, signW] at hn; rw [read_neg (by omega), read_inf] at hn; cases hn
  obtain ⟨d, h1, h2⟩ := hd
  unfold Format.order
  rw [h1, h2]; rfl
/-- Where a word isn't a number. -/
theorem nan_iff {b : Nat} (h : b < 18446744073709551616) : eqF b b = decide (b % 9223372036854775808 ≤ 9218868437227405312) := by
  have hw : b = double.word (decide (9223372036854775808 ≤ b)) (b % 9223372036854775808) := by
    unfold Format.word
    rw [signW]
    by_cases hs : 9223372036854775808 ≤ b
    · rw [decide_eq_true hs, if_pos rfl]; omega
    · rw [decide_eq_false hs, if_neg (by decide)]; omega
  by_cases hn : b % 9223372036854775808 ≤ 9218868437227405312
  · rw [decide_eq_true hn]
    have := self_eq hn (decide (9223372036854775808 ≤ b))
    rwa [← hw] at this
  · rw [decide_eq_false hn]
    have := read_nan (r := b % 9223372036854775808) (by omega) (by omega) (decide (9223372036854775808 ≤ b))
    rw [← hw] at this
    exact self_nan this
theorem opp_eq (d e : Datum) (o : Ordering) : d.opposite.order e.opposite = some o → o = .eq → d.order e = some .eq := by
  intro h ho
  subst ho
  cases d with
  | nan _ _ => cases e <;> cases h
  | infinity s =>
    cases e with
    | nan _ _ => cases h
    | infinity t => cases s <;> cases t <;> first | rfl | (exfalso; revert h; decide)
    | number t n j => cases s <;> (exfalso; revert h; simp [Datum.opposite, Datum.order])
  | number s m i =>
    cases e with
    | nan _ _ => cases h
    | infinity t => cases t <;> (exfalso; revert h; simp [Datum.opposite, Datum.order])
    | number t n j =>
      simp only [Datum.opposite, Datum.order, Option.some.injEq] at h ⊢
      have h' : compare (signed (!s) m (i - min i j).toNat) (signed (!t) n (j - min i j).toNat) = .eq := h
      have := Std.LawfulEqCmp.eq_of_compare (cmp := compare) h'
      have hs : ∀ (s : Bool) (m u : Nat), signed (!s) m u = - signed s m u := by intro s m u; cases s <;> simp [signed]
      rw [hs, hs] at this
      have : signed s m (i - min i j).toNat = signed t n (j - min i j).toNat := by omega
      rw [this]
      exact Std.ReflCmp.compare_self
theorem eq_words {a b : Nat} (ha : a < 18446744073709551616) (hb : b < 18446744073709551616) (na : eqF a a = true) (nb : eqF b b = true)
    (hs : decide (9223372036854775808 ≤ a) = decide (9223372036854775808 ≤ b)) (h : eqF a b = true) : a = b := by
  rw [nan_iff ha, decide_eq_true_eq] at na
  rw [nan_iff hb, decide_eq_true_eq] at nb
  have plain : ∀ r s : Nat, r ≤ 9218868437227405312 → s ≤ 9218868437227405312 → eqF r s = true → r = s := by
    intro r s hr hs h
    rcases Nat.lt_or_eq_of_le hr with hr | rfl
    · rcases Nat.lt_or_eq_of_le hs with hs | rfl
      · rw [eq_rung hr hs] at h; exact of_decide_eq_true h
      · obtain ⟨m, p, hm, -⟩ := read_number hr
        have : (double.order r 9218868437227405312 == some .eq) = true := h
        unfold Format.order at this; rw [hm, read_inf] at this; cases this
    · rcases Nat.lt_or_eq_of_le hs with hs | rfl
      · obtain ⟨m, p, hm, -⟩ := read_number hs
        have : (double.order 9218868437227405312 s == some .eq) = true := h
        unfold Format.order at this; rw [hm, read_inf] at this; cases this
      · rfl
  by_cases hc : 9223372036854775808 ≤ a
  · have hd : 9223372036854775808 ≤ b := by rw [decide_eq_true hc] at hs; exact of_decide_eq_true hs.symm
    obtain ⟨r, hr⟩ : ∃ r, a = 9223372036854775808 + r := ⟨a - 9223372036854775808, by omega⟩
    obtain ⟨s, hs'⟩ : ∃ s, b = 9223372036854775808 + s := ⟨b - 9223372036854775808, by omega⟩
    subst hr hs'
    have hr' : r ≤ 9218868437227405312 := by omega
    have hs'' : s ≤ 9218868437227405312 := by omega
    have ho : double.order (9223372036854775808 + r) (9223372036854775808 + s) = some .eq := eq_of_beq h
    unfold Format.order at ho
    rw [read_neg (by omega), read_neg (by omega)] at ho
    have := opp_eq _ _ _ ho rfl
    have e : eqF r s = true := by
      show (double.order r s == some .eq) = true
      unfold Format.order; rw [this]; rfl
    rw [plain r s hr' hs'' e]
  · have hd : ¬ 9223372036854775808 ≤ b := by rw [decide_eq_false hc] at hs; exact of_decide_eq_false hs.symm
    exact plain a b (by omega) (by omega) h
/-- Is a float's sign -? What the code asks, one by one. -/
theorem minus_facts {b : Nat} (hb : b < 18446744073709551616) (nb : eqF b b = true) :
    (b < 9223372036854775808 ∧ ltF b 0 = false ∧ (b = 0 ∨ eqF b 0 = false)) ∨ (9223372036854775808 ≤ b ∧ (ltF b 0 = true ∨ b = 9223372036854775808)) := by
  rw [nan_iff hb, decide_eq_true_eq] at nb
  by_cases hc : 9223372036854775808 ≤ b
  · right
    refine ⟨hc, ?_⟩
    obtain ⟨r, hr⟩ : ∃ r, b = 9223372036854775808 + r := ⟨b - 9223372036854775808, by omega⟩
    subst hr
    by_cases h0 : r = 0
    · right; omega
    left
    show (double.order (9223372036854775808 + r) 0 == some .lt) = true
    unfold Format.order
    rw [read_neg (by omega), read_zero]
    by_cases hi : r = 9218868437227405312
    · subst hi; rw [read_inf]; rfl
    · obtain ⟨m, p, hm, hz⟩ := read_number (r := r) (by omega)
      rw [hm]
      simp only [Datum.opposite, Datum.order, Bool.not_false]
      have hm0 : 0 < m := by omega
      have h1 : signed true m (p - min p (-1074)).toNat < signed false 0 (-1074 - min p (-1074)).toNat := by
        have : 0 < m <<< (p - min p (-1074)).toNat := by rw [Nat.shiftLeft_eq]; exact Nat.mul_pos hm0 (Nat.two_pow_pos _)
        show -((m <<< (p - min p (-1074)).toNat : Nat) : Int) < ((0 <<< (-1074 - min p (-1074)).toNat : Nat) : Int)
        rw [Nat.zero_shiftLeft]
        omega
      simp only [compare, compareOfLessAndEq]
      rw [if_pos h1]
      rfl
  · left
    refine ⟨by omega, ?_, ?_⟩
    · by_cases hi : b = 9218868437227405312
      · subst hi; decide +kernel
      · rw [lt_rung (by omega) (by omega)]; exact decide_eq_false (by omega)
    · by_cases h0 : b = 0
      · exact .inl h0
      · right
        by_cases hi : b = 9218868437227405312
        · subst hi; decide +kernel
        · rw [eq_rung (by omega) (by omega)]; exact decide_eq_false (by omega)
theorem xor_top (x : Nat) (h : x < 2 ^ 63) : x ^^^ 2 ^ 63 = 2 ^ 63 + x := by
  apply Nat.eq_of_testBit_eq
  intro i
  rw [Nat.testBit_xor]
  rcases Nat.lt_trichotomy i 63 with c | c | c
  · rw [Nat.testBit_two_pow_add_gt c, Nat.testBit_two_pow_of_ne (by omega), Bool.xor_false]
  · subst c
    rw [Nat.testBit_two_pow_add_eq, Nat.testBit_two_pow_self, Bool.xor_true]
  · rw [Nat.testBit_two_pow_of_ne (by omega), Bool.xor_false]
    have h1 : (2 : Nat) ^ 64 ≤ 2 ^ i := Nat.pow_le_pow_right (by decide) (by omega)
    rw [Nat.testBit_lt_two_pow (by omega), Nat.testBit_lt_two_pow (by omega)]
theorem neg_word {b : Nat} (hb : b < 18446744073709551616) : b ^^^ 2 ^ 63 = if b < 9223372036854775808 then 9223372036854775808 + b else b - 9223372036854775808 := by
  by_cases h : b < 9223372036854775808
  · rw [if_pos h]; exact xor_top b h
  · rw [if_neg h]
    obtain ⟨r, rfl⟩ : ∃ r, b = 2 ^ 63 + r := ⟨b - 2 ^ 63, by omega⟩
    rw [← xor_top r (by omega), Nat.xor_assoc, Nat.xor_self, Nat.xor_zero, xor_top r (by omega)]
    omega
end Go.Proofs.Ytppmcbkcohiodaa.Fl
namespace Go.Proofs.Ytppmcbkcohiodaa.Fl
open Go Go.RowKit Go.Proofs.YtppmcbkcohiodaaW.PrintWords Go.Proofs.Ytppmcbkcohiodaa.Base
attribute [-go_sem] binOp_float_cmp_eql binOp_float_cmp_neq binOp_float_cmp_lss binOp_float_cmp_leq
attribute [local go_sem] f_eql f_neq f_lss f_leq frombits_run
set_option maxHeartbeats 8000000
set_option maxRecDepth 100000
theorem of_one : ofF [16368, 0, 0, 0] = (4607182418800017408, true) := by decide +kernel
theorem of_zero : ofF [32768, 0, 0, 0] = (9223372036854775808, true) := by decide +kernel
theorem of_nan : ofF [32760, 0, 0, 0] = (9221120237041090560, true) := by decide +kernel
theorem e_one : eqF 4607182418800017408 4607182418800017408 = true := by decide +kernel
theorem e_zero : eqF 9223372036854775808 0 = true := by decide +kernel
theorem e_nan : eqF 9221120237041090560 9221120237041090560 = false := by decide +kernel
theorem l_inf : ltF 18442240474082181120 0 = true := by decide +kernel
theorem w_nan : (leF 9221120237041090560 9221120237041090560 && leF 9221120237041090560 9221120237041090560) = false := by decide +kernel
theorem w_zero : (leF 0 9223372036854775808 && leF 9223372036854775808 0) = true := by decide +kernel
theorem s_zero : sameF 9223372036854775808 0 = false := by decide +kernel
theorem quo_run (t : TypeId) (P : Program) (w : World) : (binOp .quo t (.float .f64 4607182418800017408) (.float .f64 9223372036854775808)).run P w = .ok (.float .f64 18442240474082181120) w :=
  run_float_arith w .quo t .f64 _ _ _ (by decide +kernel)
theorem lit_C (W : World) (xs : List Int) (T : TypeId) (hm : xs.length ≤ 1000) : Kd.C (Kd.int .i64) (W.alloc (.cells (nums .i64 xs).toArray T)) (some ⟨W.heap.size, 0, none⟩) xs.length xs :=
  (Kd.R_reads' (Kd.R_of_own (enc := Value.int .i64) (h1 := fun _ => rfl) (ok := fun _ => True) (World.ownsRow_lit (e := T) (size := 1) W (nums .i64 xs).toArray xs.length (Nat.le_refl _) (by unfold maxLen; omega) (by simp [nums])) (fun _ _ => trivial))).2.2
attribute [local go_sem] e_one e_zero e_nan l_inf quo_run
end Go.Proofs.Ytppmcbkcohiodaa.Fl
