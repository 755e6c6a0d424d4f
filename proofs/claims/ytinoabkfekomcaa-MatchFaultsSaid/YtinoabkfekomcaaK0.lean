/- Texts of this claim, put together (wip/pack.py): Base, CoilPure, Hand, Map. -/
import Derived.Test.YtinoabkfekomcaaWMore
import Derived.Laws.BitsLemmas
import Derived.Laws.Bits64
import Derived.Laws.MakeOwn
import Derived.Test.YtinoabkfekomcaaProg
import Derived.Carry
import Derived.WideMake
namespace Go.Proofs.Ytinoabkfekomcaa.Base
open Go.RowKit Go.Proofs.YtinoabkfekomcaaW.PrintWords

theorem w64 {n : Int} (h0 : -9223372036854775808 ≤ n) (h1 : n ≤ 9223372036854775807) : wrap64 n = n := by
  unfold wrap64; omega
theorem u64w {n : Int} (h0 : 0 ≤ n) (h1 : n < 18446744073709551616) : IntKind.u64.wrap n = n := by
  rw [IntKind.wrap_u64]; omega
theorem wraps_i64 (n : Int) (h₀ : 0 ≤ n) (h₁ : n < 2 ^ 63) : IntKind.i64.wrap n = n := by
  rw [IntKind.wrap_i64]; omega
theorem and7 (x : Int) (h0 : 0 ≤ x) (h1 : x < 9223372036854775808) : Go.bits .and .i64 x 7 = x % 8 :=
  bits_mask .i64 63 (by decide) wraps_i64 3 (by decide) x h0 (by omega)
theorem and1 (x : Int) (h0 : 0 ≤ x) (h1 : x < 9223372036854775808) : Go.bits .and .i64 x 1 = x % 2 :=
  bits_mask .i64 63 (by decide) wraps_i64 1 (by decide) x h0 (by omega)
theorem bits_or_comm (k : IntKind) (x y : Int) : Go.bits .or k x y = Go.bits .or k y x := by
  unfold Go.bits; simp only [BitVec.or_comm]
theorem two_pow_le (m n : Nat) (h : m ≤ n) : (2 : Int) ^ m ≤ 2 ^ n := by
  have := Nat.pow_le_pow_right (n := 2) (by decide) h
  exact_mod_cast this
theorem two_pow_pos (m : Nat) : (0 : Int) < 2 ^ m := by
  have := Nat.two_pow_pos m
  exact_mod_cast this
/-- A bit set above all that is there. -/
theorem or_top (a : Int) (m : Nat) (hm : m < 8) (h0 : 0 ≤ a) (h1 : a < 2 ^ m) : Go.bits .or .u8 a (2 ^ m) = a + 2 ^ m := by
  have hp := two_pow_le m 7 (by omega)
  have hp2 : (2 : Int) ^ 7 < 2 ^ 8 := by decide
  rw [bits_or_comm, bits_join .u8 8 (by decide) wraps_u8 m (2 ^ m) a (Int.pow_nonneg (by decide)) (Int.emod_self) (by omega) h0 h1 (by omega)]
  omega
theorem shl_one (m : Nat) (hm : m < 8) : shl .u8 1 (m : Int) = 2 ^ m := by
  have hp := two_pow_le m 7 (by omega)
  have h0 : (0 : Int) ≤ 2 ^ m := Int.pow_nonneg (by decide)
  unfold shl
  have e : min (m : Int).toNat IntKind.u8.bits = m := by simp [IntKind.bits]; omega
  rw [e, IntKind.wrap_u8]
  omega
theorem shl_i64 (x : Int) (m : Nat) (hm : m < 8) (hx : x = 0 ∨ x = 1) : shl .i64 x (m : Int) = x * 2 ^ m := by
  have hp := two_pow_le m 7 (by omega)
  have h0 : (0 : Int) ≤ 2 ^ m := Int.pow_nonneg (by decide)
  unfold shl
  have e : min (m : Int).toNat IntKind.i64.bits = m := by simp [IntKind.bits]; omega
  rw [e, IntKind.wrap_i64]
  rcases hx with rfl | rfl <;> omega
theorem shr_eq (k : IntKind) (x : Int) (m : Nat) (hm : m < 8) : shr k x (m : Int) = x / 2 ^ m := by
  unfold shr
  have e : min (m : Int).toNat k.bits = m := by cases k <;> simp [IntKind.bits] <;> omega
  rw [e]
theorem tdiv8 {x : Int} (h : 0 ≤ x) : Int.tdiv x 8 = x / 8 := Int.tdiv_eq_ediv_of_nonneg h
theorem tmod8 {x : Int} (h : 0 ≤ x) : Int.tmod x 8 = x % 8 := Int.tmod_eq_emod_of_nonneg h
theorem wf64 {n : Int} (h : (Lit.int .i64 n).wf = true) : -9223372036854775808 ≤ n ∧ n ≤ 9223372036854775807 := by
  simpa [Lit.wf, IntKind.min, IntKind.max, IntKind.signed, IntKind.bits] using h
theorem wf8 {n : Int} (h : (Lit.int .u8 n).wf = true) : 0 ≤ n ∧ n ≤ 255 := by
  simpa [Lit.wf, IntKind.min, IntKind.max, IntKind.signed, IntKind.bits] using h
theorem wf16 {n : Int} (h : (Lit.int .u16 n).wf = true) : 0 ≤ n ∧ n ≤ 65535 := by
  simpa [Lit.wf, IntKind.min, IntKind.max, IntKind.signed, IntKind.bits] using h
theorem rd_nat (xs : List Int) (i : Nat) : rd xs (i : Int) = xs.getD i 0 := by simp [rd]
theorem bt_nat (s : ByteArray) (i : Nat) (h : i < s.size) : bt s (i : Int) = (s[i].toNat : Int) := by simp [bt, h]
theorem bt_strOfNums (xs : List Int) (i : Nat) (h : i < xs.length) (hb : ∀ x ∈ xs, 0 ≤ x ∧ x ≤ 255) : bt (strOfNums xs) (i : Int) = xs.getD i 0 := by
  have hs : i < (strOfNums xs).size := by rw [strOfNums_size]; exact h
  have hx := hb xs[i] (List.getElem_mem h)
  rw [bt_nat _ _ hs, List.getD_eq_getElem?_getD, List.getElem?_eq_getElem h]
  simp only [strOfNums, ByteArray.getElem_eq_getElem_data, List.getElem_toArray, List.getElem_map, Option.getD_some]
  rw [UInt8.toNat_ofNat']
  omega
end Go.Proofs.Ytinoabkfekomcaa.Base
namespace Go.Proofs.Ytinoabkfekomcaa.Coil
open Go.RowKit Go.Proofs.YtinoabkfekomcaaW.PrintWords Go.Proofs.Ytinoabkfekomcaa.Base

def val : List Int → Int
  | [] => 0
  | b :: t => b + 2 * val t
def Bits (l : List Int) : Prop := ∀ x ∈ l, x = 0 ∨ x = 1
def byteAt (l : List Int) (j : Nat) : Int := val ((l.drop (8 * j)).take 8)
def pack (l : List Int) : List Int := (List.range ((l.length + 7) / 8)).map (byteAt l)

theorem Bits.drop {l : List Int} (h : Bits l) (n : Nat) : Bits (l.drop n) := fun x hx => h x (List.mem_of_mem_drop hx)
theorem Bits.take {l : List Int} (h : Bits l) (n : Nat) : Bits (l.take n) := fun x hx => h x (List.mem_of_mem_take hx)
theorem Bits.snoc {l : List Int} (h : Bits l) {b : Int} (hb : b = 0 ∨ b = 1) : Bits (l ++ [b]) := by
  intro x hx
  rcases List.mem_append.1 hx with hx | hx
  · exact h x hx
  · rw [List.mem_singleton.1 hx]; exact hb
theorem val_bound {l : List Int} (h : Bits l) : 0 ≤ val l ∧ val l < 2 ^ l.length := by
  induction l with
  | nil => simp [val]
  | cons b t ih =>
    have h1 := ih (fun x hx => h x (List.mem_cons_of_mem _ hx))
    have hb := h b List.mem_cons_self
    simp only [val, List.length_cons, Int.pow_succ]
    omega
theorem val_snoc (l : List Int) (b : Int) : val (l ++ [b]) = val l + b * 2 ^ l.length := by
  induction l with
  | nil => simp [val]
  | cons a t ih =>
    simp only [List.cons_append, val, ih, List.length_cons, Int.pow_succ]
    have : 2 * (val t + b * 2 ^ t.length) = 2 * val t + b * (2 ^ t.length * 2) := by
      rw [Int.mul_add, Int.mul_left_comm 2 b, Int.mul_comm 2 (2 ^ t.length)]
    omega
theorem val_bit {l : List Int} (h : Bits l) (i : Nat) (hi : i < l.length) : val l / 2 ^ i % 2 = l[i] := by
  induction l generalizing i with
  | nil => simp at hi
  | cons b t ih =>
    have ht : Bits t := fun x hx => h x (List.mem_cons_of_mem _ hx)
    have hb := h b List.mem_cons_self
    cases i with
    | zero => simp only [val, List.getElem_cons_zero, Int.pow_zero, Int.ediv_one]; omega
    | succ i =>
      have := ih ht i (by simpa using hi)
      simp only [val, List.getElem_cons_succ]
      rw [Int.pow_succ, Int.mul_comm (2 ^ i) 2, ← Int.ediv_ediv_of_nonneg (by decide)]
      have e : (b + 2 * val t) / 2 = val t := by omega
      rw [e]; exact this
/-- A number's lowest bits make it again. -/
theorem val_bits (n : Nat) : ∀ v : Int, 0 ≤ v → v < 2 ^ n → val ((List.range n).map fun i => v / 2 ^ i % 2) = v := by
  induction n with
  | zero => intro v h0 h1; simp at h1; simp [val]; omega
  | succ n ih =>
    intro v h0 h1
    rw [List.range_succ_eq_map, List.map_cons, List.map_map]
    have e : ((fun i => v / 2 ^ i % 2) ∘ Nat.succ) = fun i => (v / 2) / 2 ^ i % 2 := by
      funext i
      simp only [Function.comp]
      rw [Nat.succ_eq_add_one, Int.pow_succ, Int.mul_comm (2 ^ i) 2, ← Int.ediv_ediv_of_nonneg (by decide)]
    rw [e, val, ih (v / 2) (by omega) (by rw [Int.pow_succ] at h1; omega)]
    simp only [Int.pow_zero, Int.ediv_one]
    omega
theorem pack_length (l : List Int) : (pack l).length = (l.length + 7) / 8 := by simp [pack]
theorem pack_getD (l : List Int) (j : Nat) (hj : j < (l.length + 7) / 8) : (pack l).getD j 0 = byteAt l j := by
  simp [pack, List.getD_eq_getElem?_getD, List.getElem?_map, List.getElem?_range hj]
theorem byteAt_bound {l : List Int} (h : Bits l) (j : Nat) : 0 ≤ byteAt l j ∧ byteAt l j ≤ 255 := by
  have hv := val_bound ((h.drop (8 * j)).take 8)
  have hl : ((l.drop (8 * j)).take 8).length ≤ 8 := by simp; omega
  have := two_pow_le _ _ hl
  unfold byteAt
  omega
theorem pack_bound {l : List Int} (h : Bits l) : ∀ x ∈ pack l, 0 ≤ x ∧ x ≤ 255 := by
  intro x hx
  obtain ⟨j, _, rfl⟩ := List.mem_map.1 hx
  exact byteAt_bound h j
/-- Bit i of the bytes is bit i. -/
theorem pack_bit {l : List Int} (h : Bits l) (i : Nat) (hi : i < l.length) : (pack l).getD (i / 8) 0 / 2 ^ (i % 8) % 2 = l[i] := by
  have hj : i / 8 < (l.length + 7) / 8 := by omega
  rw [pack_getD _ _ hj, byteAt]
  have hl : i % 8 < ((l.drop (8 * (i / 8))).take 8).length := by simp; omega
  rw [val_bit ((h.drop _).take _) _ hl]
  rw [List.getElem_take, List.getElem_drop]
  congr 1; omega
/-- One bit more. -/
theorem byteAt_snoc (l : List Int) (b : Int) (j : Nat) :
    byteAt (l ++ [b]) j = if j = l.length / 8 then byteAt l j + b * 2 ^ (l.length % 8) else byteAt l j := by
  unfold byteAt
  by_cases h1 : 8 * j ≤ l.length
  · rw [List.drop_append_of_le_length h1]
    by_cases h2 : l.length < 8 * j + 8
    · have e : j = l.length / 8 := by omega
      rw [if_pos e, List.take_of_length_le (by simp; omega), List.take_of_length_le (by simp; omega), val_snoc]
      congr 3; simp; omega
    · rw [if_neg (by omega), List.take_append_of_le_length (by simp; omega)]
  · rw [if_neg (by omega), List.drop_of_length_le (by simp; omega), List.drop_of_length_le (by omega)]
theorem byteAt_beyond (l : List Int) (j : Nat) (h : l.length ≤ 8 * j) : byteAt l j = 0 := by
  unfold byteAt; rw [List.drop_of_length_le h]; rfl
theorem byteAt_low {l : List Int} (h : Bits l) (j : Nat) (hj : l.length < 8 * j + 8) : byteAt l j < 2 ^ (l.length - 8 * j) := by
  have hv := val_bound ((h.drop (8 * j)).take 8)
  have hl : ((l.drop (8 * j)).take 8).length = l.length - 8 * j := by simp; omega
  rw [hl] at hv
  exact hv.2
theorem byteAt_append (a b : List Int) (ha : a.length % 8 = 0) (j : Nat) : byteAt (a ++ b) j = if j < a.length / 8 then byteAt a j else byteAt b (j - a.length / 8) := by
  unfold byteAt
  by_cases h : j < a.length / 8
  · rw [if_pos h, List.drop_append_of_le_length (by omega), List.take_append_of_le_length (by simp; omega)]
  · rw [if_neg h, List.drop_append]
    rw [List.drop_of_length_le (by omega), List.nil_append]
    congr 3; omega
theorem pack_append (a b : List Int) (ha : a.length % 8 = 0) : pack (a ++ b) = pack a ++ pack b := by
  apply List.ext_getElem
  · simp [pack_length]; omega
  · intro j h1 h2
    rw [pack_length] at h1
    rw [List.length_append] at h1
    rw [List.getElem_append]
    simp only [pack_length]
    simp only [pack, List.getElem_map, List.getElem_range]
    rw [byteAt_append a b ha]
    have e : (a.length + 7) / 8 = a.length / 8 := by omega
    rw [e]
    split <;> rfl
/-- The state of packing, i bits done of so many bytes. -/
def packed (l : List Int) (n i : Nat) : List Int := (List.range n).map (byteAt (l.take i))
theorem packed_zero (l : List Int) (n : Nat) : packed l n 0 = List.replicate n 0 := by
  apply List.ext_getElem
  · simp [packed]
  · intro j h1 h2
    simp [packed, byteAt, val]
theorem packed_length (l : List Int) (n i : Nat) : (packed l n i).length = n := by simp [packed]
theorem packed_full (l : List Int) : packed l ((l.length + 7) / 8) l.length = pack l := by simp [packed, pack]
theorem packed_get (l : List Int) (n i j : Nat) (hj : j < n) : (packed l n i).getD j 0 = byteAt (l.take i) j := by
  simp [packed, List.getD_eq_getElem?_getD, List.getElem?_map, List.getElem?_range hj]
theorem packed_step (l : List Int) (n i : Nat) (hi : i < l.length) :
    packed l n (i + 1) = (packed l n i).set (i / 8) ((packed l n i).getD (i / 8) 0 + l[i] * 2 ^ (i % 8)) := by
  apply List.ext_getElem
  · simp [packed]
  · intro j h1 h2
    have hn : j < n := by simpa [packed] using h1
    have hl : (l.take i).length = i := by simp; omega
    have ht : l.take (i + 1) = l.take i ++ [l[i]] := List.take_succ_eq_append_getElem hi
    rw [List.getElem_set]
    by_cases e : i / 8 = j
    · subst e
      rw [if_pos rfl, packed_get _ _ _ _ hn]
      simp only [packed, List.getElem_map, List.getElem_range]
      rw [ht, byteAt_snoc, hl, if_pos rfl]
    · rw [if_neg e]
      simp only [packed, List.getElem_map, List.getElem_range]
      rw [ht, byteAt_snoc, hl, if_neg (fun h => e h.symm)]
theorem packed_same (l : List Int) (n i : Nat) (hi : i < l.length) (h0 : l[i] = 0) : packed l n (i + 1) = packed l n i := by
  have ht : l.take (i + 1) = l.take i ++ [l[i]] := List.take_succ_eq_append_getElem hi
  unfold packed
  congr 1
  funext j
  rw [ht, byteAt_snoc, h0]
  simp
theorem packed_low {l : List Int} {i : Nat} (h : Bits (l.take i)) (n : Nat) (hi : i < l.length) (hn : i / 8 < n) : 0 ≤ (packed l n i).getD (i / 8) 0 ∧ (packed l n i).getD (i / 8) 0 < 2 ^ (i % 8) := by
  rw [packed_get _ _ _ _ hn]
  have hl : (l.take i).length = i := by simp; omega
  have := byteAt_low h (i / 8) (by omega)
  rw [hl, show i - 8 * (i / 8) = i % 8 by omega] at this
  exact ⟨(byteAt_bound h _).1, this⟩
/-! ### The way back -/
def bitAt (s : ByteArray) (i : Nat) : Int := bt s ((i / 8 : Nat) : Int) / 2 ^ (i % 8) % 2
def bitsOf (s : ByteArray) (n : Nat) : List Int := (List.range n).map (bitAt s)
theorem bitsOf_length (s : ByteArray) (n : Nat) : (bitsOf s n).length = n := by simp [bitsOf]
theorem bitAt_01 (s : ByteArray) (i : Nat) : bitAt s i = 0 ∨ bitAt s i = 1 := by unfold bitAt; omega
theorem bitsOf_bits (s : ByteArray) (n : Nat) : Bits (bitsOf s n) := by
  intro x hx
  obtain ⟨j, _, rfl⟩ := List.mem_map.1 hx
  exact bitAt_01 s j
theorem bitsOf_getElem (s : ByteArray) (n i : Nat) (h : i < (bitsOf s n).length) : (bitsOf s n)[i] = bitAt s i := by simp [bitsOf]
/-- Nothing but noughts behind the first n bits. -/
def clean (s : ByteArray) (n : Nat) : Prop := ∀ i, n ≤ i → i < 8 * s.size → bitAt s i = 0
theorem bitsOf_pack {l : List Int} (h : Bits l) : bitsOf (strOfNums (pack l)) l.length = l := by
  apply List.ext_getElem
  · simp [bitsOf]
  · intro i h1 h2
    rw [bitsOf_getElem, bitAt, bt_strOfNums _ _ (by rw [pack_length]; omega) (pack_bound h), pack_bit h i h2]
theorem byte_bits (s : ByteArray) (j : Nat) : val ((List.range 8).map fun i => bt s (j : Int) / 2 ^ i % 2) = bt s (j : Int) := by
  have := bt_range s (j : Int)
  exact val_bits 8 _ this.1 (by omega)
theorem clean_pack {l : List Int} (h : Bits l) : clean (strOfNums (pack l)) l.length := by
  intro i h1 h2
  rw [strOfNums_size, pack_length] at h2
  rw [bitAt, bt_strOfNums _ _ (by rw [pack_length]; omega) (pack_bound h), pack_getD _ _ (by omega)]
  have hj : i / 8 = l.length / 8 := by omega
  have := byteAt_low h (i / 8) (by omega)
  have h0 := (byteAt_bound h (i / 8)).1
  have hp := two_pow_le (l.length - 8 * (i / 8)) (i % 8) (by omega)
  rw [Int.ediv_eq_zero_of_lt h0 (by omega)]
  rfl
theorem pack_bitsOf {s : ByteArray} {n : Nat} (h1 : s.size = (n + 7) / 8) (hc : clean s n) : strOfNums (pack (bitsOf s n)) = s := by
  have key : ∀ j, j < s.size → byteAt (bitsOf s n) j = bt s (j : Int) := by
    intro j hj
    rw [← byte_bits s j, byteAt]
    have hpad : ∀ m, m ≤ 8 → val ((List.range 8).map fun i => if i < m then bt s (j : Int) / 2 ^ i % 2 else 0) = val ((List.range m).map fun i => bt s (j : Int) / 2 ^ i % 2) := by
      intro m hm
      have e8 : List.range 8 = List.range m ++ (List.range (8 - m)).map (m + ·) := by
        rw [← List.range_add]; congr 1; omega
      rw [e8, List.map_append]
      have ez : ∀ (a b : List Int), (∀ x ∈ b, x = 0) → val (a ++ b) = val a := by
        intro a b hb
        induction a with
        | nil =>
          induction b with
          | nil => rfl
          | cons x t ih => simp only [List.nil_append, val] at *; rw [hb x List.mem_cons_self, ih (fun y hy => hb y (List.mem_cons_of_mem _ hy))]; rfl
        | cons x t ih => simp only [List.cons_append, val, ih]
      rw [ez]
      · congr 1
        apply List.map_congr_left
        intro i hi
        rw [if_pos (List.mem_range.1 hi)]
      · intro x hx
        obtain ⟨q, hq, rfl⟩ := List.mem_map.1 hx
        obtain ⟨q', _, rfl⟩ := List.mem_map.1 hq
        rw [if_neg (by omega)]
    have hm : ∃ m, m ≤ 8 ∧ ((bitsOf s n).drop (8 * j)).take 8 = (List.range m).map (fun i => bt s (j : Int) / 2 ^ i % 2) ∧ ∀ i, i < 8 → ¬ i < m → bt s (j : Int) / 2 ^ i % 2 = 0 := by
      refine ⟨min 8 (n - 8 * j), by omega, ?_, ?_⟩
      · apply List.ext_getElem
        · simp [bitsOf]
        · intro i h2 h3
          simp only [List.length_map, List.length_range] at h3
          rw [List.getElem_take, List.getElem_drop, bitsOf_getElem, bitAt]
          simp only [List.getElem_map, List.getElem_range]
          rw [show (8 * j + i) / 8 = j by omega, show (8 * j + i) % 8 = i by omega]
      · intro i hi hni
        have := hc (8 * j + i) (by omega) (by omega)
        rw [bitAt, show (8 * j + i) / 8 = j by omega, show (8 * j + i) % 8 = i by omega] at this
        exact this
    obtain ⟨m, hm1, hm2, hm3⟩ := hm
    rw [hm2, ← hpad m hm1]
    congr 1
    apply List.map_congr_left
    intro i hi
    by_cases h : i < m
    · rw [if_pos h]
    · rw [if_neg h, hm3 i (List.mem_range.1 hi) h]
  apply ByteArray.ext
  apply Array.ext
  · have := strOfNums_size (pack (bitsOf s n))
    rw [pack_length, bitsOf_length] at this
    show (strOfNums (pack (bitsOf s n))).size = s.size
    omega
  · intro i h2 h3
    have hi : i < (pack (bitsOf s n)).length := by rw [← strOfNums_size]; exact h2
    have hi' := hi
    rw [pack_length, bitsOf_length] at hi
    have hb := bt_strOfNums (pack (bitsOf s n)) i hi' (pack_bound (bitsOf_bits s n))
    rw [pack_getD _ _ (by rw [bitsOf_length]; exact hi), key i (by omega)] at hb
    rw [bt_nat _ _ (by rw [strOfNums_size]; exact hi'), bt_nat _ _ (by omega)] at hb
    exact UInt8.toNat_inj.1 (by exact_mod_cast hb)
/-- What the last byte has beyond the bits. -/
theorem clean_last {s : ByteArray} {n : Nat} (h1 : s.size = (n + 7) / 8) (hn : n % 8 ≠ 0) : bt s ((s.size : Int) - 1) / 2 ^ (n % 8) = 0 ↔ clean s n := by
  have hb := bt_range s ((s.size : Int) - 1)
  have ec : ((s.size : Int) - 1) = ((s.size - 1 : Nat) : Int) := by omega
  rw [ec] at hb ⊢
  constructor
  · intro h i hi1 hi2
    have e : i / 8 = s.size - 1 := by omega
    rw [bitAt, e]
    have hp := two_pow_le (n % 8) (i % 8) (by omega)
    have hp2 := two_pow_pos (n % 8)
    have hlt : bt s ((s.size - 1 : Nat) : Int) < 2 ^ (n % 8) := by
      rcases Int.lt_or_le (bt s ((s.size - 1 : Nat) : Int)) (2 ^ (n % 8)) with h' | h'
      · exact h'
      · have := Int.ediv_le_ediv hp2 h'
        rw [Int.ediv_self (by omega), h] at this
        omega
    rw [Int.ediv_eq_zero_of_lt hb.1 (by omega)]
    rfl
  · intro h
    have hv := byte_bits s (s.size - 1)
    have key : ∀ m, m ≤ 8 → n % 8 ≤ m → bt s ((s.size - 1 : Nat) : Int) < 2 ^ m → bt s ((s.size - 1 : Nat) : Int) < 2 ^ (n % 8) := by
      intro m
      induction m with
      | zero => intro _ h1 h2; have : n % 8 = 0 := by omega
                omega
      | succ m ih =>
        intro hm hle hlt
        by_cases e : n % 8 = m + 1
        · rw [e]; exact hlt
        · have hz := h (8 * (s.size - 1) + m) (by omega) (by omega)
          rw [bitAt, show (8 * (s.size - 1) + m) / 8 = s.size - 1 by omega, show (8 * (s.size - 1) + m) % 8 = m by omega] at hz
          refine ih (by omega) (by omega) ?_
          rw [Int.pow_succ] at hlt
          have hp := two_pow_pos m
          rcases Int.lt_or_le (bt s ((s.size - 1 : Nat) : Int)) (2 ^ m) with h' | h'
          · exact h'
          · have h1 : bt s ((s.size - 1 : Nat) : Int) / 2 ^ m = 1 := by
              have a1 := Int.ediv_le_ediv hp h'
              rw [Int.ediv_self (by omega)] at a1
              have a2 : bt s ((s.size - 1 : Nat) : Int) / 2 ^ m < 2 := Int.ediv_lt_of_lt_mul hp (by omega)
              omega
            rw [h1] at hz
            omega
    exact Int.ediv_eq_zero_of_lt hb.1 (key 8 (by omega) (by omega) (by omega))
end Go.Proofs.Ytinoabkfekomcaa.Coil
namespace Go.Proofs.YtinoabkfekomcaaW.PrintWords
open Go.RowKit
namespace Kd
section
variable {P : Program} {ops : Array Oper} {rest : List Oper} {o : Oper} {a : Act} {Q : Exit → Act → World → Prop} {W : World}
variable {α : Type}
/-- make([]T, 0, n): a row of none, with room. -/
theorem R_make0 (d : Kd α) {w0 W : World} (base e : Nat) (hgd : o.guard = none) {N : Tmp} (_hd : o.dst = some N) (t : TypeId) (x y : Operand) (ho : o.op = .makeSlice t x y) (n : Int) (hx : a.eval x = .int .i64 0) (hy : a.eval y = .int .i64 n)
    (ht : P.underlying t = some (.slice e)) (z : Value) (bytes : Nat) (hinfo : (P.info? e).map (fun i => (i.zero, i.size, i.bytes)) = some (some z, d.sz, bytes)) (hb0 : 0 < bytes)
    {ok : Nat → Prop} (hfresh : ok W.heap.size) (h0 : 0 ≤ n) (hl : n.toNat * bytes ≤ 281474976710656) (HB : Below base w0 W) (hbase : base ≤ W.heap.size)
    (h : ∀ v1 w1, d.R e w1 base ok v1 [] → Below base w0 w1 → W.grownBy w1 none → (∃ b, v1.ownBlock = some b ∧ W.heap.size ≤ b) → wpList P ops Q rest (a.put o.dst v1) w1) : wpList P ops Q (o :: rest) a W := by
  obtain ⟨m, rfl⟩ := Int.eq_ofNat_of_zero_le h0
  simp only [Int.toNat_natCast] at hl
  obtain ⟨i0, hi, hzz⟩ := Option.map_eq_some_iff.1 hinfo
  simp only [Prod.mk.injEq] at hzz
  obtain ⟨hz0, hz1, hz2⟩ := hzz
  have hm : m ≤ 281474976710656 := Nat.le_trans (Nat.le_mul_of_pos_right _ hb0) hl
  obtain ⟨w', hr, hown, hg⟩ := run_make_own (P := P) W base t e i0 z d.sz ht hi hz0 hz1 .i64 .i64 m (by rw [hz2, Nat.mul_comm]; exact hl) (by unfold maxLen; omega) hbase
  refine event_run hgd (w1 := w') (v := .slice (some ⟨W.heap.size, 0, none⟩) 0 m) ?_ (h _ _ ⟨fun k hk => ?_, [], hown, ?_⟩ (pw_below_grown HB none hbase hg (fun k hk => by cases hk)) hg ⟨W.heap.size, by simp [Value.ownBlock], Nat.le_refl _⟩)
  · simp [execOp, ho, hx, hy, hr]
  · have : W.heap.size = k := by simpa [Value.ownBlock] using hk
    subst this
    exact hfresh
  · exact Reps.none _ _
theorem S_make0 (d : Kd α) {w0 W : World} (base e : Nat) (hgd : o.guard = none) {N : Tmp} (hd : o.dst = some N) (t : TypeId) (x y : Operand) (ho : o.op = .makeSlice t x y) (n : Int) (hx : a.eval x = .int .i64 0) (hy : a.eval y = .int .i64 n)
    (ht : P.underlying t = some (.slice e)) (z : Value) (bytes : Nat) (hinfo : (P.info? e).map (fun i => (i.zero, i.size, i.bytes)) = some (some z, d.sz, bytes)) (hb0 : 0 < bytes)
    {ok : Nat → Prop} (hfresh : ok W.heap.size) (h0 : 0 ≤ n) (hl : n.toNat * bytes ≤ 281474976710656) (HB : Below base w0 W) (hbase : base ≤ W.heap.size)
    (h : ∀ v1 w1, S d e w1 base ok v1 [] → Below base w0 w1 → W.grownBy w1 none → (∃ b, v1.ownBlock = some b ∧ W.heap.size ≤ b) → wpList P ops Q rest (a.put o.dst v1) w1) : wpList P ops Q (o :: rest) a W :=
  R_make0 (bare d) base e hgd hd t x y ho n hx hy ht z bytes hinfo hb0 hfresh h0 hl HB hbase (fun v1 w1 hr => h v1 w1 (S_bare hr))
end
end Kd
theorem hand_enters {P : Program} {f : FuncId} {fn : Func} {c : Code} (hf : P.funcs[f]? = some fn) (hname : (fn.name == "runtime.NumGoroutine") = false) (hb : fn.body = some c) (args : Array Value) (w : World) : (callFunc f args).run P w = .ok (.enter f args) w := by
  have h1 : fn.name ≠ "runtime.NumGoroutine" := by simpa using hname
  simp [callFunc, hf, h1, hb, mark]
theorem hblk_new (W : World) (o : Obj) : (W.alloc o).heap[W.heap.size]? = some o := by
  show (W.heap.push o)[W.heap.size]? = some o
  exact Array.getElem?_push_size
theorem hblk_alloc {W : World} {g : Nat} {o o' : Obj} (h : W.heap[g]? = some o) : (W.alloc o').heap[g]? = some o := by
  have hg : g < W.heap.size := (Array.getElem?_eq_some_iff.1 h).1
  show (W.heap.push o')[g]? = some o
  rw [Array.getElem?_push_lt hg, ← h, Array.getElem?_eq_getElem hg]
theorem hblk_below {W w1 : World} {g : Nat} {o : Obj} (h : W.heap[g]? = some o) (hb : Below W.heap.size W w1) : w1.heap[g]? = some o :=
  (hb.block g (Array.getElem?_eq_some_iff.1 h).1).trans h
theorem hcells6 {W : World} {g : Nat} {a b c d e f : Value} {t : TypeId} (h : W.heap[g]? = some (.cells #[a, b, c, d, e, f] t (0, 0))) :
    W.cell? ⟨g, 0, none⟩ = some a ∧ W.cell? ⟨g, 1, none⟩ = some b ∧ W.cell? ⟨g, 2, none⟩ = some c ∧ W.cell? ⟨g, 3, none⟩ = some d ∧ W.cell? ⟨g, 4, none⟩ = some e ∧ W.cell? ⟨g, 5, none⟩ = some f :=
  ⟨(blk_cell h 0).trans rfl, (blk_cell h 1).trans rfl, (blk_cell h 2).trans rfl, (blk_cell h 3).trans rfl, (blk_cell h 4).trans rfl, (blk_cell h 5).trans rfl⟩
theorem hcells4 {W : World} {g : Nat} {a b c d : Value} {t : TypeId} (h : W.heap[g]? = some (.cells #[a, b, c, d] t (0, 0))) :
    W.cell? ⟨g, 0, none⟩ = some a ∧ W.cell? ⟨g, 1, none⟩ = some b ∧ W.cell? ⟨g, 2, none⟩ = some c ∧ W.cell? ⟨g, 3, none⟩ = some d :=
  ⟨(blk_cell h 0).trans rfl, (blk_cell h 1).trans rfl, (blk_cell h 2).trans rfl, (blk_cell h 3).trans rfl⟩
end Go.Proofs.YtinoabkfekomcaaW.PrintWords
namespace Go.Proofs.YtinoabkfekomcaaW.PrintWords
open Go Go.RowKit
section
variable {P : Program} {w : World} {t kt et : TypeId}
theorem map_put {es : Array MapEntry} {clock r : Nat} (a x : Int) (hm : P.underlying t = some (.map kt et)) (hk : P.underlying kt = some (.int .i64)) (hb : w.heap[r]? = some (.map es clock)) (hf : Instr.findNow (.int .i64) (.int .i64 a) es.toList 0 = some none) :
    (Instr.mapUpdate t (.map (some r)) (.int .i64 a) (.int .i64 x)).run P w = .ok () { w with heap := w.heap.setIfInBounds r (.map (es.push { key := .int .i64 a, val := .int .i64 x, born := clock }) (clock + 1)) } := by
  have hc : (Instr.checkKey false 10000 kt (.int .i64 a)).run P w = .ok () w := MapKept.run_checkKey (k := .int .i64 a) hk (by simp [MapKept.IsKey]) false 9999
  simp [Instr.mapUpdate, run_underlying hm, MapKept.run_getObj_map hb, hc, MapKept.run_findKey hk hf, MapKept.run_setObj_map _ hb, Result.andThen]
theorem alloc_over (W : World) (o o' : Obj) : { W.alloc o with heap := (W.alloc o).heap.setIfInBounds W.heap.size o' } = W.alloc o' := by
  have e : (W.heap.push o).setIfInBounds W.heap.size o' = W.heap.push o' := by
    apply Array.ext'
    simp
  show { W.alloc o with heap := (W.heap.push o).setIfInBounds W.heap.size o' } = W.alloc o'
  rw [e]
  rfl
def twoKeys (a x b y : Int) : Obj := .map #[⟨.int .i64 a, .int .i64 x, 0⟩, ⟨.int .i64 b, .int .i64 y, 1⟩] 2
theorem map_first (a x : Int) (W : World) (hm : P.underlying t = some (.map kt et)) (hk : P.underlying kt = some (.int .i64)) :
    (Instr.mapUpdate t (.map (some W.heap.size)) (.int .i64 a) (.int .i64 x)).run P (W.alloc (.map #[] 0)) = .ok () (W.alloc (.map #[⟨.int .i64 a, .int .i64 x, 0⟩] 1)) := by
  rw [map_put a x hm hk (hblk_new W _) rfl, alloc_over]
  rfl
theorem map_second (a x b y : Int) (W : World) (hm : P.underlying t = some (.map kt et)) (hk : P.underlying kt = some (.int .i64)) (hab : a ≠ b) :
    (Instr.mapUpdate t (.map (some W.heap.size)) (.int .i64 b) (.int .i64 y)).run P (W.alloc (.map #[⟨.int .i64 a, .int .i64 x, 0⟩] 1)) = .ok () (W.alloc (twoKeys a x b y)) := by
  have hf : Instr.findNow (.int .i64) (.int .i64 b) (#[⟨.int .i64 a, .int .i64 x, 0⟩] : Array MapEntry).toList 0 = some none := by
    have e : (b == a) = false := beq_eq_false_iff_ne.2 (Ne.symm hab)
    simp [Instr.findNow, Instr.sameNow, e]
  rw [map_put b y hm hk (hblk_new W _) hf, alloc_over]
  rfl
/-- What a map of two tells of a key. -/
def atTwo (a x b y k : Int) : Int := if k = a then x else if k = b then y else 0
def inTwo (a b k : Int) : Bool := k == a || k == b
theorem map_look (a x b y k : Int) (W : World) (hm : P.underlying t = some (.map kt et)) (hk : P.underlying kt = some (.int .i64)) (hz : ∀ w : World, (zeroValue et).run P w = .ok (.int .i64 0) w) :
    (Instr.lookup t (.map (some W.heap.size)) (.int .i64 k) true).run P (W.alloc (twoKeys a x b y)) = .ok (.tuple #[.int .i64 (atTwo a x b y k), .bool (inTwo a b k)]) (W.alloc (twoKeys a x b y)) := by
  have hb : (W.alloc (twoKeys a x b y)).heap[W.heap.size]? = some (.map #[⟨.int .i64 a, .int .i64 x, 0⟩, ⟨.int .i64 b, .int .i64 y, 1⟩] 2) := hblk_new W _
  have hc : (Instr.checkKey false 10000 kt (.int .i64 k)).run P (W.alloc (twoKeys a x b y)) = .ok () (W.alloc (twoKeys a x b y)) := MapKept.run_checkKey (k := .int .i64 k) hk (by simp [MapKept.IsKey]) false 9999
  unfold atTwo inTwo
  by_cases h1 : k = a
  · subst h1
    have hf : Instr.findNow (.int .i64) (.int .i64 k) [⟨.int .i64 k, .int .i64 x, 0⟩, ⟨.int .i64 b, .int .i64 y, 1⟩] 0 = some (some (0, .int .i64 x)) := by
      simp [Instr.findNow, Instr.sameNow]
    simp [Instr.lookup, run_underlying hm, MapKept.run_getObj_map hb, hc, MapKept.run_findKey hk hf, Result.andThen]
  · have e1 : (k == a) = false := beq_eq_false_iff_ne.2 h1
    by_cases h2 : k = b
    · subst h2
      have hf : Instr.findNow (.int .i64) (.int .i64 k) [⟨.int .i64 a, .int .i64 x, 0⟩, ⟨.int .i64 k, .int .i64 y, 1⟩] 0 = some (some (1, .int .i64 y)) := by
        simp [Instr.findNow, Instr.sameNow, e1]
      simp [Instr.lookup, run_underlying hm, MapKept.run_getObj_map hb, hc, MapKept.run_findKey hk hf, Result.andThen, h1]
    · have e2 : (k == b) = false := beq_eq_false_iff_ne.2 h2
      have hf : Instr.findNow (.int .i64) (.int .i64 k) [⟨.int .i64 a, .int .i64 x, 0⟩, ⟨.int .i64 b, .int .i64 y, 1⟩] 0 = some none := by
        simp [Instr.findNow, Instr.sameNow, e1, e2]
      simp [Instr.lookup, run_underlying hm, MapKept.run_getObj_map hb, hc, MapKept.run_findKey hk hf, Result.andThen, hz, h1, h2]
end
end Go.Proofs.YtinoabkfekomcaaW.PrintWords
