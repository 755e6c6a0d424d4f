/- Plain facts on whole numbers, bits and lists: no Go in sight. -/
import Derived.Test.YtjllahglfpbemaaDoorWMore
import Derived.Laws.BitsLemmas
import Derived.Laws.Bits64
namespace Go.Proofs.YtjllahglfpbemaaDoor.Base
open Go.RowKit Go.Proofs.YtjllahglfpbemaaDoorW.PrintWords

theorem w64 {n : Int} (h0 : -9223372036854775808 ≤ n) (h1 : n ≤ 9223372036854775807) : wrap64 n = n := by
  unfold wrap64; omega
theorem u64w {n : Int} (h0 : 0 ≤ n) (h1 : n < 18446744073709551616) : IntKind.u64.wrap n = n := by
  rw [IntKind.wrap_u64]; omega
theorem wraps_i64 (n : Int) (h₀ : 0 ≤ n) (h₁ : n < 2 ^ 63) : IntKind.i64.wrap n = n := by
  rw [IntKind.wrap_i64]; omega
theorem and7 (x : Int) (h0 : 0 ≤ x) (h1 : x < 9223372036854775808) : Go.bits .and .i64 x 7 = x % 8 :=
  bits_mask .i64 63 (by decide) wraps_i64 3 (by decide) x h0 (by omega)
theorem and1 (x : Int) (h0 : 0 ≤ x) (h1 : x < 9223372036854775808) : Go.bits .and .i64 x 1 = x % 2 :=
  bits_mask .i64 63 (by decide) wraps_i64 1 (by decide) x h0 (by omega)
theorem bits_or_comm (k : IntKind) (x y : Int) : Go.bits .or k x y = Go.bits .or k y x := by
  unfold Go.bits; simp only [BitVec.or_comm]
theorem two_pow_le (m n : Nat) (h : m ≤ n) : (2 : Int) ^ m ≤ 2 ^ n := by
  have := Nat.pow_le_pow_right (n := 2) (by decide) h
  exact_mod_cast this
theorem two_pow_pos (m : Nat) : (0 : Int) < 2 ^ m := by
  have := Nat.two_pow_pos m
  exact_mod_cast this
/-- A bit set above all that is there. -/
theorem or_top (a : Int) (m : Nat) (hm : m < 8) (h0 : 0 ≤ a) (h1 : a < 2 ^ m) : Go.bits .or .u8 a (2 ^ m) = a + 2 ^ m := by
  have hp := two_pow_le m 7 (by omega)
  have hp2 : (2 : Int) ^ 7 < 2 ^ 8 := by decide
  rw [bits_or_comm, bits_join .u8 8 (by decide) wraps_u8 m (2 ^ m) a (Int.pow_nonneg (by decide)) (Int.emod_self) (by omega) h0 h1 (by omega)]
  omega
theorem shl_one (m : Nat) (hm : m < 8) : shl .u8 1 (m : Int) = 2 ^ m := by
  have hp := two_pow_le m 7 (by omega)
  have h0 : (0 : Int) ≤ 2 ^ m := Int.pow_nonneg (by decide)
  unfold shl
  have e : min (m : Int).toNat IntKind.u8.bits = m := by simp [IntKind.bits]; omega
  rw [e, IntKind.wrap_u8]
  omega
theorem shl_i64 (x : Int) (m : Nat) (hm : m < 8) (hx : x = 0 ∨ x = 1) : shl .i64 x (m : Int) = x * 2 ^ m := by
  have hp := two_pow_le m 7 (by omega)
  have h0 : (0 : Int) ≤ 2 ^ m := Int.pow_nonneg (by decide)
  unfold shl
  have e : min (m : Int).toNat IntKind.i64.bits = m := by simp [IntKind.bits]; omega
  rw [e, IntKind.wrap_i64]
  rcases hx with rfl | rfl <;> omega
theorem shr_eq (k : IntKind) (x : Int) (m : Nat) (hm : m < 8) : shr k x (m : Int) = x / 2 ^ m := by
  unfold shr
  have e : min (m : Int).toNat k.bits = m := by cases k <;> simp [IntKind.bits] <;> omega
  rw [e]
theorem tdiv8 {x : Int} (h : 0 ≤ x) : Int.tdiv x 8 = x / 8 := Int.tdiv_eq_ediv_of_nonneg h
theorem tmod8 {x : Int} (h : 0 ≤ x) : Int.tmod x 8 = x % 8 := Int.tmod_eq_emod_of_nonneg h
theorem wf64 {n : Int} (h : (Lit.int .i64 n).wf = true) : -9223372036854775808 ≤ n ∧ n ≤ 9223372036854775807 := by
  simpa [Lit.wf, IntKind.min, IntKind.max, IntKind.signed, IntKind.bits] using h
theorem wf8 {n : Int} (h : (Lit.int .u8 n).wf = true) : 0 ≤ n ∧ n ≤ 255 := by
  simpa [Lit.wf, IntKind.min, IntKind.max, IntKind.signed, IntKind.bits] using h
theorem wf16 {n : Int} (h : (Lit.int .u16 n).wf = true) : 0 ≤ n ∧ n ≤ 65535 := by
  simpa [Lit.wf, IntKind.min, IntKind.max, IntKind.signed, IntKind.bits] using h
theorem rd_nat (xs : List Int) (i : Nat) : rd xs (i : Int) = xs.getD i 0 := by simp [rd]
theorem bt_nat (s : ByteArray) (i : Nat) (h : i < s.size) : bt s (i : Int) = (s[i].toNat : Int) := by simp [bt, h]
theorem bt_strOfNums (xs : List Int) (i : Nat) (h : i < xs.length) (hb : ∀ x ∈ xs, 0 ≤ x ∧ x ≤ 255) : bt (strOfNums xs) (i : Int) = xs.getD i 0 := by
  have hs : i < (strOfNums xs).size := by rw [strOfNums_size]; exact h
  have hx := hb xs[i] (List.getElem_mem h)
  rw [bt_nat _ _ hs, List.getD_eq_getElem?_getD, List.getElem?_eq_getElem h]
  simp only [strOfNums, ByteArray.getElem_eq_getElem_data, List.getElem_toArray, List.getElem_map, Option.getD_some]
  rw [UInt8.toNat_ofNat']
  omega
end Go.Proofs.YtjllahglfpbemaaDoor.Base
