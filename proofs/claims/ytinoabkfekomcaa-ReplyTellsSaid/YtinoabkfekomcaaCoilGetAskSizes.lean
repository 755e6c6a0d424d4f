/- What coil's Get tells (as it is printed for the law AskSizes): the bits of bytes, where what is beyond them is nought. -/
import Derived.Test.YtinoabkfekomcaaCoilFunAskSizes
namespace Go.Proofs.Ytinoabkfekomcaa.CoilAskSizes
open Go.RowKit Go.Proofs.Ytinoabkfekomcaa.PAskSizes Go.Proofs.YtinoabkfekomcaaW.PrintWords Go.Proofs.YtinoabkfekomcaaW.PrintLast Go.Proofs.Ytinoabkfekomcaa.Base Go.Proofs.Ytinoabkfekomcaa.Coil

/-- The bits that are read so far, noughts behind. -/
def read (s : ByteArray) (n i : Nat) : List Int := bitsOf s i ++ List.replicate (n - i) 0
theorem read_length (s : ByteArray) (n i : Nat) (h : i ≤ n) : (read s n i).length = n := by simp [read, bitsOf_length]; omega
theorem read_step (s : ByteArray) (n i : Nat) (h : i < n) : (read s n i).set i (bitAt s i) = read s n (i + 1) := by
  unfold read
  have e : List.replicate (n - i) (0 : Int) = 0 :: List.replicate (n - (i + 1)) 0 := by
    rw [show n - i = (n - (i + 1)) + 1 by omega, List.replicate_succ]
  rw [e, List.set_append_right i (bitAt s i) (by rw [bitsOf_length]; omega), bitsOf_length, Nat.sub_self, List.set_cons_zero]
  unfold bitsOf
  rw [List.range_succ, List.map_append, List.append_assoc]
  rfl
def tail (s : ByteArray) (n : Nat) : List Int × Bool := if n % 8 = 0 then (bitsOf s n, true) else if bt s ((s.size : Int) - 1) / 2 ^ (n % 8) = 0 then (bitsOf s n, true) else (([] : List Int), false)
theorem get_loop (s : ByteArray) (n : Nat) (hs : s.size = (n + 7) / 8) (hn : n ≤ 1099511627776) (d : Nat) : ∀ (k i : Nat), i ≤ n → n - i = d → d < k →
    coil_Get.l0 k s (n : Int) (read s n i) (n : Int) (i : Int) = some (tail s n) := by
  induction d with
  | zero =>
    intro k i hi hd hk
    obtain ⟨k, rfl⟩ : ∃ m, k = m + 1 := ⟨k - 1, by omega⟩
    obtain rfl : i = n := by omega
    have e : read s i i = bitsOf s i := by simp [read]
    have h7 : Go.bits .and .i64 (i : Int) 7 = ((i % 8 : Nat) : Int) := by rw [and7 _ (by omega) (by omega)]; omega
    simp only [coil_Get.l0]
    rw [if_neg (by omega), e, h7]
    unfold tail
    by_cases h : i % 8 = 0
    · rw [if_pos (by omega), if_pos h]
    · rw [if_neg (by omega), if_neg h]
      rw [w64 (by omega) (by omega), if_pos (by omega), if_pos (by omega), u64w (by omega) (by omega), if_pos (by omega), shr_eq _ _ _ (by omega)]
      split <;> rfl
  | succ d ih =>
    intro k i hi hd hk
    obtain ⟨k, rfl⟩ : ∃ m, k = m + 1 := ⟨k - 1, by omega⟩
    have hlt : i < n := by omega
    have hw : wrap64 ((i : Int) + 1) = ((i + 1 : Nat) : Int) := by rw [w64 (by omega) (by omega)]; omega
    have hd8 : ((i : Int) / 8) = ((i / 8 : Nat) : Int) := by omega
    have h7 : IntKind.u64.wrap (Go.bits .and .i64 (i : Int) 7) = ((i % 8 : Nat) : Int) := by
      rw [and7 _ (by omega) (by omega), u64w (by omega) (by omega)]; omega
    have hb := bt_range s ((i / 8 : Nat) : Int)
    have hp := two_pow_pos (i % 8)
    have hv0 : 0 ≤ bt s ((i / 8 : Nat) : Int) / 2 ^ (i % 8) := Int.ediv_nonneg hb.1 (by omega)
    have hv1 : bt s ((i / 8 : Nat) : Int) / 2 ^ (i % 8) ≤ bt s ((i / 8 : Nat) : Int) := Int.ediv_le_self _ hb.1
    have hval : Go.bits .and .i64 (wrap64 (bt s ((i / 8 : Nat) : Int) / 2 ^ (i % 8))) 1 = bitAt s i := by
      rw [w64 (by omega) (by omega), and1 _ hv0 (by omega)]; rfl
    simp only [coil_Get.l0]
    rw [if_pos (by omega), hd8, if_pos (by omega), if_pos (by omega), h7, if_pos (by omega), if_pos (by omega), if_pos (by rw [read_length _ _ _ hi]; omega), shr_eq _ _ _ (by omega), hval, hw, Int.toNat_natCast, read_step _ _ _ hlt]
    exact ih k (i + 1) (by omega) (by omega) (by omega)
theorem tail_clean (s : ByteArray) (n : Nat) (hs : s.size = (n + 7) / 8) (h : clean s n) : tail s n = (bitsOf s n, true) := by
  unfold tail
  split
  · rfl
  · rename_i hn
    rw [if_pos ((clean_last hs hn).2 h)]
theorem tail_not (s : ByteArray) (n : Nat) (hs : s.size = (n + 7) / 8) (h : ¬ clean s n) : tail s n = (([] : List Int), false) := by
  unfold tail
  split
  · rename_i hn
    exact absurd (fun i h1 h2 => by omega) h
  · rename_i hn
    rw [if_neg (fun e => h ((clean_last hs hn).1 e))]
open Classical in
noncomputable def get (s : ByteArray) (n : Int) : List Int × Bool :=
  if 0 ≤ n ∧ n ≤ 8 * (s.size : Int) ∧ s.size = (n.toNat + 7) / 8 ∧ clean s n.toNat then (bitsOf s n.toNat, true) else (([] : List Int), false)
theorem get_eq (s : ByteArray) (n : Int) (hs : s.size ≤ 8589934592) (hn : n ≤ 1099511627776) (k : Nat) (hk : 8 * s.size + 2 ≤ k) : coil_Get.f k s n = some (get s n) := by
  obtain ⟨k, rfl⟩ : ∃ m, k = m + 1 := ⟨k - 1, by omega⟩
  unfold coil_Get.f get
  by_cases h0 : n < 0
  · rw [if_pos h0, if_neg (by omega)]
    simp only [coil_Get.j0]
    rfl
  · rw [if_neg h0, w64 (by omega) (by omega)]
    by_cases h1 : n > 8 * (s.size : Int)
    · rw [if_pos h1, if_neg (by omega)]
      simp only [coil_Get.j0]
      rfl
    · obtain ⟨m, rfl⟩ := Int.eq_ofNat_of_zero_le (show 0 ≤ n by omega)
      rw [if_neg h1, size_pos m (by omega), Option.bind_some, Int.toNat_natCast]
      by_cases h2 : s.size = (m + 7) / 8
      · have e : (((((m + 7) / 8 : Nat) : Int)) != (s.size : Int)) = false := by simp; omega
        rw [e]
        simp only [coil_Get.j0]
        rw [if_neg (by decide), if_pos (by omega), if_pos (by omega), Option.bind_some, Int.toNat_natCast, List.length_replicate]
        have hl := get_loop s m h2 (by omega) m k 0 (by omega) (by omega) (by omega)
        have er : read s m 0 = List.replicate m 0 := by simp [read, bitsOf]
        rw [er] at hl
        refine hl.trans ?_
        by_cases hc : clean s m
        · rw [if_pos ⟨by omega, by omega, h2, hc⟩, tail_clean s m h2 hc]
        · rw [if_neg (fun h => hc h.2.2.2), tail_not s m h2 hc]
      · have e : (((((m + 7) / 8 : Nat) : Int)) != (s.size : Int)) = true := by simp; omega
        rw [e, if_neg (fun h => h2 h.2.2.1)]
        simp only [coil_Get.j0]
        rfl
theorem get_yes {s : ByteArray} {n : Nat} (h : s.size = (n + 7) / 8) (hc : clean s n) : get s (n : Int) = (bitsOf s n, true) := by
  unfold get; rw [if_pos ⟨by omega, by omega, by simpa using h, by simpa using hc⟩, Int.toNat_natCast]
end Go.Proofs.Ytinoabkfekomcaa.CoilAskSizes
