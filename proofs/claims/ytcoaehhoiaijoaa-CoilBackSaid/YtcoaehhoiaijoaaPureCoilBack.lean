/- CoilBack: bits that have bytes come back, and bytes that have bits are theirs, within the sizes that the law lets in. -/
import Derived.Test.YtcoaehhoiaijoaaCoilGetCoilBack
namespace Go.Proofs.Ytcoaehhoiaijoaa.CoilCoilBack
open Go.RowKit Go.Proofs.Ytcoaehhoiaijoaa.PCoilBack Go.Proofs.YtcoaehhoiaijoaaW.PrintWords Go.Proofs.YtcoaehhoiaijoaaW.PrintLast Go.Proofs.Ytcoaehhoiaijoaa.Base Go.Proofs.Ytcoaehhoiaijoaa.Coil

theorem ints_loop (l : List Int) (hl : l.length ≤ 9223372036854775806) (d : Nat) : ∀ (k i : Nat), i ≤ l.length → l.length - i = d → d < k → gatewardenref01_Ints.l0 k l l (i : Int) = some true := by
  induction d with
  | zero =>
    intro k i hi hd hk
    obtain ⟨k, rfl⟩ : ∃ m, k = m + 1 := ⟨k - 1, by omega⟩
    simp only [gatewardenref01_Ints.l0]
    rw [if_neg (by omega)]
  | succ d ih =>
    intro k i hi hd hk
    obtain ⟨k, rfl⟩ : ∃ m, k = m + 1 := ⟨k - 1, by omega⟩
    have hw : wrap64 ((i : Int) + 1) = ((i + 1 : Nat) : Int) := by rw [w64 (by omega) (by omega)]; omega
    simp only [gatewardenref01_Ints.l0]
    rw [if_pos (by omega), if_pos (by omega), if_pos (by omega), if_pos True.intro, hw]
    exact ih k (i + 1) (by omega) (by omega) (by omega)
theorem ints_same (l : List Int) (hl : l.length ≤ 9223372036854775806) (k : Nat) (hk : l.length < k) : gatewardenref01_Ints.f k l l = some true := by
  unfold gatewardenref01_Ints.f
  rw [if_pos rfl]
  exact ints_loop l hl l.length k 0 (by omega) (by omega) hk
theorem awake_true (k : Nat) (hk : 20 ≤ k) : gatewardenlaw05_awake.f k = some true := by
  refine at_rounds gatewardenlaw05_awake.mono hk ?_
  decide +kernel
theorem put_size (l : List Int) : (put l).1.size ≤ (l.length + 7) / 8 := by
  unfold put
  split
  · rw [strOfNums_size, pack_length]; omega
  · exact Nat.zero_le _
theorem get_length (s : ByteArray) (n : Int) : (get s n).1.length ≤ 8 * s.size := by
  unfold get
  split
  · rw [bitsOf_length]; omega
  · simp
theorem toList_nil : (⟨#[]⟩ : ByteArray).toList = [] := by decide +kernel
/-- The second half: bytes that have bits are theirs. -/
theorem half (s : ByteArray) (n : Int) (h0 : 0 ≤ n) : (if (get s n).2 = true then (if (put (get s n).1).2 = true then (if (put (get s n).1).1.toList = s.toList then (some (((get s n).1.length : Int) == n)) else (some false)) else (some false)) else (some true)) = some true := by
  by_cases h : 0 ≤ n ∧ n ≤ 8 * (s.size : Int) ∧ s.size = (n.toNat + 7) / 8 ∧ clean s n.toNat
  · have e : get s n = (bitsOf s n.toNat, true) := by unfold get; rw [if_pos h]
    rw [e, put_yes (bitsOf_bits s _), pack_bitsOf h.2.2.1 h.2.2.2, if_pos rfl, if_pos rfl, if_pos rfl, bitsOf_length]
    congr 1
    simp only [beq_iff_eq]
    omega
  · have e : get s n = (([] : List Int), false) := by unfold get; rw [if_neg h]
    rw [e, if_neg (by decide)]
end Go.Proofs.Ytcoaehhoiaijoaa.CoilCoilBack
namespace Go.Proofs.Ytcoaehhoiaijoaa.Pure
open Go.RowKit Go.Proofs.Ytcoaehhoiaijoaa.PCoilBack Go.Proofs.YtcoaehhoiaijoaaW.PrintWords Go.Proofs.Ytcoaehhoiaijoaa.CoilCoilBack Go.Proofs.Ytcoaehhoiaijoaa.Base Go.Proofs.Ytcoaehhoiaijoaa.Coil
theorem CoilBack : gatewardenlaw05_CoilBack.Pure := by
  intro l s n _ _ _ _ hn
  have hn := wf8 hn
  refine ⟨4001, ?_⟩
  unfold gatewardenlaw05_CoilBack.f
  have out : gatewardenlaw05_CoilBack.j0 4001 l s n true = some true := by
    simp only [gatewardenlaw05_CoilBack.j0, if_true]
    rw [awake_true _ (by decide)]; rfl
  by_cases h1 : (l.length : Int) > 300
  · rw [if_pos h1]; exact out
  · rw [if_neg h1]
    by_cases h2 : (s.size : Int) > 100
    · rw [decide_eq_true h2]; exact out
    · rw [decide_eq_false h2]
      have hp := put_size l
      have hg := get_length s n
      have hh := half s n hn.1
      simp only [gatewardenlaw05_CoilBack.j0]
      rw [if_neg (by decide), put_eq l (by omega) _ (by omega), Option.bind_some, get_eq _ _ (by omega) (by omega) _ (by omega), Option.bind_some, w64 (n := n) (by omega) (by omega), get_eq s n (by omega) (by omega) _ (by omega), Option.bind_some, put_eq _ (by omega) _ (by omega), Option.bind_some, awake_true _ (by decide), Option.bind_some, if_pos rfl, hh]
      by_cases hb : Bits l
      · rw [put_yes hb, get_yes (by rw [strOfNums_size, pack_length]) (clean_pack hb), bitsOf_pack hb, if_pos rfl, if_pos rfl, ints_same l (by omega) _ (by omega), Option.bind_some, if_pos rfl, size_pos _ (by omega), Option.bind_some, if_pos (by rw [strOfNums_size, pack_length])]
      · rw [put_no hb, if_neg (by decide), toList_nil, if_pos rfl]
end Go.Proofs.Ytcoaehhoiaijoaa.Pure
