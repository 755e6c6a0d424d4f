/- CoilTells: the bytes of any numbers, how many bytes bits take, and the bits of any bytes are the document's, within the sizes that the law lets in. -/
import Derived.Test.YtcoaehhoiaijoaaCoilGetCoilTells
namespace Go.Proofs.Ytcoaehhoiaijoaa.CoilCoilTells
open Go.RowKit Go.Proofs.Ytcoaehhoiaijoaa.PCoilTells Go.Proofs.YtcoaehhoiaijoaaW.PrintWords Go.Proofs.YtcoaehhoiaijoaaW.PrintLast Go.Proofs.Ytcoaehhoiaijoaa.Base Go.Proofs.Ytcoaehhoiaijoaa.Coil

theorem ref_size_pos (n : Nat) (h : n ≤ 1099511627776) : gatewardenref05_Size.f (n : Int) = some (((n + 7) / 8 : Nat) : Int) := by
  unfold gatewardenref05_Size.f
  rw [if_neg (by omega), w64 (n := (n : Int) + 7) (by omega) (by omega), tdiv8 (by omega), w64 (by omega) (by omega)]
  congr 1
theorem ref_size_neg (a : Int) (h : a < 0) : gatewardenref05_Size.f a = some 0 := by
  unfold gatewardenref05_Size.f
  rw [if_pos h]
theorem ref_put_loop (l : List Int) (hl : l.length ≤ 1099511627776) (d : Nat) : ∀ (k i : Nat), i ≤ l.length → l.length - i = d → Bits (l.take i) → d < k →
    gatewardenref05_Put.l0 k l (packed l ((l.length + 7) / 8) i) (i : Int) = some (if okB (l.drop i) then (strOfNums (pack l), true) else ((⟨#[]⟩ : ByteArray), false)) := by
  induction d with
  | zero =>
    intro k i hi hd _ hk
    obtain ⟨k, rfl⟩ : ∃ m, k = m + 1 := ⟨k - 1, by omega⟩
    obtain rfl : i = l.length := by omega
    simp only [gatewardenref05_Put.l0]
    rw [if_neg (by omega), packed_full]
    simp [okB]
  | succ d ih =>
    intro k i hi hd hb hk
    obtain ⟨k, rfl⟩ : ∃ m, k = m + 1 := ⟨k - 1, by omega⟩
    have hlt : i < l.length := by omega
    have hrd : rd l (i : Int) = l[i] := by rw [rd_nat, List.getD_eq_getElem?_getD, List.getElem?_eq_getElem hlt]; rfl
    have hdrop : l.drop i = l[i] :: l.drop (i + 1) := List.drop_eq_getElem_cons hlt
    have htake : l.take (i + 1) = l.take i ++ [l[i]] := List.take_succ_eq_append_getElem hlt
    have hw : wrap64 ((i : Int) + 1) = ((i + 1 : Nat) : Int) := by rw [w64 (by omega) (by omega)]; omega
    have hd8 : wrap64 (Int.tdiv (i : Int) 8) = ((i / 8 : Nat) : Int) := by rw [tdiv8 (by omega), w64 (by omega) (by omega)]; omega
    have h7 : IntKind.u64.wrap (Int.tmod (i : Int) 8) = ((i % 8 : Nat) : Int) := by
      rw [tmod8 (by omega), u64w (by omega) (by omega)]; omega
    have hn : i / 8 < (l.length + 7) / 8 := by omega
    have hlow := packed_low hb ((l.length + 7) / 8) hlt hn
    have hp := two_pow_le (i % 8) 7 (by omega)
    have hp0 := two_pow_pos (i % 8)
    simp only [gatewardenref05_Put.l0]
    rw [if_pos (by omega), if_pos (by omega), hrd, hd8, h7]
    have hbit : ∀ (hbit : l[i] = 0 ∨ l[i] = 1), (packed l ((l.length + 7) / 8) i).set ((i / 8 : Nat) : Int).toNat (((rd (packed l ((l.length + 7) / 8) i) ((i / 8 : Nat) : Int)) + ((shl .i64 l[i] ((i % 8 : Nat) : Int)) % 256)) % 256) = packed l ((l.length + 7) / 8) (i + 1) := by
      intro hbit
      rw [shl_i64 _ _ (by omega) hbit, rd_nat, Int.toNat_natCast, packed_step l _ i hlt]
      congr 1
      have : 0 ≤ l[i] * 2 ^ (i % 8) ∧ l[i] * 2 ^ (i % 8) ≤ 2 ^ (i % 8) := by rcases hbit with h | h <;> rw [h] <;> omega
      omega
    by_cases h0 : l[i] = 0
    · rw [if_pos h0, if_pos (by omega), if_pos (by rw [packed_length]; omega), if_pos (by omega), hbit (.inl h0), hw, ih k (i + 1) (by omega) (by omega) (by rw [htake]; exact hb.snoc (.inl h0)) (by omega)]
      rw [hdrop, okB_cons, h0]; rfl
    · rw [if_neg h0]
      by_cases h1 : l[i] = 1
      · rw [if_pos h1, if_pos (by omega), if_pos (by rw [packed_length]; omega), if_pos (by omega), hbit (.inr h1), hw, ih k (i + 1) (by omega) (by omega) (by rw [htake]; exact hb.snoc (.inr h1)) (by omega)]
        rw [hdrop, okB_cons, h1]; rfl
      · rw [if_neg h1, hdrop, okB_cons, beq_eq_false_iff_ne.2 h0, beq_eq_false_iff_ne.2 h1]
        rfl
theorem ref_put_eq (l : List Int) (hl : l.length ≤ 1099511627776) (k : Nat) (hk : l.length < k) : gatewardenref05_Put.f k l = some (put l) := by
  have h := ref_put_loop l hl l.length k 0 (by omega) (by omega) (fun x hx => by simp at hx) hk
  unfold gatewardenref05_Put.f
  rw [ref_size_pos _ hl, Option.bind_some, if_pos (by omega), if_pos (by omega), Int.toNat_natCast, ← packed_zero l]
  simpa [put] using h
open Classical in
theorem ref_get_loop (s : ByteArray) (n : Nat) (hs : s.size = (n + 7) / 8) (hn : n ≤ 1099511627776) (d : Nat) : ∀ (k i : Nat), i ≤ 8 * s.size → 8 * s.size - i = d → (∀ j, n ≤ j → j < i → bitAt s j = 0) → d < k →
    gatewardenref05_Get.l0 k s (n : Int) (bitsOf s (min i n)) (i : Int) = some (if clean s n then (bitsOf s n, true) else (([] : List Int), false)) := by
  induction d with
  | zero =>
    intro k i hi hd hc hk
    obtain ⟨k, rfl⟩ : ∃ m, k = m + 1 := ⟨k - 1, by omega⟩
    simp only [gatewardenref05_Get.l0]
    rw [w64 (by omega) (by omega), if_neg (by omega), if_pos (show clean s n from fun j h1 h2 => hc j h1 (by omega)), show min i n = n by omega]
  | succ d ih =>
    intro k i hi hd hc hk
    obtain ⟨k, rfl⟩ : ∃ m, k = m + 1 := ⟨k - 1, by omega⟩
    have hw : wrap64 ((i : Int) + 1) = ((i + 1 : Nat) : Int) := by rw [w64 (by omega) (by omega)]; omega
    have hd8 : wrap64 (Int.tdiv (i : Int) 8) = ((i / 8 : Nat) : Int) := by rw [tdiv8 (by omega), w64 (by omega) (by omega)]; omega
    have h7 : IntKind.u64.wrap (Int.tmod (i : Int) 8) = ((i % 8 : Nat) : Int) := by
      rw [tmod8 (by omega), u64w (by omega) (by omega)]; omega
    have hb := bt_range s ((i / 8 : Nat) : Int)
    have hv0 : 0 ≤ bt s ((i / 8 : Nat) : Int) / 2 ^ (i % 8) := Int.ediv_nonneg hb.1 (by have := two_pow_pos (i % 8); omega)
    have hval : Int.tmod (shr .i64 (wrap64 (bt s ((i / 8 : Nat) : Int))) ((i % 8 : Nat) : Int)) 2 = bitAt s i := by
      rw [w64 (by omega) (by omega), shr_eq _ _ _ (by omega), Int.tmod_eq_emod_of_nonneg hv0]; rfl
    simp only [gatewardenref05_Get.l0]
    rw [w64 (n := 8 * (s.size : Int)) (by omega) (by omega), if_pos (by omega), hd8, if_pos (by omega), if_pos (by omega), h7, if_pos (by omega), hval, hw]
    by_cases h : i < n
    · rw [if_pos (by omega), if_pos (by rw [bitsOf_length]; omega)]
      have e : bitsOf s (min i n) ++ [bitAt s i] = bitsOf s (min (i + 1) n) := by
        rw [show min i n = i by omega, show min (i + 1) n = i + 1 by omega]
        unfold bitsOf
        rw [List.range_succ, List.map_append]; rfl
      rw [e]
      exact ih k (i + 1) (by omega) (by omega) (fun j h1 h2 => by omega) (by omega)
    · rw [if_neg (by omega)]
      by_cases h0 : bitAt s i = 0
      · rw [if_pos h0, show min i n = min (i + 1) n by omega]
        exact ih k (i + 1) (by omega) (by omega) (fun j h1 h2 => by
          by_cases e : j = i
          · rw [e]; exact h0
          · exact hc j h1 (by omega)) (by omega)
      · rw [if_neg h0, if_neg (fun hcl => h0 (hcl i (by omega) (by omega)))]
theorem ref_get_eq (s : ByteArray) (n : Int) (hs : s.size ≤ 8589934592) (hn : n ≤ 1099511627776) (k : Nat) (hk : 8 * s.size + 2 ≤ k) : gatewardenref05_Get.f k s n = some (get s n) := by
  obtain ⟨k, rfl⟩ : ∃ m, k = m + 1 := ⟨k - 1, by omega⟩
  unfold gatewardenref05_Get.f get
  by_cases h0 : n < 0
  · rw [if_pos h0, if_neg (by omega)]
    simp only [gatewardenref05_Get.j0]
    rfl
  · rw [if_neg h0, w64 (by omega) (by omega)]
    by_cases h1 : n > 8 * (s.size : Int)
    · rw [if_pos h1, if_neg (by omega)]
      simp only [gatewardenref05_Get.j0]
      rfl
    · obtain ⟨m, rfl⟩ := Int.eq_ofNat_of_zero_le (show 0 ≤ n by omega)
      rw [if_neg h1, ref_size_pos m (by omega), Option.bind_some, Int.toNat_natCast]
      by_cases h2 : s.size = (m + 7) / 8
      · have e : ((s.size : Int) != ((((m + 7) / 8 : Nat) : Int))) = false := by simp; omega
        rw [e]
        simp only [gatewardenref05_Get.j0]
        rw [if_neg (by decide)]
        have hl := ref_get_loop s m h2 (by omega) (8 * s.size) k 0 (by omega) (by omega) (fun j _ h => by omega) (by omega)
        rw [show bitsOf s (min 0 m) = [] by simp [bitsOf]] at hl
        refine hl.trans ?_
        by_cases hc : clean s m
        · rw [if_pos hc, if_pos ⟨by omega, by omega, h2, hc⟩]
        · rw [if_neg hc, if_neg (fun h => hc h.2.2.2)]
      · have e : ((s.size : Int) != ((((m + 7) / 8 : Nat) : Int))) = true := by simp; omega
        rw [e, if_neg (fun h => h2 h.2.2.1)]
        simp only [gatewardenref05_Get.j0]
        rfl
theorem ints_loop (l : List Int) (hl : l.length ≤ 9223372036854775806) (d : Nat) : ∀ (k i : Nat), i ≤ l.length → l.length - i = d → d < k → gatewardenref01_Ints.l0 k l l (i : Int) = some true := by
  induction d with
  | zero =>
    intro k i hi hd hk
    obtain ⟨k, rfl⟩ : ∃ m, k = m + 1 := ⟨k - 1, by omega⟩
    simp only [gatewardenref01_Ints.l0]
    rw [if_neg (by omega)]
  | succ d ih =>
    intro k i hi hd hk
    obtain ⟨k, rfl⟩ : ∃ m, k = m + 1 := ⟨k - 1, by omega⟩
    have hw : wrap64 ((i : Int) + 1) = ((i + 1 : Nat) : Int) := by rw [w64 (by omega) (by omega)]; omega
    simp only [gatewardenref01_Ints.l0]
    rw [if_pos (by omega), if_pos (by omega), if_pos (by omega), if_pos True.intro, hw]
    exact ih k (i + 1) (by omega) (by omega) (by omega)
theorem ints_same (l : List Int) (hl : l.length ≤ 9223372036854775806) (k : Nat) (hk : l.length < k) : gatewardenref01_Ints.f k l l = some true := by
  unfold gatewardenref01_Ints.f
  rw [if_pos rfl]
  exact ints_loop l hl l.length k 0 (by omega) (by omega) hk
theorem awake_true (k : Nat) (hk : 20 ≤ k) : gatewardenlaw05_awake.f k = some true := by
  refine at_rounds gatewardenlaw05_awake.mono hk ?_
  decide +kernel
theorem get_length (s : ByteArray) (n : Int) : (get s n).1.length ≤ 8 * s.size := by
  unfold get
  split
  · rw [bitsOf_length]; omega
  · simp
theorem size_same (a : Int) (h : a ≤ 1099511627776) : ∃ r, coil_Size.f a = some r ∧ gatewardenref05_Size.f a = some r := by
  by_cases h0 : a < 0
  · exact ⟨0, size_neg a h0, ref_size_neg a h0⟩
  · obtain ⟨m, rfl⟩ := Int.eq_ofNat_of_zero_le (show 0 ≤ a by omega)
    exact ⟨_, size_pos m (by omega), ref_size_pos m (by omega)⟩
end Go.Proofs.Ytcoaehhoiaijoaa.CoilCoilTells
namespace Go.Proofs.Ytcoaehhoiaijoaa.Pure
open Go.RowKit Go.Proofs.Ytcoaehhoiaijoaa.PCoilTells Go.Proofs.YtcoaehhoiaijoaaW.PrintWords Go.Proofs.Ytcoaehhoiaijoaa.CoilCoilTells
theorem CoilTells : gatewardenlaw05_CoilTells.Pure := by
  intro l s n _ _ _ _ _
  refine ⟨2001, ?_⟩
  unfold gatewardenlaw05_CoilTells.f
  have out : gatewardenlaw05_CoilTells.j0 2001 l s n true = some true := by
    simp only [gatewardenlaw05_CoilTells.j0, if_true]
    rw [awake_true _ (by decide)]; rfl
  by_cases h1 : (l.length : Int) > 300
  · rw [if_pos h1]; exact out
  · rw [if_neg h1]
    by_cases h2 : (s.size : Int) > 100
    · rw [if_pos h2]; exact out
    · rw [if_neg h2]
      by_cases h3 : n > 1099511627776
      · rw [decide_eq_true h3]; exact out
      · rw [decide_eq_false h3]
        simp only [gatewardenlaw05_CoilTells.j0]
        have hg := get_length s n
        obtain ⟨r, hr1, hr2⟩ := size_same n (by omega)
        rw [if_neg (by decide), put_eq l (by omega) _ (by omega), Option.bind_some, ref_put_eq l (by omega) _ (by omega), Option.bind_some, get_eq s n (by omega) (by omega) _ (by omega), Option.bind_some, ref_get_eq s n (by omega) (by omega) _ (by omega), Option.bind_some, awake_true _ (by decide), Option.bind_some, if_pos rfl, if_pos rfl]
        rw [if_pos (beq_self_eq_true _), ints_same _ (by omega) _ (by omega), Option.bind_some, if_pos rfl, if_pos (beq_self_eq_true _), hr1, Option.bind_some, hr2, Option.bind_some, beq_self_eq_true]
end Go.Proofs.Ytcoaehhoiaijoaa.Pure
