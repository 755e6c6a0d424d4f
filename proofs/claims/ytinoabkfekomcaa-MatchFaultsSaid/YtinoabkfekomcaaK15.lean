/- Texts of this claim, put together (wip/pack.py): RefBase. -/
import Derived.Test.YtinoabkfekomcaaK8
import Derived.Test.YtinoabkfekomcaaK13
import Derived.Test.YtinoabkfekomcaaK14
namespace Go.Proofs.Ytinoabkfekomcaa.CoilAskSizes
open Go.RowKit Go.Proofs.Ytinoabkfekomcaa.PAskSizes Go.Proofs.YtinoabkfekomcaaW.PrintWords Go.Proofs.YtinoabkfekomcaaW.PrintLast Go.Proofs.Ytinoabkfekomcaa.Base Go.Proofs.Ytinoabkfekomcaa.Coil
set_option linter.unusedVariables false
theorem ref_size_pos (n : Nat) (h : n ≤ 1099511627776) : gatewardenref05_Size.f (n : Int) = some (((n + 7) / 8 : Nat) : Int) := by
  unfold gatewardenref05_Size.f
  rw [if_neg (by omega), w64 (n := (n : Int) + 7) (by omega) (by omega), tdiv8 (by omega), w64 (by omega) (by omega)]
  congr 1
theorem ref_size_neg (a : Int) (h : a < 0) : gatewardenref05_Size.f a = some 0 := by
  unfold gatewardenref05_Size.f
  rw [if_pos h]
theorem ref_put_loop (l : List Int) (hl : l.length ≤ 1099511627776) (d : Nat) : ∀ (k i : Nat), i ≤ l.length → l.length - i = d → Bits (l.take i) → d < k →
    gatewardenref05_Put.l0 k l (packed l ((l.length + 7) / 8) i) (i : Int) = some (if okB (l.drop i) then (strOfNums (pack l), true) else ((⟨#[]⟩ : ByteArray), false)) := by
  induction d with
  | zero =>
    intro k i hi hd _ hk
    obtain ⟨k, rfl⟩ : ∃ m, k = m + 1 := ⟨k - 1, by omega⟩
    obtain rfl : i = l.length := by omega
    simp only [gatewardenref05_Put.l0]
    rw [if_neg (by omega), packed_full]
    simp [okB]
  | succ d ih =>
    intro k i hi hd hb hk
    obtain ⟨k, rfl⟩ : ∃ m, k = m + 1 := ⟨k - 1, by omega⟩
    have hlt : i < l.length := by omega
    have hrd : rd l (i : Int) = l[i] := by rw [rd_nat, List.getD_eq_getElem?_getD, List.getElem?_eq_getElem hlt]; rfl
    have hdrop : l.drop i = l[i] :: l.drop (i + 1) := List.drop_eq_getElem_cons hlt
    have htake : l.take (i + 1) = l.take i ++ [l[i]] := List.take_succ_eq_append_getElem hlt
    have hw : wrap64 ((i : Int) + 1) = ((i + 1 : Nat) : Int) := by rw [w64 (by omega) (by omega)]; omega
    have hd8 : wrap64 (Int.tdiv (i : Int) 8) = ((i / 8 : Nat) : Int) := by rw [tdiv8 (by omega), w64 (by omega) (by omega)]; omega
    have h7 : IntKind.u64.wrap (Int.tmod (i : Int) 8) = ((i % 8 : Nat) : Int) := by
      rw [tmod8 (by omega), u64w (by omega) (by omega)]; omega
    have hn : i / 8 < (l.length + 7) / 8 := by omega
    have hlow := packed_low hb ((l.length + 7) / 8) hlt hn
    have hp := two_pow_le (i % 8) 7 (by omega)
    have hp0 := two_pow_pos (i % 8)
    simp only [gatewardenref05_Put.l0]
    rw [if_pos (by omega), if_pos (by omega), hrd, hd8, h7]
    have hbit : ∀ (hbit : l[i] = 0 ∨ l[i] = 1), (packed l ((l.length + 7) / 8) i).set ((i / 8 : Nat) : Int).toNat (((rd (packed l ((l.length + 7) / 8) i) ((i / 8 : Nat) : Int)) + ((shl .i64 l[i] ((i % 8 : Nat) : Int)) % 256)) % 256) = packed l ((l.length + 7) / 8) (i + 1) := by
      intro hbit
      rw [shl_i64 _ _ (by omega) hbit, rd_nat, Int.toNat_natCast, packed_step l _ i hlt]
      congr 1
      have : 0 ≤ l[i] * 2 ^ (i % 8) ∧ l[i] * 2 ^ (i % 8) ≤ 2 ^ (i % 8) := by rcases hbit with h | h <;> rw [h] <;> omega
      omega
    by_cases h0 : l[i] = 0
    · rw [if_pos h0, if_pos (by omega), if_pos (by rw [packed_length]; omega), if_pos (by omega), hbit (.inl h0), hw, ih k (i + 1) (by omega) (by omega) (by rw [htake]; exact hb.snoc (.inl h0)) (by omega)]
      rw [hdrop, okB_cons, h0]; rfl
    · rw [if_neg h0]
      by_cases h1 : l[i] = 1
      · rw [if_pos h1, if_pos (by omega), if_pos (by rw [packed_length]; omega), if_pos (by omega), hbit (.inr h1), hw, ih k (i + 1) (by omega) (by omega) (by rw [htake]; exact hb.snoc (.inr h1)) (by omega)]
        rw [hdrop, okB_cons, h1]; rfl
      · rw [if_neg h1, hdrop, okB_cons, beq_eq_false_iff_ne.2 h0, beq_eq_false_iff_ne.2 h1]
        rfl
theorem ref_put_eq (l : List Int) (hl : l.length ≤ 1099511627776) (k : Nat) (hk : l.length < k) : gatewardenref05_Put.f k l = some (put l) := by
  have h := ref_put_loop l hl l.length k 0 (by omega) (by omega) (fun x hx => by simp at hx) hk
  unfold gatewardenref05_Put.f
  rw [ref_size_pos _ hl, Option.bind_some, if_pos (by omega), if_pos (by omega), Int.toNat_natCast, ← packed_zero l]
  simpa [put] using h
open Classical in
theorem ref_get_loop (s : ByteArray) (n : Nat) (hs : s.size = (n + 7) / 8) (hn : n ≤ 1099511627776) (d : Nat) : ∀ (k i : Nat), i ≤ 8 * s.size → 8 * s.size - i = d → (∀ j, n ≤ j → j < i → bitAt s j = 0) → d < k →
    gatewardenref05_Get.l0 k s (n : Int) (bitsOf s (min i n)) (i : Int) = some (if clean s n then (bitsOf s n, true) else (([] : List Int), false)) := by
  induction d with
  | zero =>
    intro k i hi hd hc hk
    obtain ⟨k, rfl⟩ : ∃ m, k = m + 1 := ⟨k - 1, by omega⟩
    simp only [gatewardenref05_Get.l0]
    rw [w64 (by omega) (by omega), if_neg (by omega), if_pos (show clean s n from fun j h1 h2 => hc j h1 (by omega)), show min i n = n by omega]
  | succ d ih =>
    intro k i hi hd hc hk
    obtain ⟨k, rfl⟩ : ∃ m, k = m + 1 := ⟨k - 1, by omega⟩
    have hw : wrap64 ((i : Int) + 1) = ((i + 1 : Nat) : Int) := by rw [w64 (by omega) (by omega)]; omega
    have hd8 : wrap64 (Int.tdiv (i : Int) 8) = ((i / 8 : Nat) : Int) := by rw [tdiv8 (by omega), w64 (by omega) (by omega)]; omega
    have h7 : IntKind.u64.wrap (Int.tmod (i : Int) 8) = ((i % 8 : Nat) : Int) := by
      rw [tmod8 (by omega), u64w (by omega) (by omega)]; omega
    have hb := bt_range s ((i / 8 : Nat) : Int)
    have hv0 : 0 ≤ bt s ((i / 8 : Nat) : Int) / 2 ^ (i % 8) := Int.ediv_nonneg hb.1 (by have := two_pow_pos (i % 8); omega)
    have hval : Int.tmod (shr .i64 (wrap64 (bt s ((i / 8 : Nat) : Int))) ((i % 8 : Nat) : Int)) 2 = bitAt s i := by
      rw [w64 (by omega) (by omega), shr_eq _ _ _ (by omega), Int.tmod_eq_emod_of_nonneg hv0]; rfl
    simp only [gatewardenref05_Get.l0]
    rw [w64 (n := 8 * (s.size : Int)) (by omega) (by omega), if_pos (by omega), hd8, if_pos (by omega), if_pos (by omega), h7, if_pos (by omega), hval, hw]
    by_cases h : i < n
    · rw [if_pos (by omega), if_pos (by rw [bitsOf_length]; omega)]
      have e : bitsOf s (min i n) ++ [bitAt s i] = bitsOf s (min (i + 1) n) := by
        rw [show min i n = i by omega, show min (i + 1) n = i + 1 by omega]
        unfold bitsOf
        rw [List.range_succ, List.map_append]; rfl
      rw [e]
      exact ih k (i + 1) (by omega) (by omega) (fun j h1 h2 => by omega) (by omega)
    · rw [if_neg (by omega)]
      by_cases h0 : bitAt s i = 0
      · rw [if_pos h0, show min i n = min (i + 1) n by omega]
        exact ih k (i + 1) (by omega) (by omega) (fun j h1 h2 => by
          by_cases e : j = i
          · rw [e]; exact h0
          · exact hc j h1 (by omega)) (by omega)
      · rw [if_neg h0, if_neg (fun hcl => h0 (hcl i (by omega) (by omega)))]
theorem ref_get_eq (s : ByteArray) (n : Int) (hs : s.size ≤ 8589934592) (hn : n ≤ 1099511627776) (k : Nat) (hk : 8 * s.size + 2 ≤ k) : gatewardenref05_Get.f k s n = some (get s n) := by
  obtain ⟨k, rfl⟩ : ∃ m, k = m + 1 := ⟨k - 1, by omega⟩
  unfold gatewardenref05_Get.f get
  by_cases h0 : n < 0
  · rw [if_pos h0, if_neg (by omega)]
    simp only [gatewardenref05_Get.j0]
    rfl
  · rw [if_neg h0, w64 (by omega) (by omega)]
    by_cases h1 : n > 8 * (s.size : Int)
    · rw [if_pos h1, if_neg (by omega)]
      simp only [gatewardenref05_Get.j0]
      rfl
    · obtain ⟨m, rfl⟩ := Int.eq_ofNat_of_zero_le (show 0 ≤ n by omega)
      rw [if_neg h1, ref_size_pos m (by omega), Option.bind_some, Int.toNat_natCast]
      by_cases h2 : s.size = (m + 7) / 8
      · have e : ((s.size : Int) != ((((m + 7) / 8 : Nat) : Int))) = false := by simp; omega
        rw [e]
        simp only [gatewardenref05_Get.j0]
        rw [if_neg (by decide)]
        have hl := ref_get_loop s m h2 (by omega) (8 * s.size) k 0 (by omega) (by omega) (fun j _ h => by omega) (by omega)
        rw [show bitsOf s (min 0 m) = [] by simp [bitsOf]] at hl
        refine hl.trans ?_
        by_cases hc : clean s m
        · rw [if_pos hc, if_pos ⟨by omega, by omega, h2, hc⟩]
        · rw [if_neg hc, if_neg (fun h => hc h.2.2.2)]
      · have e : ((s.size : Int) != ((((m + 7) / 8 : Nat) : Int))) = true := by simp; omega
        rw [e, if_neg (fun h => h2 h.2.2.1)]
        simp only [gatewardenref05_Get.j0]
        rfl
end Go.Proofs.Ytinoabkfekomcaa.CoilAskSizes
namespace Go.Proofs.Ytinoabkfekomcaa.AskAskSizes
open Go Go.RowKit Go.Proofs.Ytinoabkfekomcaa.PAskSizes Go.Proofs.YtinoabkfekomcaaW.PrintWords Go.Proofs.YtinoabkfekomcaaW.PrintLast Go.Proofs.Ytinoabkfekomcaa.Base Go.Proofs.Ytinoabkfekomcaa.RepAskSizes Go.Proofs.Ytinoabkfekomcaa.CoilAskSizes Go.Proofs.Ytinoabkfekomcaa.Coil
set_option maxRecDepth 100000
set_option linter.unusedVariables false
theorem refKnown_eq (a : Int) : gatewardenref06_Known.f a = some (ofP a).2.2.2.2 := by
  unfold gatewardenref06_Known.f
  by_cases h1 : 1 ≤ a ∧ a ≤ 6
  · have h : a = 1 ∨ a = 2 ∨ a = 3 ∨ a = 4 ∨ a = 5 ∨ a = 6 := by omega
    rcases h with rfl | rfl | rfl | rfl | rfl | rfl <;> rfl
  by_cases h15 : a = 15
  · subst h15; rfl
  by_cases h16 : a = 16
  · subst h16; rfl
  by_cases h22 : a = 22
  · subst h22; rfl
  by_cases h23 : a = 23
  · subst h23; rfl
  have e : (ofP a).2.2.2.2 = false := by
    unfold ofP
    rw [if_neg (by omega), if_neg (by omega), if_neg (by omega), if_neg (by omega), if_neg h15, if_neg h16, if_neg h22, if_neg h23]
  rw [e]
  split
  · rw [if_neg (by omega), beq_eq_false_iff_ne.2 h23]
  · rw [beq_eq_false_iff_ne.2 h23]
theorem ofP_known {a : Int} (h : (ofP a).2.2.2.2 = true) : a = 1 ∨ a = 2 ∨ a = 3 ∨ a = 4 ∨ a = 5 ∨ a = 6 ∨ a = 15 ∨ a = 16 ∨ a = 22 ∨ a = 23 := by
  unfold ofP at h
  split at h; · omega
  split at h; · omega
  split at h; · omega
  split at h; · omega
  split at h; · omega
  split at h; · omega
  split at h; · omega
  split at h; · omega
  cases h
theorem reads_eq {a : Int} (h : (ofP a).2.2.2.2 = true) (k : Nat) (hk : 1 ≤ k) : gatewardenref06_reads.f k a = some (ofP a).1 := by
  obtain ⟨k, rfl⟩ : ∃ m, k = m + 1 := ⟨k - 1, by omega⟩
  rcases ofP_known h with rfl | rfl | rfl | rfl | rfl | rfl | rfl | rfl | rfl | rfl <;> rfl
theorem writes_eq {a : Int} (h : (ofP a).2.2.2.2 = true) : gatewardenref06_writes.f a = some ((ofP a).2.1, (ofP a).2.2.1, (if (ofP a).2.1 = 0 then 0 else (ofP a).2.2.2.1)) := by
  rcases ofP_known h with rfl | rfl | rfl | rfl | rfl | rfl | rfl | rfl | rfl | rfl <;> rfl
theorem ofP_high {a : Int} (h : (ofP a).2.2.2.2 = true) : (if (ofP a).2.1 = 0 then 0 else (ofP a).2.2.2.1) = (ofP a).2.2.2.1 ∧ 0 ≤ (ofP a).1 ∧ 0 ≤ (ofP a).2.1 := by
  rcases ofP_known h with rfl | rfl | rfl | rfl | rfl | rfl | rfl | rfl | rfl | rfl <;> decide
theorem sel (r a b : Int) (X : Bool → Option Bool) (hr : 0 ≤ r) :
    (if a < 0 then X true else if a > 65535 then X true else if b < 0 then X true else if b > r then X true else if r > 0 then (if b = 0 then X true else if r = 0 then X (a != 0) else X false) else if r = 0 then X (a != 0) else X false) = X (!partP a b r) := by
  unfold partP
  by_cases h0 : a < 0
  · rw [if_pos h0]; split
    · rw [show (a == 0) = false by simp; omega]; rfl
    · rw [decide_eq_false (by omega)]; rfl
  rw [if_neg h0]
  by_cases h1 : a > 65535
  · rw [if_pos h1]; split
    · rw [show (a == 0) = false by simp; omega]; rfl
    · rw [decide_eq_false (p := a ≤ 65535) (by omega), Bool.and_false]; rfl
  rw [if_neg h1]
  by_cases h2 : b < 0
  · rw [if_pos h2]; split
    · rw [show (b == 0) = false by simp; omega, Bool.and_false]; rfl
    · rw [decide_eq_false (p := 1 ≤ b) (by omega), Bool.and_false]; rfl
  rw [if_neg h2]
  by_cases h3 : b > r
  · rw [if_pos h3]; split
    · rw [show (b == 0) = false by simp; omega, Bool.and_false]; rfl
    · rw [decide_eq_false (p := b ≤ r) (by omega), Bool.and_false]; rfl
  rw [if_neg h3]
  by_cases h4 : r = 0
  · rw [if_neg (by omega), if_pos h4, if_pos h4, show b = 0 by omega]
    by_cases h5 : a = 0
    · subst h5; rfl
    · show X (!(a == 0)) = _
      rw [beq_eq_false_iff_ne.2 h5]; rfl
  · rw [if_pos (by omega), if_neg h4, if_neg h4, decide_eq_true (p := 0 ≤ a) (by omega), decide_eq_true (p := a ≤ 65535) (by omega), decide_eq_true (p := b ≤ r) (by omega)]
    by_cases h5 : b = 0
    · rw [if_pos h5, decide_eq_false (by omega)]; rfl
    · rw [if_neg h5, decide_eq_true (by omega)]; rfl
theorem all_loop (l : List Int) (hi : Int) (hl : l.length ≤ 1099511627776) (d : Nat) : ∀ (k i : Nat), i ≤ l.length → l.length - i = d → d < k →
    gatewardenref06_all.l0 k l hi (i : Int) = some (!(l.drop i).any fun v => decide (v < 0) || decide (hi < v)) := by
  induction d with
  | zero =>
    intro k i h hd hk
    obtain ⟨k, rfl⟩ : ∃ m, k = m + 1 := ⟨k - 1, by omega⟩
    obtain rfl : i = l.length := by omega
    simp only [gatewardenref06_all.l0]
    rw [if_neg (by omega), List.drop_length]
    rfl
  | succ d ih =>
    intro k i h hd hk
    obtain ⟨k, rfl⟩ : ∃ m, k = m + 1 := ⟨k - 1, by omega⟩
    have hlt : i < l.length := by omega
    have hrd : rd l (i : Int) = l[i] := by rw [rd_nat, List.getD_eq_getElem?_getD, List.getElem?_eq_getElem hlt]; rfl
    have hwr : wrap64 ((i : Int) + 1) = ((i + 1 : Nat) : Int) := by rw [w64 (by omega) (by omega)]; omega
    simp only [gatewardenref06_all.l0]
    rw [if_pos (by omega), if_pos (by omega), hrd, List.drop_eq_getElem_cons hlt, List.any_cons]
    by_cases h0 : l[i] < 0
    · rw [if_pos h0, decide_eq_true h0]; rfl
    rw [if_neg h0, decide_eq_false h0]
    by_cases h1 : l[i] > hi
    · rw [if_pos h1, decide_eq_true (p := hi < l[i]) h1]; rfl
    rw [if_neg h1, decide_eq_false (p := hi < l[i]) h1, hwr]
    exact ih k (i + 1) (by omega) (by omega) (by omega)
theorem all_eq (l : List Int) (hi : Int) (hl : l.length ≤ 1099511627776) (k : Nat) (hk : l.length < k) : gatewardenref06_all.f k l hi = some (!l.any fun v => decide (v < 0) || decide (hi < v)) := all_loop l hi hl l.length k 0 (by omega) (by omega) hk
theorem refFormed_eq (a0 a1 a2 a3 a4 : Int) (l : List Int) (hl : l.length ≤ 1099511627776) (k : Nat) (hk : l.length + 3 ≤ k) : gatewardenref06_Formed.f k a0 a1 a2 a3 a4 l = some (formedP a0 a1 a2 a3 a4 l) := by
  obtain ⟨k, rfl⟩ : ∃ m, k = m + 2 := ⟨k - 2, by omega⟩
  unfold gatewardenref06_Formed.f formedP
  rw [refKnown_eq, Option.bind_some]
  cases h : (ofP a0).2.2.2.2
  · rfl
  obtain ⟨hh, hr, hw⟩ := ofP_high h
  rw [if_pos rfl, reads_eq h _ (by omega), Option.bind_some]
  refine (sel (ofP a0).1 a1 a2 (fun b => gatewardenref06_Formed.j0 (k + 2) b a0 a1 a2 a3 a4 l) hr).trans ?_
  simp only [gatewardenref06_Formed.j0]
  cases partP a1 a2 (ofP a0).1
  · rfl
  rw [if_neg (by decide), writes_eq h, hh, Option.bind_some]
  refine (sel (ofP a0).2.1 a3 a4 (fun b => gatewardenref06_Formed.j1 (k + 1) (ofP a0).2.2.1 (ofP a0).2.2.2.1 b a0 a1 a2 a3 a4 l) hw).trans ?_
  simp only [gatewardenref06_Formed.j1]
  cases partP a3 a4 (ofP a0).2.1
  · rfl
  rw [if_neg (by decide), all_eq _ _ hl _ (by omega), Option.bind_some]
  by_cases h5 : (ofP a0).2.2.1 = 0
  · rw [if_pos h5, if_pos h5]
    by_cases h6 : (l.length : Int) = a4
    · rw [if_pos h6, decide_eq_true h6]; rfl
    · rw [if_neg h6, decide_eq_false h6]; rfl
  · rw [if_neg h5, if_neg h5]
    by_cases h6 : (l.length : Int) = (ofP a0).2.2.1
    · rw [if_pos h6, decide_eq_true h6]; rfl
    · rw [if_neg h6, decide_eq_false h6]; rfl
theorem refRight_eq (a0 a1 a2 a3 a4 : Int) (l : List Int) (hl : l.length ≤ 1099511627776) (k : Nat) (hk : l.length + 3 ≤ k) : gatewardenref06_Right.f k a0 a1 a2 a3 a4 l = some (rightP a0 a1 a2 a3 a4 l) := by
  unfold gatewardenref06_Right.f rightP
  rw [refFormed_eq _ _ _ _ _ _ hl _ hk, Option.bind_some]
  cases formedP a0 a1 a2 a3 a4 l
  · rfl
  · rw [if_pos rfl]
    by_cases h : wrap64 (a1 + a2) ≤ 65536
    · rw [if_pos h, decide_eq_true h]; rfl
    · rw [if_neg h, decide_eq_false h]; rfl
theorem rput_yes {a : Int} (h0 : 0 ≤ a) (h1 : a ≤ 65535) : gatewardenref01_Put.f a = some (strOfNums [(a / 256) % 256, a % 256], true) := by
  unfold gatewardenref01_Put.f
  rw [if_neg (by omega), if_neg (by omega), Int.tdiv_eq_ediv_of_nonneg h0, Int.tmod_eq_emod_of_nonneg h0, w64 (by omega) (by omega), Int.emod_emod_of_dvd _ (by decide)]
theorem rput_no {a : Int} (h : ¬ (0 ≤ a ∧ a ≤ 65535)) : gatewardenref01_Put.f a = some ((⟨#[]⟩ : ByteArray), false) := by
  unfold gatewardenref01_Put.f
  by_cases h0 : a < 0
  · rw [if_pos h0]
  · rw [if_neg h0, if_pos (by omega)]
theorem rof_yes {a : Int} (h0 : 0 ≤ a) (h1 : a ≤ 65535) : gatewardenref01_Of.f a = some (strOfNums (be [a])) := by
  unfold gatewardenref01_Of.f
  rw [rput_yes h0 h1, Option.bind_some]; rfl
theorem rputAll_loop (l : List Int) (hl : l.length ≤ 1099511627776) (d : Nat) : ∀ (k i : Nat), i ≤ l.length → l.length - i = d → d < k → inB (l.take i) = true →
    gatewardenref01_PutAll.l0 k l (strOfNums (be (l.take i))) (i : Int) = some (if inB (l.drop i) then (strOfNums (be l), true) else ((⟨#[]⟩ : ByteArray), false)) := by
  induction d with
  | zero =>
    intro k i hi hd hk _
    obtain ⟨k, rfl⟩ : ∃ m, k = m + 1 := ⟨k - 1, by omega⟩
    obtain rfl : i = l.length := by omega
    simp only [gatewardenref01_PutAll.l0]
    rw [if_neg (by omega), List.take_length, List.drop_length]
    rfl
  | succ d ih =>
    intro k i hi hd hk hin
    obtain ⟨k, rfl⟩ : ∃ m, k = m + 1 := ⟨k - 1, by omega⟩
    have hlt : i < l.length := by omega
    have hrd : rd l (i : Int) = l[i] := by rw [rd_nat, List.getD_eq_getElem?_getD, List.getElem?_eq_getElem hlt]; rfl
    have hdrop : l.drop i = l[i] :: l.drop (i + 1) := List.drop_eq_getElem_cons hlt
    have htake : l.take (i + 1) = l.take i ++ [l[i]] := List.take_succ_eq_append_getElem hlt
    have hwr : wrap64 ((i : Int) + 1) = ((i + 1 : Nat) : Int) := by rw [w64 (by omega) (by omega)]; omega
    simp only [gatewardenref01_PutAll.l0]
    rw [if_pos (by omega), if_pos (by omega), hrd, hdrop]
    by_cases h : 0 ≤ l[i] ∧ l[i] ≤ 65535
    · have e : strOfNums (be (l.take i)) ++ strOfNums [(l[i] / 256) % 256, l[i] % 256] = strOfNums (be (l.take (i + 1))) := by
        rw [← strOfNums_append, htake, be_append]; rfl
      have hsz : (strOfNums (be (l.take i))).size + (strOfNums [(l[i] / 256) % 256, l[i] % 256]).size ≤ 9223372036854775807 := by
        rw [strOfNums_size, strOfNums_size, be_length, List.length_take]; simp; omega
      have hc : inB (l[i] :: l.drop (i + 1)) = inB (l.drop (i + 1)) := by rw [inB_cons, decide_eq_true h.1, decide_eq_true h.2]; rfl
      rw [rput_yes h.1 h.2, Option.bind_some, if_pos rfl, if_pos hsz, hwr, e, hc]
      exact ih k (i + 1) (by omega) (by omega) (by omega) (by rw [htake, inB_append, hin, inB_cons, decide_eq_true h.1, decide_eq_true h.2]; rfl)
    · rw [rput_no h, Option.bind_some, if_neg (by decide)]
      have hc : inB (l[i] :: l.drop (i + 1)) = false := by
        rw [Bool.eq_false_iff]; intro e
        exact h ((inB_iff _).1 e _ (List.mem_cons_self ..))
      rw [hc]; rfl
theorem rputAll_eq (l : List Int) (hl : l.length ≤ 1099511627776) (k : Nat) (hk : l.length < k) : gatewardenref01_PutAll.f k l = some (Go.Proofs.Ytinoabkfekomcaa.RepAskSizes.putAll l) := by
  have h := rputAll_loop l hl l.length k 0 (by omega) (by omega) hk rfl
  unfold gatewardenref01_PutAll.f
  have e : strOfNums (be (l.take 0)) = (⟨#[]⟩ : ByteArray) := rfl
  rw [e] at h
  simpa [Go.Proofs.Ytinoabkfekomcaa.RepAskSizes.putAll] using h
theorem rget1 (s : ByteArray) (i : Nat) (hs : s.size ≤ 8589934592) : gatewardenref01_Get.f s (i : Int) = some (if i + 1 < s.size then (w16 s i, true) else (0, false)) := by
  unfold gatewardenref01_Get.f
  have b1 := bt_range s (i : Int)
  have b2 := bt_range s ((i + 1 : Nat) : Int)
  by_cases h : i + 1 < s.size
  · have e1 : wrap64 ((i : Int) + 1) = ((i + 1 : Nat) : Int) := by rw [w64 (by omega) (by omega)]; omega
    rw [if_neg (by omega), if_neg (by omega), w64 (n := (s.size : Int) - i) (by omega) (by omega), if_neg (by omega), if_pos (by omega), if_pos (by omega), e1, if_pos (by omega), if_pos (by omega), if_pos h,
      w64 (n := bt s (i : Int)) (by omega) (by omega), w64 (n := bt s ((i + 1 : Nat) : Int)) (by omega) (by omega), w64 (n := 256 * bt s (i : Int)) (by omega) (by omega), w64 (by omega) (by omega)]
    unfold w16
    rw [show 256 * bt s (i : Int) = bt s (i : Int) * 256 from by omega]
  · rw [if_neg (by omega), if_neg h]
    by_cases h2 : (i : Int) ≥ (s.size : Int)
    · rw [if_pos h2]
    · rw [if_neg h2, w64 (by omega) (by omega), if_pos (by omega)]
theorem rat_eq (s : ByteArray) (i : Nat) (hs : s.size ≤ 8589934592) : gatewardenref06_at.f s (i : Int) = some (if i + 1 < s.size then w16 s i else -1) := by
  unfold gatewardenref06_at.f
  rw [rget1 s i hs, Option.bind_some]
  split <;> rfl
theorem rgetAll_loop (s : ByteArray) (n : Nat) (hn : s.size = 2 * n) (hs : s.size ≤ 8589934592) (d : Nat) : ∀ (k i : Nat), i ≤ n → n - i = d → d < k →
    gatewardenref01_GetAll.l0 k s ((un (bytesOf s)).take i) ((2 * i : Nat) : Int) = some (un (bytesOf s), true) := by
  have hlen : (un (bytesOf s)).length = n := (un_rg n _ (by rw [bytesOf_length]; exact hn) (bytes_bound s)).2
  induction d with
  | zero =>
    intro k i hi hd hk
    obtain ⟨k, rfl⟩ : ∃ m, k = m + 1 := ⟨k - 1, by omega⟩
    obtain rfl : i = n := by omega
    simp only [gatewardenref01_GetAll.l0]
    rw [if_neg (by omega), List.take_of_length_le (by omega)]
  | succ d ih =>
    intro k i hi hd hk
    obtain ⟨k, rfl⟩ : ∃ m, k = m + 1 := ⟨k - 1, by omega⟩
    have hlt : i < (un (bytesOf s)).length := by omega
    have hg : (un (bytesOf s))[i] = w16 s (2 * i) := by
      have h := un_get n (bytesOf s) i (by rw [bytesOf_length]; exact hn) (by omega)
      rw [List.getD_eq_getElem?_getD, List.getElem?_eq_getElem hlt, bt_bytes, bt_bytes] at h
      exact h
    simp only [gatewardenref01_GetAll.l0]
    unfold gatewardenref01_At.f
    rw [if_pos (by omega), rget1 s (2 * i) hs, if_pos (show 2 * i + 1 < s.size by omega), Option.bind_some, Option.bind_some, if_pos (by rw [List.length_take]; omega)]
    have e : wrap64 (((2 * i : Nat) : Int) + 2) = ((2 * (i + 1) : Nat) : Int) := by rw [w64 (by omega) (by omega)]; omega
    rw [e]
    have ht : (un (bytesOf s)).take i ++ [w16 s (2 * i)] = (un (bytesOf s)).take (i + 1) := by rw [List.take_succ_eq_append_getElem hlt, hg]
    show gatewardenref01_GetAll.l0 k s ((un (bytesOf s)).take i ++ [w16 s (2 * i)]) _ = _
    rw [ht]
    exact ih k (i + 1) (by omega) (by omega) (by omega)
theorem rgetAll_eq (s : ByteArray) (hs : s.size ≤ 8589934592) (k : Nat) (hk : s.size < k) : gatewardenref01_GetAll.f k s = some (getAll s) := by
  unfold gatewardenref01_GetAll.f getAll
  by_cases h : s.size % 2 = 1
  · rw [if_neg (by omega), if_pos h]
  · rw [if_pos (by omega), if_neg h]
    have hl := rgetAll_loop s (s.size / 2) (by omega) hs (s.size / 2) k 0 (by omega) (by omega) (by omega)
    simpa using hl
theorem cat (x y : List Int) : strOfNums x ++ strOfNums y = strOfNums (x ++ y) := (strOfNums_append x y).symm
theorem catsz (x y : List Int) (h : x.length + y.length ≤ 100000) : (strOfNums x).size + (strOfNums y).size ≤ 9223372036854775807 := by rw [strOfNums_size, strOfNums_size]; omega
theorem rput_right {a0 a1 a2 a3 a4 : Int} {l : List Int} (ht : Rt a0 a1 a2 a3 a4 l) (hr : rightP a0 a1 a2 a3 a4 l = true) : gatewardenref06_Put.f 6000 a0 a1 a2 a3 a4 l = some (strOfNums (putL a0 a1 a2 a3 a4 l), true) := by
  have hll := (right_size ht).2.2.2.2.2.2.2.2
  have hR := refRight_eq a0 a1 a2 a3 a4 l (by omega) 6000 (by omega)
  rw [hr] at hR
  unfold gatewardenref06_Put.f
  rw [hR, Option.bind_some, if_pos rfl, Option.bind_some]
  rcases ht with ⟨h0, h1, h2, hl, hg⟩ | ⟨h0, h1, h2, hl, hg⟩ | ⟨rfl, h1, h2, hl, hg⟩ | ⟨rfl, h1, h2, hl, hg⟩ | ⟨rfl, h1, h2, hl, hg⟩ | ⟨rfl, h1, h2, hl, hg⟩ | ⟨rfl, h1, h2, hl, hg⟩ | ⟨rfl, h1, h2, hl, hg⟩
  · rcases h0 with rfl | rfl
    all_goals
      rw [reads_eq rfl _ (by decide), Option.bind_some, if_pos (by decide), rof_yes (by omega) (by omega), Option.bind_some, if_pos (catsz _ _ (by simp [be_length])), cat, rof_yes (by omega) (by omega), Option.bind_some, if_pos (catsz _ _ (by simp [be_length])), cat]
      simp only [gatewardenref06_Put.j0]
      rw [writes_eq rfl, Option.bind_some, if_pos (by decide)]
      rfl
  · rcases h0 with rfl | rfl
    all_goals
      rw [reads_eq rfl _ (by decide), Option.bind_some, if_pos (by decide), rof_yes (by omega) (by omega), Option.bind_some, if_pos (catsz _ _ (by simp [be_length])), cat, rof_yes (by omega) (by omega), Option.bind_some, if_pos (catsz _ _ (by simp [be_length])), cat]
      simp only [gatewardenref06_Put.j0]
      rw [writes_eq rfl, Option.bind_some, if_pos (by decide)]
      rfl
  · have hv : 0 ≤ rd l 0 ∧ rd l 0 ≤ 1 := rd_rg hg 0 (by omega)
    rw [reads_eq rfl _ (by decide), Option.bind_some, if_neg (by decide)]
    simp only [gatewardenref06_Put.j0]
    rw [writes_eq rfl, Option.bind_some, if_neg (by decide), rof_yes (by omega) (by omega), Option.bind_some, if_pos (catsz _ _ (by simp [be_length])), cat, rputAll_eq l (by omega) _ (by omega), Option.bind_some, if_pos (by decide), if_pos (by omega),
      w64 (by omega) (by omega), rof_yes (by omega) (by omega), Option.bind_some, if_pos (catsz _ _ (by simp [be_length])), cat, Int.mul_comm 65280]
    rfl
  · obtain ⟨v, rfl⟩ : ∃ v, l = [v] := by
      match l, hl with
      | [v], _ => exact ⟨v, rfl⟩
      | [], h => simp at h; omega
      | _ :: _ :: _, h => simp at h; omega
    rw [reads_eq rfl _ (by decide), Option.bind_some, if_neg (by decide)]
    simp only [gatewardenref06_Put.j0]
    rw [writes_eq rfl, Option.bind_some, if_neg (by decide), rof_yes (by omega) (by omega), Option.bind_some, if_pos (catsz _ _ (by simp [be_length])), cat, rputAll_eq [v] (by omega) _ (by simp), Option.bind_some, if_neg (by decide), if_pos (by decide), putAll_yes hg,
      if_pos (catsz _ _ (by simp [be_length])), cat]
    rfl
  · have hbits := bits_of_rg hg
    rw [reads_eq rfl _ (by decide), Option.bind_some, if_neg (by decide)]
    simp only [gatewardenref06_Put.j0]
    rw [writes_eq rfl, Option.bind_some, if_neg (by decide), rof_yes (by omega) (by omega), Option.bind_some, if_pos (catsz _ _ (by simp [be_length])), cat, rputAll_eq l (by omega) _ (by omega), Option.bind_some, if_neg (by decide), if_neg (by decide), if_neg (by decide), if_pos (by decide),
      ref_put_eq l (by omega) _ (by omega), Option.bind_some, put_yes hbits, rof_yes (by omega) (by omega), Option.bind_some, if_pos (catsz _ _ (by simp [be_length])), cat, Option.bind_some, if_pos (catsz _ _ (by simp [be_length])), cat, if_pos (catsz _ _ (by simp [be_length, pack_length]; omega)), cat,
      strOfNums_size, pack_length, Int.emod_eq_of_lt (a := (((l.length + 7) / 8 : Nat) : Int)) (b := 256) (by omega) (by omega)]
    rfl
  · rw [reads_eq rfl _ (by decide), Option.bind_some, if_neg (by decide)]
    simp only [gatewardenref06_Put.j0]
    rw [writes_eq rfl, Option.bind_some, if_neg (by decide), rof_yes (by omega) (by omega), Option.bind_some, if_pos (catsz _ _ (by simp [be_length])), cat, rputAll_eq l (by omega) _ (by omega), Option.bind_some, if_neg (by decide), if_neg (by decide), if_neg (by decide), if_neg (by decide),
      putAll_yes hg, rof_yes (by omega) (by omega), Option.bind_some, if_pos (catsz _ _ (by simp [be_length])), cat, Option.bind_some, if_pos (catsz _ _ (by simp [be_length])), cat, if_pos (catsz _ _ (by simp [be_length]; omega)), cat,
      strOfNums_size, be_length, Int.emod_eq_of_lt (a := ((2 * l.length : Nat) : Int)) (b := 256) (by omega) (by omega), show ((2 * l.length : Nat) : Int) = 2 * a4 from by omega]
    rfl
  · obtain ⟨v, u, rfl⟩ : ∃ v u, l = [v, u] := by
      match l, hl with
      | [v, u], _ => exact ⟨v, u, rfl⟩
      | [], h => simp at h
      | [_], h => simp at h
      | _ :: _ :: _ :: _, h => simp at h; omega
    rw [reads_eq rfl _ (by decide), Option.bind_some, if_neg (by decide)]
    simp only [gatewardenref06_Put.j0]
    rw [writes_eq rfl, Option.bind_some, if_neg (by decide), rof_yes (by omega) (by omega), Option.bind_some, if_pos (catsz _ _ (by simp [be_length])), cat, rputAll_eq [v, u] (by omega) _ (by simp), Option.bind_some, if_neg (by decide), if_neg (by decide), if_pos (by decide), putAll_yes hg,
      if_pos (catsz _ _ (by simp [be_length])), cat]
    rfl
  · rw [reads_eq rfl _ (by decide), Option.bind_some, if_pos (by decide), rof_yes (by omega) (by omega), Option.bind_some, if_pos (catsz _ _ (by simp [be_length])), cat, rof_yes (by omega) (by omega), Option.bind_some, if_pos (catsz _ _ (by simp [be_length])), cat]
    simp only [gatewardenref06_Put.j0]
    rw [writes_eq rfl, Option.bind_some, if_neg (by decide), rof_yes (by omega) (by omega), Option.bind_some, if_pos (catsz _ _ (by simp [be_length])), cat, rputAll_eq l (by omega) _ (by omega), Option.bind_some, if_neg (by decide), if_neg (by decide), if_neg (by decide), if_neg (by decide),
      putAll_yes hg, rof_yes (by omega) (by omega), Option.bind_some, if_pos (catsz _ _ (by simp [be_length])), cat, Option.bind_some, if_pos (catsz _ _ (by simp [be_length])), cat, if_pos (catsz _ _ (by simp [be_length]; omega)), cat,
      strOfNums_size, be_length, Int.emod_eq_of_lt (a := ((2 * l.length : Nat) : Int)) (b := 256) (by omega) (by omega), show ((2 * l.length : Nat) : Int) = 2 * a4 from by omega]
    rfl
theorem rput_wrong {a0 a1 a2 a3 a4 : Int} {l : List Int} (hl : l.length ≤ 3000) (hr : rightP a0 a1 a2 a3 a4 l = false) : gatewardenref06_Put.f 6000 a0 a1 a2 a3 a4 l = some ((⟨#[]⟩ : ByteArray), false) := by
  unfold gatewardenref06_Put.f
  rw [refRight_eq _ _ _ _ _ _ (by omega) _ (by omega), hr, Option.bind_some, if_neg (by decide)]
end Go.Proofs.Ytinoabkfekomcaa.AskAskSizes
