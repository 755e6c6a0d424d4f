/- What ident's functions tell (as they are printed for the law IdentTells). -/
import Derived.Test.YtcoaehhoiaijoaaIdentPure
import Derived.Test.YtcoaehhoiaijoaaPIdentTellsx2
namespace Go.Proofs.Ytcoaehhoiaijoaa.IdentIdentTells
open Go.RowKit Go.Proofs.Ytcoaehhoiaijoaa.PIdentTells Go.Proofs.YtcoaehhoiaijoaaW.PrintWords Go.Proofs.YtcoaehhoiaijoaaW.PrintLast Go.Proofs.Ytcoaehhoiaijoaa.Base Go.Proofs.Ytcoaehhoiaijoaa.Ident

theorem index_loop (l : List Int) (x : Int) (hl : l.length ≤ 1099511627776) (d : Nat) : ∀ (k i : Nat), i ≤ l.length → l.length - i = d → d < k →
    ∃ r, slices_Index_int_int.l0 k l x (l.length : Int) (i : Int) = some r ∧ (0 ≤ r ↔ x ∈ l.drop i) := by
  induction d with
  | zero =>
    intro k i hi hd hk
    obtain ⟨k, rfl⟩ : ∃ m, k = m + 1 := ⟨k - 1, by omega⟩
    refine ⟨-1, ?_, ?_⟩
    · simp only [slices_Index_int_int.l0]
      rw [if_neg (by omega)]
    · rw [List.drop_of_length_le (by omega)]; simp
  | succ d ih =>
    intro k i hi hd hk
    obtain ⟨k, rfl⟩ : ∃ m, k = m + 1 := ⟨k - 1, by omega⟩
    have hlt : i < l.length := by omega
    have hrd : rd l (i : Int) = l[i] := by rw [rd_nat, List.getD_eq_getElem?_getD, List.getElem?_eq_getElem hlt]; rfl
    have hdrop : l.drop i = l[i] :: l.drop (i + 1) := List.drop_eq_getElem_cons hlt
    have hw : wrap64 ((i : Int) + 1) = ((i + 1 : Nat) : Int) := by rw [w64 (by omega) (by omega)]; omega
    simp only [slices_Index_int_int.l0]
    rw [if_pos (by omega), if_pos (by omega), if_pos (by omega), hrd, hdrop, hw]
    by_cases h : x = l[i]
    · rw [if_pos h]
      exact ⟨i, rfl, iff_of_true (by omega) (by rw [h]; exact List.mem_cons_self)⟩
    · rw [if_neg h]
      obtain ⟨r, hr, hiff⟩ := ih k (i + 1) (by omega) (by omega) (by omega)
      exact ⟨r, hr, by rw [hiff, List.mem_cons]; exact ⟨fun q => .inr q, fun q => q.resolve_left h⟩⟩
theorem contains_eq (l : List Int) (x : Int) (hl : l.length ≤ 1099511627776) (k : Nat) (hk : l.length < k) : slices_Contains_int_int.f k l x = some (decide (x ∈ l)) := by
  obtain ⟨r, hr, hiff⟩ := index_loop l x hl l.length k 0 (by omega) (by omega) hk
  unfold slices_Contains_int_int.f slices_Index_int_int.f
  rw [List.drop_zero] at hiff
  rw [show (0 : Int) = ((0 : Nat) : Int) from rfl, hr, Option.bind_some]
  congr 1
  exact decide_eq_decide.2 hiff
theorem next_loop (l : List Int) (a : Int) (h0 : 0 ≤ a) (h1 : a < 65536) (hl : l.length ≤ 1099511627776) (d : Nat) : ∀ (k n : Nat), n ≤ 65536 → 65536 - n = d → d + l.length + 1 < k →
    ident_Next.l0 k l a (n : Int) = some (search l a n d) := by
  induction d with
  | zero =>
    intro k n hn hd hk
    obtain ⟨k, rfl⟩ : ∃ m, k = m + 1 := ⟨k - 1, by omega⟩
    simp only [ident_Next.l0]
    rw [if_neg (by omega)]; rfl
  | succ d ih =>
    intro k n hn hd hk
    obtain ⟨k, rfl⟩ : ∃ m, k = m + 1 := ⟨k - 1, by omega⟩
    have hw : wrap64 ((n : Int) + 1) = ((n + 1 : Nat) : Int) := by rw [w64 (by omega) (by omega)]; omega
    have hm : Int.tmod (wrap64 (a + n)) 65536 = num a n := by
      rw [w64 (by omega) (by omega), Int.tmod_eq_emod_of_nonneg (by omega)]; rfl
    simp only [ident_Next.l0]
    rw [if_pos (by omega), hm, contains_eq l _ hl k (by omega), Option.bind_some, hw, search]
    by_cases h : num a n ∈ l
    · rw [if_pos (decide_eq_true h), if_pos h]
      exact ih k (n + 1) (by omega) (by omega) (by omega)
    · rw [if_neg (by rw [decide_eq_false h]; decide), if_neg h]
def next (l : List Int) (a : Int) : Int × Bool := if 0 ≤ a ∧ a < 65536 then search l a 0 65536 else (0, false)
theorem next_eq (l : List Int) (a : Int) (hl : l.length ≤ 1099511627776) (k : Nat) (hk : 65540 + l.length < k) : ident_Next.f k l a = some (next l a) := by
  obtain ⟨k, rfl⟩ : ∃ m, k = m + 1 := ⟨k - 1, by omega⟩
  unfold ident_Next.f next
  by_cases h0 : a < 0
  · rw [if_pos h0, if_neg (by omega)]
    simp only [ident_Next.j0]; rfl
  · rw [if_neg h0]
    by_cases h1 : a ≥ 65536
    · rw [decide_eq_true h1, if_neg (by omega)]
      simp only [ident_Next.j0]; rfl
    · rw [decide_eq_false h1, if_pos ⟨by omega, by omega⟩]
      simp only [ident_Next.j0]
      rw [if_neg (by decide)]
      exact next_loop l a (by omega) (by omega) hl 65536 k 0 (by omega) rfl (by omega)
theorem after_eq (a : Int) (h0 : 0 ≤ a) (h1 : a < 65536) : ident_After.f a = some (num a 1) := by
  unfold ident_After.f
  rw [if_neg (by omega), if_neg (by omega), w64 (by omega) (by omega), Int.tmod_eq_emod_of_nonneg (by omega)]
  rfl
theorem next_free (l : List Int) (a : Int) (h0 : 0 ≤ a) (h1 : a < 65536) (hl : l.length < 65536) : ∃ j, j ≤ l.length ∧ next l a = (num a j, true) ∧ num a j ∉ l ∧ ∀ i, i < j → num a i ∈ l := by
  obtain ⟨j, hj, hn, hb⟩ := free l a hl
  refine ⟨j, hj, ?_, hn, hb⟩
  unfold next
  rw [if_pos ⟨h0, h1⟩]
  exact search_of l a j hn 65536 0 (Nat.zero_le _) (by omega) (fun i _ hi => hb i hi)
theorem next_of (l : List Int) (a : Int) (h0 : 0 ≤ a) (h1 : a < 65536) (j : Nat) (hj : j < 65536) (hn : num a j ∉ l) (hb : ∀ i, i < j → num a i ∈ l) : next l a = (num a j, true) := by
  unfold next
  rw [if_pos ⟨h0, h1⟩]
  exact search_of l a j hn 65536 0 (Nat.zero_le _) (by omega) (fun i _ hi => hb i hi)
theorem awake_true (k : Nat) (hk : 70000 ≤ k) : gatewardenlaw19_awake.f k = some true := by
  unfold gatewardenlaw19_awake.f
  have e : next [7, 8] 7 = (9, true) := next_of [7, 8] 7 (by decide) (by decide) 2 (by decide) (by decide) (fun i hi => by
    rcases i with _ | _ | i
    · decide
    · decide
    · omega)
  rw [next_eq _ _ (by simp) _ (by simp; omega), Option.bind_some, e, if_pos rfl, if_pos rfl, after_eq 65535 (by decide) (by decide), Option.bind_some, if_pos (by decide), after_eq 7 (by decide) (by decide), Option.bind_some]
  decide
end Go.Proofs.Ytcoaehhoiaijoaa.IdentIdentTells
