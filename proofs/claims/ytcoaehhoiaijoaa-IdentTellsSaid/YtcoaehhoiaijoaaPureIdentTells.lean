/- IdentTells: the first number that is not among used ones, and the one behind any, are the document's, at 200 used ones at most. -/
import Derived.Test.YtcoaehhoiaijoaaIdentFunIdentTells
namespace Go.Proofs.Ytcoaehhoiaijoaa.IdentIdentTells
open Go.RowKit Go.Proofs.Ytcoaehhoiaijoaa.PIdentTells Go.Proofs.YtcoaehhoiaijoaaW.PrintWords Go.Proofs.YtcoaehhoiaijoaaW.PrintLast Go.Proofs.Ytcoaehhoiaijoaa.Base Go.Proofs.Ytcoaehhoiaijoaa.Ident

theorem has_loop (l : List Int) (x : Int) (hl : l.length ≤ 1099511627776) (d : Nat) : ∀ (k i : Nat), i ≤ l.length → l.length - i = d → d < k →
    gatewardenref19_has.l0 k l x (i : Int) = some (decide (x ∈ l.drop i)) := by
  induction d with
  | zero =>
    intro k i hi hd hk
    obtain ⟨k, rfl⟩ : ∃ m, k = m + 1 := ⟨k - 1, by omega⟩
    simp only [gatewardenref19_has.l0]
    rw [if_neg (by omega), List.drop_of_length_le (by omega)]; simp
  | succ d ih =>
    intro k i hi hd hk
    obtain ⟨k, rfl⟩ : ∃ m, k = m + 1 := ⟨k - 1, by omega⟩
    have hlt : i < l.length := by omega
    have hrd : rd l (i : Int) = l[i] := by rw [rd_nat, List.getD_eq_getElem?_getD, List.getElem?_eq_getElem hlt]; rfl
    have hdrop : l.drop i = l[i] :: l.drop (i + 1) := List.drop_eq_getElem_cons hlt
    have hw : wrap64 ((i : Int) + 1) = ((i + 1 : Nat) : Int) := by rw [w64 (by omega) (by omega)]; omega
    simp only [gatewardenref19_has.l0]
    rw [if_pos (by omega), if_pos (by omega), hrd, hdrop, hw]
    by_cases h : l[i] = x
    · rw [if_pos h]
      exact congrArg some (decide_eq_true (List.mem_cons.2 (.inl h.symm))).symm
    · rw [if_neg h, ih k (i + 1) (by omega) (by omega) (by omega)]
      exact congrArg some (decide_eq_decide.2 (by rw [List.mem_cons]; exact ⟨fun q => .inr q, fun q => q.resolve_left (fun e => h e.symm)⟩))
theorem has_eq (l : List Int) (x : Int) (hl : l.length ≤ 1099511627776) (k : Nat) (hk : l.length < k) : gatewardenref19_has.f k l x = some (decide (x ∈ l)) := by
  have h := has_loop l x hl l.length k 0 (by omega) (by omega) hk
  rwa [List.drop_zero] at h
theorem ref_after_eq (a : Int) (h0 : 0 ≤ a) (h1 : a < 65536) : gatewardenref19_After.f a = some (num a 1) := by
  unfold gatewardenref19_After.f num
  rw [if_neg (by omega)]
  by_cases h : a ≥ 65535
  · rw [if_pos h]; congr 1; omega
  · rw [if_neg h, w64 (by omega) (by omega)]; congr 1; omega
theorem ref_next_loop (l : List Int) (a : Int) (hl : l.length ≤ 1099511627776) (d : Nat) : ∀ (k n : Nat), n ≤ 65536 → 65536 - n = d → d + l.length + 1 < k →
    gatewardenref19_Next.l0 k l (num a n) (n : Int) = some (search l a n d) := by
  induction d with
  | zero =>
    intro k n hn hd hk
    obtain ⟨k, rfl⟩ : ∃ m, k = m + 1 := ⟨k - 1, by omega⟩
    simp only [gatewardenref19_Next.l0]
    rw [if_neg (by omega)]; rfl
  | succ d ih =>
    intro k n hn hd hk
    obtain ⟨k, rfl⟩ : ∃ m, k = m + 1 := ⟨k - 1, by omega⟩
    have hw : wrap64 ((n : Int) + 1) = ((n + 1 : Nat) : Int) := by rw [w64 (by omega) (by omega)]; omega
    have hr := num_range a n
    simp only [gatewardenref19_Next.l0]
    rw [if_pos (by omega), has_eq l _ hl k (by omega), Option.bind_some, hw, search]
    by_cases h : num a n ∈ l
    · rw [if_pos (decide_eq_true h), if_pos h, ref_after_eq _ (by omega) (by omega), Option.bind_some, num_num]
      exact ih k (n + 1) (by omega) (by omega) (by omega)
    · rw [if_neg (by rw [decide_eq_false h]; decide), if_neg h]
theorem ref_next_eq (l : List Int) (a : Int) (hl : l.length ≤ 1099511627776) (k : Nat) (hk : 65540 + l.length < k) : gatewardenref19_Next.f k l a = some (next l a) := by
  obtain ⟨k, rfl⟩ : ∃ m, k = m + 1 := ⟨k - 1, by omega⟩
  unfold gatewardenref19_Next.f next
  by_cases h0 : a < 0
  · rw [if_pos h0, if_neg (by omega)]
    simp only [gatewardenref19_Next.j0]; rfl
  · rw [if_neg h0]
    by_cases h1 : a > 65535
    · rw [decide_eq_true h1, if_neg (by omega)]
      simp only [gatewardenref19_Next.j0]; rfl
    · rw [decide_eq_false h1, if_pos ⟨by omega, by omega⟩]
      simp only [gatewardenref19_Next.j0]
      rw [if_neg (by decide)]
      have h := ref_next_loop l a hl 65536 k 0 (by omega) rfl (by omega)
      rwa [num_zero a (by omega) (by omega)] at h
theorem after_same (a : Int) : ∃ r, ident_After.f a = some r ∧ gatewardenref19_After.f a = some r := by
  by_cases h0 : a < 0
  · exact ⟨0, by unfold ident_After.f; rw [if_pos h0], by unfold gatewardenref19_After.f; rw [if_pos h0]⟩
  · by_cases h1 : a < 65536
    · exact ⟨_, after_eq a (by omega) h1, ref_after_eq a (by omega) h1⟩
    · exact ⟨0, by unfold ident_After.f; rw [if_neg h0, if_pos (by omega)], by unfold gatewardenref19_After.f; rw [if_neg h0, if_pos (by omega)]⟩
end Go.Proofs.Ytcoaehhoiaijoaa.IdentIdentTells
namespace Go.Proofs.Ytcoaehhoiaijoaa.Pure
open Go.RowKit Go.Proofs.Ytcoaehhoiaijoaa.PIdentTells Go.Proofs.YtcoaehhoiaijoaaW.PrintWords Go.Proofs.Ytcoaehhoiaijoaa.IdentIdentTells
theorem IdentTells : gatewardenlaw19_IdentTells.Pure := by
  intro l a _ _ _ _
  refine ⟨80000, ?_⟩
  unfold gatewardenlaw19_IdentTells.f
  by_cases h1 : (l.length : Int) > 200
  · rw [if_pos h1, awake_true _ (by decide)]; rfl
  · obtain ⟨r, h2, h3⟩ := after_same a
    rw [if_neg h1, next_eq l a (by omega) _ (by omega), Option.bind_some, ref_next_eq l a (by omega) _ (by omega), Option.bind_some, awake_true _ (by decide), Option.bind_some, if_pos rfl, if_pos rfl, if_pos (beq_self_eq_true _), h2, Option.bind_some, h3, Option.bind_some, beq_self_eq_true]
end Go.Proofs.Ytcoaehhoiaijoaa.Pure
