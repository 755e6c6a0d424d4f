/- IdentFree: what is told is not used, and all numbers ahead of it are, at 200 used ones at most. -/
import Derived.Test.YtcoaehhoiaijoaaIdentFunIdentFree
namespace Go.Proofs.Ytcoaehhoiaijoaa.IdentIdentFree
open Go.RowKit Go.Proofs.Ytcoaehhoiaijoaa.PIdentFree Go.Proofs.YtcoaehhoiaijoaaW.PrintWords Go.Proofs.YtcoaehhoiaijoaaW.PrintLast Go.Proofs.Ytcoaehhoiaijoaa.Base Go.Proofs.Ytcoaehhoiaijoaa.Ident

theorem last_loop (l : List Int) (m : Int) (hl : l.length ≤ 1099511627776) (hm : m ∉ l) (d : Nat) : ∀ (k i : Nat), i ≤ l.length → l.length - i = d → d + 70001 < k →
    gatewardenlaw19_IdentFree.l2 k l m m (i : Int) = some true := by
  induction d with
  | zero =>
    intro k i hi hd hk
    obtain ⟨k, rfl⟩ : ∃ m, k = m + 1 := ⟨k - 1, by omega⟩
    simp only [gatewardenlaw19_IdentFree.l2]
    rw [if_neg (by omega), awake_true _ (by omega), Option.bind_some, if_pos rfl, beq_self_eq_true]
  | succ d ih =>
    intro k i hi hd hk
    obtain ⟨k, rfl⟩ : ∃ m, k = m + 1 := ⟨k - 1, by omega⟩
    have hlt : i < l.length := by omega
    have hrd : rd l (i : Int) = l[i] := by rw [rd_nat, List.getD_eq_getElem?_getD, List.getElem?_eq_getElem hlt]; rfl
    have hw : wrap64 ((i : Int) + 1) = ((i + 1 : Nat) : Int) := by rw [w64 (by omega) (by omega)]; omega
    simp only [gatewardenlaw19_IdentFree.l2]
    rw [if_pos (by omega), if_pos (by omega), hrd, if_neg (fun e => hm (by rw [← e]; exact List.getElem_mem hlt)), hw]
    exact ih k (i + 1) (by omega) (by omega) (by omega)
theorem found_loop (l : List Int) (m x c : Int) (hl : l.length ≤ 1099511627776) (h0 : 0 ≤ x) (h1 : x < 65536) (K : Nat) (hnext : ∀ k, K < k → gatewardenlaw19_IdentFree.l0 k l m (num x 1) (wrap64 (c + 1)) = some true)
    (d : Nat) : ∀ (k i : Nat) (b : Bool), i ≤ l.length → l.length - i = d → (b = true ∨ x ∈ l.drop i) → d + K + 1 < k →
    gatewardenlaw19_IdentFree.l1 k l m x c b (i : Int) = some true := by
  induction d with
  | zero =>
    intro k i b hi hd hb hk
    obtain ⟨k, rfl⟩ : ∃ m, k = m + 1 := ⟨k - 1, by omega⟩
    have hb' : b = true := by
      rcases hb with hb | hb
      · exact hb
      · rw [List.drop_of_length_le (by omega)] at hb; cases hb
    simp only [gatewardenlaw19_IdentFree.l1]
    rw [if_neg (by omega), if_pos hb', after_eq x h0 h1, Option.bind_some]
    exact hnext k (by omega)
  | succ d ih =>
    intro k i b hi hd hb hk
    obtain ⟨k, rfl⟩ : ∃ m, k = m + 1 := ⟨k - 1, by omega⟩
    have hlt : i < l.length := by omega
    have hrd : rd l (i : Int) = l[i] := by rw [rd_nat, List.getD_eq_getElem?_getD, List.getElem?_eq_getElem hlt]; rfl
    have hdrop : l.drop i = l[i] :: l.drop (i + 1) := List.drop_eq_getElem_cons hlt
    have hw : wrap64 ((i : Int) + 1) = ((i + 1 : Nat) : Int) := by rw [w64 (by omega) (by omega)]; omega
    simp only [gatewardenlaw19_IdentFree.l1]
    rw [if_pos (by omega), hw]
    cases b with
    | true =>
      rw [if_pos rfl]
      exact ih k (i + 1) true (by omega) (by omega) (.inl rfl) (by omega)
    | false =>
      rw [if_neg (by decide), if_pos (by omega), hrd]
      refine ih k (i + 1) _ (by omega) (by omega) ?_ (by omega)
      rcases hb with hb | hb
      · cases hb
      · rw [hdrop, List.mem_cons] at hb
        rcases hb with hb | hb
        · left; rw [hb, beq_self_eq_true]
        · exact .inr hb
theorem main_loop (l : List Int) (a : Int) (hl : l.length ≤ 200) (j : Nat) (hj : j ≤ 200) (hn : num a j ∉ l) (hb : ∀ i, i < j → num a i ∈ l) (d : Nat) : ∀ (i : Nat), i ≤ j → j - i = d → ∀ (k : Nat), d * 300 + 71000 < k →
    gatewardenlaw19_IdentFree.l0 k l (num a j) (num a i) (i : Int) = some true := by
  induction d with
  | zero =>
    intro i hi hd k hk
    obtain ⟨k, rfl⟩ : ∃ m, k = m + 2 := ⟨k - 2, by omega⟩
    obtain rfl : i = j := by omega
    simp only [gatewardenlaw19_IdentFree.l0]
    rw [if_pos (by omega)]
    simp only [gatewardenlaw19_IdentFree.j2]
    rw [if_neg (by simp)]
    exact last_loop l _ (by omega) hn l.length k 0 (by omega) (by omega) (by omega)
  | succ d ih =>
    intro i hi hd k hk
    obtain ⟨k, rfl⟩ : ∃ m, k = m + 2 := ⟨k - 2, by omega⟩
    have hne : num a i ≠ num a j := fun e => hn (by rw [← e]; exact hb i (by omega))
    have hr := num_range a i
    simp only [gatewardenlaw19_IdentFree.l0]
    rw [if_pos (by omega)]
    simp only [gatewardenlaw19_IdentFree.j2]
    rw [if_pos (bne_iff_ne.2 hne)]
    obtain ⟨K, hK⟩ : ∃ K, K = d * 300 + 71000 := ⟨_, rfl⟩
    have hin : num a i ∈ l.drop 0 := by rw [List.drop_zero]; exact hb i (by omega)
    refine found_loop l _ (num a i) i (by omega) (by omega) (by omega) K (fun k' hk' => ?_) l.length k 0 false (by omega) (by omega) (.inr hin) (by omega)
    rw [num_num, w64 (by omega) (by omega), show (i : Int) + 1 = ((i + 1 : Nat) : Int) by omega]
    exact ih (i + 1) (by omega) (by omega) k' (hK ▸ hk')
end Go.Proofs.Ytcoaehhoiaijoaa.IdentIdentFree
namespace Go.Proofs.Ytcoaehhoiaijoaa.Pure
open Go.RowKit Go.Proofs.Ytcoaehhoiaijoaa.PIdentFree Go.Proofs.YtcoaehhoiaijoaaW.PrintWords Go.Proofs.Ytcoaehhoiaijoaa.IdentIdentFree Go.Proofs.Ytcoaehhoiaijoaa.Base Go.Proofs.Ytcoaehhoiaijoaa.Ident
theorem IdentFree : gatewardenlaw19_IdentFree.Pure := by
  intro l a _ _ _ ha
  have ha := wf16 ha
  refine ⟨200001, ?_⟩
  unfold gatewardenlaw19_IdentFree.f
  by_cases h1 : (l.length : Int) > 200
  · rw [if_pos h1, awake_true _ (by decide)]; rfl
  · obtain ⟨j, hj, he, hn, hb⟩ := next_free l a ha.1 (by omega) (by omega)
    have hr := num_range a j
    rw [if_neg h1, w64 (by omega) (by omega), next_eq l a (by omega) _ (by omega), Option.bind_some, he, if_pos rfl, if_neg (by omega)]
    have e : (decide (num a j > 65535)) = false := decide_eq_false (by omega)
    rw [e]
    simp only [gatewardenlaw19_IdentFree.j0]
    rw [if_neg (by decide), w64 (by omega) (by omega)]
    have h := main_loop l a (by omega) j (by omega) hn hb j 0 (by omega) (by omega) 200000 (by omega)
    rwa [num_zero a (by omega) (by omega)] at h
end Go.Proofs.Ytcoaehhoiaijoaa.Pure
