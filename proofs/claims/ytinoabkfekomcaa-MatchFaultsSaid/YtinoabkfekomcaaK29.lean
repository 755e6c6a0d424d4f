/- Texts of this claim, put together (wip/pack.py): MatchPure. -/
import Derived.Test.YtinoabkfekomcaaK23
import Derived.Test.YtinoabkfekomcaaK24
import Derived.Test.YtinoabkfekomcaaK28
namespace Go.Proofs.Ytinoabkfekomcaa.AskAskSizes
open Go Go.RowKit Go.Proofs.Ytinoabkfekomcaa.PAskSizes Go.Proofs.YtinoabkfekomcaaW.PrintWords Go.Proofs.YtinoabkfekomcaaW.PrintLast Go.Proofs.Ytinoabkfekomcaa.Base Go.Proofs.Ytinoabkfekomcaa.RepAskSizes Go.Proofs.Ytinoabkfekomcaa.CoilAskSizes Go.Proofs.Ytinoabkfekomcaa.Coil
set_option linter.unusedVariables false
theorem wr1 (i n : Nat) (hi : i < n) (hn : n ≤ 1099511627776) : wrap64 ((i : Int) + 1) = ((i + 1 : Nat) : Int) := by rw [w64 (by omega) (by omega)]; omega
theorem few_loop (l : List S56) (hl : l.length ≤ 80) (d : Nat) : ∀ (k i : Nat), i ≤ l.length → l.length - i = d → d < k → ∃ b, gatewardenlaw21_few.l0 k l (i : Int) = some b ∧ (b = true → ∀ j : Nat, i ≤ j → j < l.length → (rd_T56 l (j : Int)).f5.f5.length ≤ 2000) := by
  induction d with
  | zero =>
    intro k i hi hd hk
    obtain ⟨k, rfl⟩ : ∃ m, k = m + 1 := ⟨k - 1, by omega⟩
    simp only [gatewardenlaw21_few.l0]
    exact ⟨true, by rw [if_neg (by omega)], fun _ j h1 h2 => by omega⟩
  | succ d ih =>
    intro k i hi hd hk
    obtain ⟨k, rfl⟩ : ∃ m, k = m + 1 := ⟨k - 1, by omega⟩
    simp only [gatewardenlaw21_few.l0]
    rw [if_pos (by omega), if_pos (by omega), wr1 i l.length (by omega) (by omega)]
    by_cases h : (((rd_T56 l (i : Int)).f5.f5).length : Int) > 2000
    · exact ⟨false, by rw [if_pos h], fun h => by cases h⟩
    · obtain ⟨b, hb, hx⟩ := ih k (i + 1) (by omega) (by omega) (by omega)
      refine ⟨b, by rw [if_neg h]; exact hb, fun e j h1 h2 => ?_⟩
      by_cases hj : j = i
      · subst hj; omega
      · exact hx e j (by omega) h2
theorem few_told (l : List S56) : ∃ b, gatewardenlaw21_few.f 100 l = some b ∧ (b = true → l.length ≤ 80 ∧ ∀ j : Nat, j < l.length → (rd_T56 l (j : Int)).f5.f5.length ≤ 2000) := by
  unfold gatewardenlaw21_few.f
  by_cases h : (l.length : Int) > 80
  · exact ⟨false, by rw [if_pos h], fun h => by cases h⟩
  · obtain ⟨b, hb, hx⟩ := few_loop l (by omega) l.length 100 0 (by omega) (by omega) (by omega)
    exact ⟨b, by rw [if_neg h]; exact hb, fun e => ⟨by omega, fun j hj => hx e j (by omega) hj⟩⟩
/-- No two of those behind a place have one outer number. -/
theorem right20_loop (l : List S56) (hl : l.length ≤ 80) : ∀ (k : Nat), (∀ i : Nat, i ≤ l.length → (l.length - i) * 100 < k → ∃ b, gatewardenref20_Right.l0 k l (i : Int) = some b ∧ (b = true → ∀ p q : Nat, i ≤ q → q < l.length → p < q → (rd_T56 l (p : Int)).f0 ≠ (rd_T56 l (q : Int)).f0)) ∧
    (∀ i j : Nat, i < l.length → j ≤ i → (l.length - i - 1) * 100 + (i - j) + 1 < k → ∃ b, gatewardenref20_Right.l1 k l (i : Int) (j : Int) = some b ∧ (b = true → (∀ p : Nat, j ≤ p → p < i → (rd_T56 l (p : Int)).f0 ≠ (rd_T56 l (i : Int)).f0) ∧ ∀ p q : Nat, i < q → q < l.length → p < q → (rd_T56 l (p : Int)).f0 ≠ (rd_T56 l (q : Int)).f0)) := by
  intro k
  induction k with
  | zero => exact ⟨fun i _ h => by omega, fun i j _ _ h => by omega⟩
  | succ k ih =>
    obtain ⟨ih0, ih1⟩ := ih
    refine ⟨fun i hi hk => ?_, fun i j hi hj hk => ?_⟩
    · simp only [gatewardenref20_Right.l0]
      by_cases h : i < l.length
      · rw [if_pos (by omega)]
        obtain ⟨b, hb, hx⟩ := ih1 i 0 h (by omega) (by omega)
        refine ⟨b, hb, fun e p q h1 h2 h3 => ?_⟩
        by_cases hq : q = i
        · subst hq; exact (hx e).1 p (by omega) h3
        · exact (hx e).2 p q (by omega) h2 h3
      · exact ⟨true, by rw [if_neg (by omega)], fun _ p q h1 h2 h3 => by omega⟩
    · simp only [gatewardenref20_Right.l1]
      by_cases h : j < i
      · rw [if_pos (by omega), if_pos (by omega), if_pos (by omega), if_pos (by omega), if_pos (by omega), wr1 j l.length (by omega) (by omega)]
        by_cases hf : (rd_T56 l (j : Int)).f0 = (rd_T56 l (i : Int)).f0
        · exact ⟨false, by rw [if_pos hf], fun h => by cases h⟩
        · obtain ⟨b, hb, hx⟩ := ih1 i (j + 1) hi (by omega) (by omega)
          refine ⟨b, by rw [if_neg hf]; exact hb, fun e => ⟨fun p h1 h2 => ?_, (hx e).2⟩⟩
          by_cases hp : p = j
          · subst hp; exact hf
          · exact (hx e).1 p (by omega) h2
      · obtain ⟨b, hb, hx⟩ := ih0 (i + 1) (by omega) (by omega)
        refine ⟨b, by rw [if_neg (by omega), wr1 i l.length (by omega) (by omega)]; exact hb, fun e => ⟨fun p h1 h2 => by omega, fun p q h1 h2 h3 => hx e p q (by omega) h2 h3⟩⟩
theorem right20_told (l : List S56) (hl : l.length ≤ 80) : ∃ b, gatewardenref20_Right.f 10000 l = some b ∧ (b = true → ∀ p q : Nat, q < l.length → p < q → (rd_T56 l (p : Int)).f0 ≠ (rd_T56 l (q : Int)).f0) := by
  obtain ⟨b, hb, hx⟩ := (right20_loop l hl 10000).1 0 (by omega) (by omega)
  exact ⟨b, hb, fun e p q h1 h2 => hx e p q (by omega) h1 h2⟩
theorem rd_drop (l : List S56) (i : Nat) (h : i < l.length) : l.drop i = rd_T56 l (i : Int) :: l.drop (i + 1) := by
  have : rd_T56 l (i : Int) = l[i] := by simp [rd_T56, List.getD_eq_getElem?_getD, List.getElem?_eq_getElem h]
  rw [this]; exact List.drop_eq_getElem_cons h
theorem refFind_loop (l : List S56) (id : Int) (hl : l.length ≤ 1099511627776) (d : Nat) : ∀ (k i : Nat), i ≤ l.length → l.length - i = d → d < k → gatewardenref20_Find.l0 k l id (i : Int) = some (idx56 (fun x => x.f0 == id) (l.drop i) i) := by
  induction d with
  | zero =>
    intro k i hi hd hk
    obtain ⟨k, rfl⟩ : ∃ m, k = m + 1 := ⟨k - 1, by omega⟩
    simp only [gatewardenref20_Find.l0]
    rw [if_neg (by omega), List.drop_of_length_le (by omega)]
    rfl
  | succ d ih =>
    intro k i hi hd hk
    obtain ⟨k, rfl⟩ : ∃ m, k = m + 1 := ⟨k - 1, by omega⟩
    simp only [gatewardenref20_Find.l0]
    rw [if_pos (by omega), if_pos (by omega), wr1 i l.length (by omega) (by omega), rd_drop l i (by omega)]
    simp only [idx56]
    by_cases h : (rd_T56 l (i : Int)).f0 = id
    · rw [if_pos h, if_pos (beq_iff_eq.2 h)]
    · rw [if_neg h, if_neg (by simpa using h)]
      exact ih k (i + 1) (by omega) (by omega) (by omega)
theorem refFind20_eq (l : List S56) (id : Int) (hl : l.length ≤ 80) : gatewardenref20_Find.f 100 l id = some (findP l id) := by
  have h := refFind_loop l id (by omega) l.length 100 0 (by omega) (by omega) (by omega)
  exact h
theorem idx_told (id : Int) : ∀ (l : List S56) (i : Nat), (idx56 (fun x => x.f0 == id) l i = -1 ∧ ∀ x ∈ l, x.f0 ≠ id) ∨ (∃ j : Nat, j < l.length ∧ idx56 (fun x => x.f0 == id) l i = ((i + j : Nat) : Int) ∧ (rd_T56 l (j : Int)).f0 = id)
  | [], i => .inl ⟨rfl, fun x hx => by cases hx⟩
  | x :: t, i => by
    simp only [idx56]
    by_cases h : x.f0 = id
    · rw [if_pos (beq_iff_eq.2 h)]
      exact .inr ⟨0, by simp, by simp, by simpa [rd_T56] using h⟩
    · rw [if_neg (by simpa using h)]
      rcases idx_told id t (i + 1) with ⟨h1, h2⟩ | ⟨j, h1, h2, h3⟩
      · refine .inl ⟨h1, fun y hy => ?_⟩
        rcases List.mem_cons.1 hy with rfl | hy
        · exact h
        · exact h2 y hy
      · refine .inr ⟨j + 1, by simp; omega, by rw [h2]; congr 1; omega, ?_⟩
        have e : rd_T56 (x :: t) ((j + 1 : Nat) : Int) = rd_T56 t (j : Int) := by simp [rd_T56]
        rw [e]; exact h3
/-- What is found: nothing, or the place of one of that number. -/
theorem find_told (l : List S56) (id : Int) : (findP l id = -1 ∧ ∀ x ∈ l, x.f0 ≠ id) ∨ (∃ j : Nat, j < l.length ∧ findP l id = (j : Int) ∧ (rd_T56 l (j : Int)).f0 = id) := by
  rcases idx_told id l 0 with h | ⟨j, h1, h2, h3⟩
  · exact .inl h
  · exact .inr ⟨j, h1, by show idx56 _ l 0 = _; rw [h2]; simp, h3⟩
theorem kind_three (a0 a1 a2 a3 a4 : Int) (l : List Int) (s : ByteArray) (k : Nat) (t : Int) (h : reply_Kind.f k a0 a1 a2 a3 a4 l s = some t) : t = 0 ∨ t = 1 ∨ t = 2 := by
  unfold reply_Kind.f at h
  obtain ⟨d, -, h⟩ := Option.bind_eq_some_iff.1 h
  split at h
  · exact .inr (.inl (Option.some.inj h).symm)
  obtain ⟨rt, -, h⟩ := Option.bind_eq_some_iff.1 h
  split at h
  · split at h
    · split at h
      · obtain ⟨cd, -, h⟩ := Option.bind_eq_some_iff.1 h
        split at h
        · split at h
          · split at h
            · exact .inr (.inr (Option.some.inj h).symm)
            · exact .inl (Option.some.inj h).symm
          · cases h
        · exact .inl (Option.some.inj h).symm
      · cases h
    · exact .inl (Option.some.inj h).symm
  · exact .inl (Option.some.inj h).symm
/-- match.Find and the document's Find tell one thing; and what they tell. -/
theorem find_both (l : List S56) (id unit : Int) (pdu : ByteArray) (hv : ∀ j : Nat, j < l.length → (rd_T56 l (j : Int)).f5.f5.length ≤ 2000) (hs : pdu.size ≤ 300) :
    ∃ r ok, matchF 8000 l id unit pdu = some (r, ok) ∧ refFindF 8000 l id unit pdu = some (r, ok) ∧ ((ok = false ∧ r = 0) ∨ (ok = true ∧ ∃ j : Nat, j < l.length ∧ r = (j : Int) ∧ (rd_T56 l (j : Int)).f0 = id ∧ (rd_T56 l (j : Int)).f4 = unit ∧
      ∃ t, t ≠ 0 ∧ reply_Kind.f 8000 (rd_T56 l (j : Int)).f5.f0 (rd_T56 l (j : Int)).f5.f1 (rd_T56 l (j : Int)).f5.f2 (rd_T56 l (j : Int)).f5.f3 (rd_T56 l (j : Int)).f5.f4 (rd_T56 l (j : Int)).f5.f5 pdu = some t ∧
        gatewardenref07_Kind.f 8000 (rd_T56 l (j : Int)).f5.f0 (rd_T56 l (j : Int)).f5.f1 (rd_T56 l (j : Int)).f5.f2 (rd_T56 l (j : Int)).f5.f3 (rd_T56 l (j : Int)).f5.f4 (rd_T56 l (j : Int)).f5.f5 pdu = some t)) := by
  unfold matchF refFindF
  rcases find_told l id with ⟨h, -⟩ | ⟨j, hj, h, h0⟩
  · rw [h, if_pos (by decide), if_pos (by decide)]
    exact ⟨0, false, rfl, rfl, .inl ⟨rfl, rfl⟩⟩
  · rw [h, if_neg (by omega), if_neg (by omega)]
    have hvj := hv j hj
    generalize hx : rd_T56 l (j : Int) = x at h0 hvj ⊢
    unfold match_answers.f
    rw [if_pos h0]
    by_cases hu : x.f4 = unit
    · obtain ⟨t, h1, h2⟩ := kind_both x.f5.f0 x.f5.f1 x.f5.f2 x.f5.f3 x.f5.f4 x.f5.f5 pdu (by omega) hs
      have h3 := kind_three _ _ _ _ _ _ _ _ _ h1
      rw [if_pos hu, if_pos hu, h1, h2, Option.bind_some, Option.bind_some, Option.bind_some]
      by_cases ht : t = 0
      · rw [if_neg (by simp; omega), if_pos ht]
        exact ⟨0, false, rfl, rfl, .inl ⟨rfl, rfl⟩⟩
      · rw [if_pos (by simp; omega), if_neg ht]
        exact ⟨(j : Int), true, rfl, rfl, .inr ⟨rfl, j, hj, rfl, by rw [hx]; exact h0, by rw [hx]; exact hu, t, ht, by rw [hx]; exact h1, by rw [hx]; exact h2⟩⟩
    · rw [if_neg hu, if_neg hu, Option.bind_some]
      exact ⟨0, false, rfl, rfl, .inl ⟨rfl, rfl⟩⟩
end Go.Proofs.Ytinoabkfekomcaa.AskAskSizes
