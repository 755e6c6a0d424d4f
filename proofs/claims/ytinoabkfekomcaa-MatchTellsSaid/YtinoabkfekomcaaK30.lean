/- Texts of this claim, put together (wip/pack.py): MatchPure, PAskSizesm8. -/
import Derived.Test.YtinoabkfekomcaaK23
import Derived.Test.YtinoabkfekomcaaK24
import Derived.Test.YtinoabkfekomcaaK25
import Derived.Test.YtinoabkfekomcaaK29
import Derived.Test.YtinoabkfekomcaaK1
import Derived.Test.YtinoabkfekomcaaK28
import Derived.Test.YtinoabkfekomcaaK27
namespace Go.Proofs.Ytinoabkfekomcaa.AskAskSizes
open Go Go.RowKit Go.Proofs.Ytinoabkfekomcaa.PAskSizes Go.Proofs.YtinoabkfekomcaaW.PrintWords Go.Proofs.YtinoabkfekomcaaW.PrintLast Go.Proofs.Ytinoabkfekomcaa.Base Go.Proofs.Ytinoabkfekomcaa.RepAskSizes Go.Proofs.Ytinoabkfekomcaa.CoilAskSizes Go.Proofs.Ytinoabkfekomcaa.Coil
set_option linter.unusedVariables false
theorem wr1 (i n : Nat) (hi : i < n) (hn : n ≤ 1099511627776) : wrap64 ((i : Int) + 1) = ((i + 1 : Nat) : Int) := by rw [w64 (by omega) (by omega)]; omega
theorem few_loop (l : List S56) (hl : l.length ≤ 80) (d : Nat) : ∀ (k i : Nat), i ≤ l.length → l.length - i = d → d < k → ∃ b, gatewardenlaw21_few.l0 k l (i : Int) = some b ∧ (b = true → ∀ j : Nat, i ≤ j → j < l.length → (rd_T56 l (j : Int)).f5.f5.length ≤ 2000) := by
  induction d with
  | zero =>
    intro k i hi hd hk
    obtain ⟨k, rfl⟩ : ∃ m, k = m + 1 := ⟨k - 1, by omega⟩
    simp only [gatewardenlaw21_few.l0]
    exact ⟨true, by rw [if_neg (by omega)], fun _ j h1 h2 => by omega⟩
  | succ d ih =>
    intro k i hi hd hk
    obtain ⟨k, rfl⟩ : ∃ m, k = m + 1 := ⟨k - 1, by omega⟩
    simp only [gatewardenlaw21_few.l0]
    rw [if_pos (by omega), if_pos (by omega), wr1 i l.length (by omega) (by omega)]
    by_cases h : (((rd_T56 l (i : Int)).f5.f5).length : Int) > 2000
    · exact ⟨false, by rw [if_pos h], fun h => by cases h⟩
    · obtain ⟨b, hb, hx⟩ := ih k (i + 1) (by omega) (by omega) (by omega)
      refine ⟨b, by rw [if_neg h]; exact hb, fun e j h1 h2 => ?_⟩
      by_cases hj : j = i
      · subst hj; omega
      · exact hx e j (by omega) h2
theorem few_told (l : List S56) : ∃ b, gatewardenlaw21_few.f 100 l = some b ∧ (b = true → l.length ≤ 80 ∧ ∀ j : Nat, j < l.length → (rd_T56 l (j : Int)).f5.f5.length ≤ 2000) := by
  unfold gatewardenlaw21_few.f
  by_cases h : (l.length : Int) > 80
  · exact ⟨false, by rw [if_pos h], fun h => by cases h⟩
  · obtain ⟨b, hb, hx⟩ := few_loop l (by omega) l.length 100 0 (by omega) (by omega) (by omega)
    exact ⟨b, by rw [if_neg h]; exact hb, fun e => ⟨by omega, fun j hj => hx e j (by omega) hj⟩⟩
/-- No two of those behind a place have one outer number. -/
theorem right20_loop (l : List S56) (hl : l.length ≤ 80) : ∀ (k : Nat), (∀ i : Nat, i ≤ l.length → (l.length - i) * 100 < k → ∃ b, gatewardenref20_Right.l0 k l (i : Int) = some b ∧ (b = true → ∀ p q : Nat, i ≤ q → q < l.length → p < q → (rd_T56 l (p : Int)).f0 ≠ (rd_T56 l (q : Int)).f0)) ∧
    (∀ i j : Nat, i < l.length → j ≤ i → (l.length - i - 1) * 100 + (i - j) + 1 < k → ∃ b, gatewardenref20_Right.l1 k l (i : Int) (j : Int) = some b ∧ (b = true → (∀ p : Nat, j ≤ p → p < i → (rd_T56 l (p : Int)).f0 ≠ (rd_T56 l (i : Int)).f0) ∧ ∀ p q : Nat, i < q → q < l.length → p < q → (rd_T56 l (p : Int)).f0 ≠ (rd_T56 l (q : Int)).f0)) := by
  intro k
  induction k with
  | zero => exact ⟨fun i _ h => by omega, fun i j _ _ h => by omega⟩
  | succ k ih =>
    obtain ⟨ih0, ih1⟩ := ih
    refine ⟨fun i hi hk => ?_, fun i j hi hj hk => ?_⟩
    · simp only [gatewardenref20_Right.l0]
      by_cases h : i < l.length
      · rw [if_pos (by omega)]
        obtain ⟨b, hb, hx⟩ := ih1 i 0 h (by omega) (by omega)
        refine ⟨b, hb, fun e p q h1 h2 h3 => ?_⟩
        by_cases hq : q = i
        · subst hq; exact (hx e).1 p (by omega) h3
        · exact (hx e).2 p q (by omega) h2 h3
      · exact ⟨true, by rw [if_neg (by omega)], fun _ p q h1 h2 h3 => by omega⟩
    · simp only [gatewardenref20_Right.l1]
      by_cases h : j < i
      · rw [if_pos (by omega), if_pos (by omega), if_pos (by omega), if_pos (by omega), if_pos (by omega), wr1 j l.length (by omega) (by omega)]
        by_cases hf : (rd_T56 l (j : Int)).f0 = (rd_T56 l (i : Int)).f0
        · exact ⟨false, by rw [if_pos hf], fun h => by cases h⟩
        · obtain ⟨b, hb, hx⟩ := ih1 i (j + 1) hi (by omega) (by omega)
          refine ⟨b, by rw [if_neg hf]; exact hb, fun e => ⟨fun p h1 h2 => ?_, (hx e).2⟩⟩
          by_cases hp : p = j
          · subst hp; exact hf
          · exact (hx e).1 p (by omega) h2
      · obtain ⟨b, hb, hx⟩ := ih0 (i + 1) (by omega) (by omega)
        refine ⟨b, by rw [if_neg (by omega), wr1 i l.length (by omega) (by omega)]; exact hb, fun e => ⟨fun p h1 h2 => by omega, fun p q h1 h2 h3 => hx e p q (by omega) h2 h3⟩⟩
theorem right20_told (l : List S56) (hl : l.length ≤ 80) : ∃ b, gatewardenref20_Right.f 10000 l = some b ∧ (b = true → ∀ p q : Nat, q < l.length → p < q → (rd_T56 l (p : Int)).f0 ≠ (rd_T56 l (q : Int)).f0) := by
  obtain ⟨b, hb, hx⟩ := (right20_loop l hl 10000).1 0 (by omega) (by omega)
  exact ⟨b, hb, fun e p q h1 h2 => hx e p q (by omega) h1 h2⟩
theorem rd_drop (l : List S56) (i : Nat) (h : i < l.length) : l.drop i = rd_T56 l (i : Int) :: l.drop (i + 1) := by
  have : rd_T56 l (i : Int) = l[i] := by simp [rd_T56, List.getD_eq_getElem?_getD, List.getElem?_eq_getElem h]
  rw [this]; exact List.drop_eq_getElem_cons h
theorem refFind_loop (l : List S56) (id : Int) (hl : l.length ≤ 1099511627776) (d : Nat) : ∀ (k i : Nat), i ≤ l.length → l.length - i = d → d < k → gatewardenref20_Find.l0 k l id (i : Int) = some (idx56 (fun x => x.f0 == id) (l.drop i) i) := by
  induction d with
  | zero =>
    intro k i hi hd hk
    obtain ⟨k, rfl⟩ : ∃ m, k = m + 1 := ⟨k - 1, by omega⟩
    simp only [gatewardenref20_Find.l0]
    rw [if_neg (by omega), List.drop_of_length_le (by omega)]
    rfl
  | succ d ih =>
    intro k i hi hd hk
    obtain ⟨k, rfl⟩ : ∃ m, k = m + 1 := ⟨k - 1, by omega⟩
    simp only [gatewardenref20_Find.l0]
    rw [if_pos (by omega), if_pos (by omega), wr1 i l.length (by omega) (by omega), rd_drop l i (by omega)]
    simp only [idx56]
    by_cases h : (rd_T56 l (i : Int)).f0 = id
    · rw [if_pos h, if_pos (beq_iff_eq.2 h)]
    · rw [if_neg h, if_neg (by simpa using h)]
      exact ih k (i + 1) (by omega) (by omega) (by omega)
theorem refFind20_eq (l : List S56) (id : Int) (hl : l.length ≤ 80) : gatewardenref20_Find.f 100 l id = some (findP l id) := by
  have h := refFind_loop l id (by omega) l.length 100 0 (by omega) (by omega) (by omega)
  exact h
theorem idx_told (id : Int) : ∀ (l : List S56) (i : Nat), (idx56 (fun x => x.f0 == id) l i = -1 ∧ ∀ x ∈ l, x.f0 ≠ id) ∨ (∃ j : Nat, j < l.length ∧ idx56 (fun x => x.f0 == id) l i = ((i + j : Nat) : Int) ∧ (rd_T56 l (j : Int)).f0 = id)
  | [], i => .inl ⟨rfl, fun x hx => by cases hx⟩
  | x :: t, i => by
    simp only [idx56]
    by_cases h : x.f0 = id
    · rw [if_pos (beq_iff_eq.2 h)]
      exact .inr ⟨0, by simp, by simp, by simpa [rd_T56] using h⟩
    · rw [if_neg (by simpa using h)]
      rcases idx_told id t (i + 1) with ⟨h1, h2⟩ | ⟨j, h1, h2, h3⟩
      · refine .inl ⟨h1, fun y hy => ?_⟩
        rcases List.mem_cons.1 hy with rfl | hy
        · exact h
        · exact h2 y hy
      · refine .inr ⟨j + 1, by simp; omega, by rw [h2]; congr 1; omega, ?_⟩
        have e : rd_T56 (x :: t) ((j + 1 : Nat) : Int) = rd_T56 t (j : Int) := by simp [rd_T56]
        rw [e]; exact h3
/-- What is found: nothing, or the place of one of that number. -/
theorem find_told (l : List S56) (id : Int) : (findP l id = -1 ∧ ∀ x ∈ l, x.f0 ≠ id) ∨ (∃ j : Nat, j < l.length ∧ findP l id = (j : Int) ∧ (rd_T56 l (j : Int)).f0 = id) := by
  rcases idx_told id l 0 with h | ⟨j, h1, h2, h3⟩
  · exact .inl h
  · exact .inr ⟨j, h1, by show idx56 _ l 0 = _; rw [h2]; simp, h3⟩
theorem kind_three (a0 a1 a2 a3 a4 : Int) (l : List Int) (s : ByteArray) (k : Nat) (t : Int) (h : reply_Kind.f k a0 a1 a2 a3 a4 l s = some t) : t = 0 ∨ t = 1 ∨ t = 2 := by
  unfold reply_Kind.f at h
  obtain ⟨d, -, h⟩ := Option.bind_eq_some_iff.1 h
  split at h
  · exact .inr (.inl (Option.some.inj h).symm)
  obtain ⟨rt, -, h⟩ := Option.bind_eq_some_iff.1 h
  split at h
  · split at h
    · split at h
      · obtain ⟨cd, -, h⟩ := Option.bind_eq_some_iff.1 h
        split at h
        · split at h
          · split at h
            · exact .inr (.inr (Option.some.inj h).symm)
            · exact .inl (Option.some.inj h).symm
          · cases h
        · exact .inl (Option.some.inj h).symm
      · cases h
    · exact .inl (Option.some.inj h).symm
  · exact .inl (Option.some.inj h).symm
/-- match.Find and the document's Find tell one thing; and what they tell. -/
theorem find_both (l : List S56) (id unit : Int) (pdu : ByteArray) (hv : ∀ j : Nat, j < l.length → (rd_T56 l (j : Int)).f5.f5.length ≤ 2000) (hs : pdu.size ≤ 300) :
    ∃ r ok, matchF 8000 l id unit pdu = some (r, ok) ∧ refFindF 8000 l id unit pdu = some (r, ok) ∧ ((ok = false ∧ r = 0) ∨ (ok = true ∧ ∃ j : Nat, j < l.length ∧ r = (j : Int) ∧ (rd_T56 l (j : Int)).f0 = id ∧ (rd_T56 l (j : Int)).f4 = unit ∧
      ∃ t, t ≠ 0 ∧ reply_Kind.f 8000 (rd_T56 l (j : Int)).f5.f0 (rd_T56 l (j : Int)).f5.f1 (rd_T56 l (j : Int)).f5.f2 (rd_T56 l (j : Int)).f5.f3 (rd_T56 l (j : Int)).f5.f4 (rd_T56 l (j : Int)).f5.f5 pdu = some t ∧
        gatewardenref07_Kind.f 8000 (rd_T56 l (j : Int)).f5.f0 (rd_T56 l (j : Int)).f5.f1 (rd_T56 l (j : Int)).f5.f2 (rd_T56 l (j : Int)).f5.f3 (rd_T56 l (j : Int)).f5.f4 (rd_T56 l (j : Int)).f5.f5 pdu = some t)) := by
  unfold matchF refFindF
  rcases find_told l id with ⟨h, -⟩ | ⟨j, hj, h, h0⟩
  · rw [h, if_pos (by decide), if_pos (by decide)]
    exact ⟨0, false, rfl, rfl, .inl ⟨rfl, rfl⟩⟩
  · rw [h, if_neg (by omega), if_neg (by omega)]
    have hvj := hv j hj
    generalize hx : rd_T56 l (j : Int) = x at h0 hvj ⊢
    unfold match_answers.f
    rw [if_pos h0]
    by_cases hu : x.f4 = unit
    · obtain ⟨t, h1, h2⟩ := kind_both x.f5.f0 x.f5.f1 x.f5.f2 x.f5.f3 x.f5.f4 x.f5.f5 pdu (by omega) hs
      have h3 := kind_three _ _ _ _ _ _ _ _ _ h1
      rw [if_pos hu, if_pos hu, h1, h2, Option.bind_some, Option.bind_some, Option.bind_some]
      by_cases ht : t = 0
      · rw [if_neg (by simp; omega), if_pos ht]
        exact ⟨0, false, rfl, rfl, .inl ⟨rfl, rfl⟩⟩
      · rw [if_pos (by simp; omega), if_neg ht]
        exact ⟨(j : Int), true, rfl, rfl, .inr ⟨rfl, j, hj, rfl, by rw [hx]; exact h0, by rw [hx]; exact hu, t, ht, by rw [hx]; exact h1, by rw [hx]; exact h2⟩⟩
    · rw [if_neg hu, if_neg hu, Option.bind_some]
      exact ⟨0, false, rfl, rfl, .inl ⟨rfl, rfl⟩⟩
def faultP (a0 a1 : Int) : ByteArray × Bool := if 1 ≤ a0 ∧ a0 ≤ 127 ∧ codeP a1 = true then (strOfNums [a0 + 128, a1], true) else ((⟨#[]⟩ : ByteArray), false)
theorem fault_eq (a0 a1 : Int) : reply_Fault.f a0 a1 = some (faultP a0 a1) := by
  unfold reply_Fault.f faultP
  by_cases h0 : a0 < 1
  · rw [if_pos h0, if_neg (by omega)]
  rw [if_neg h0]
  by_cases h1 : a0 > 127
  · rw [if_pos h1, if_neg (by omega)]
  rw [if_neg h1, code_eq, Option.bind_some]
  by_cases h2 : codeP a1 = true
  · have := code_bound h2
    rw [if_pos h2, if_pos ⟨by omega, by omega, h2⟩, Int.emod_eq_of_lt (by omega) (by omega), Int.emod_eq_of_lt (by omega) (by omega)]
    have e := or_top a0 7 (by decide) (by omega) (by simp; omega)
    rw [show (2 : Int) ^ 7 = 128 by decide] at e
    rw [e]
  · rw [if_neg h2, if_neg (fun h => h2 h.2.2)]
theorem refFault_eq (a0 a1 : Int) : gatewardenref07_Fault.f a0 a1 = some (faultP a0 a1) := by
  unfold gatewardenref07_Fault.f faultP
  by_cases h0 : a0 < 1
  · rw [if_pos h0, if_neg (by omega)]
  rw [if_neg h0]
  by_cases h1 : a0 > 127
  · rw [if_pos h1, if_neg (by omega)]
  rw [if_neg h1, refCode_eq, Option.bind_some]
  by_cases h2 : codeP a1 = true
  · have := code_bound h2
    rw [if_pos h2, if_pos ⟨by omega, by omega, h2⟩, w64 (by omega) (by omega), Int.emod_eq_of_lt (by omega) (by omega), Int.emod_eq_of_lt (by omega) (by omega)]
  · rw [if_neg h2, if_neg (fun h => h2 h.2.2)]
end Go.Proofs.Ytinoabkfekomcaa.AskAskSizes
namespace Go.Proofs.Ytinoabkfekomcaa.PAskSizes
open Go.RowKit Go.Proofs.YtinoabkfekomcaaW.PrintWords Go.Proofs.YtinoabkfekomcaaW.PrintLast Go.Proofs.YtinoabkfekomcaaW.PrintMore
attribute [local go_sem] max2_int min2_int max_two min_two max_three min_three max_four min_four   -- for this text's walks alone
set_option linter.unusedVariables false
set_option linter.unusedSimpArgs false

/-! ### the examples of the layer match, walked by hand -/
/-- A row of one that waits, by its block. -/
theorem one_row {W : World} {b : Nat} {t : TypeId} {x : S56} {A : Option Addr} {c : Nat} (h : W.heap[b]? = some (.cells (pv x A c) t (0, 0))) (hl : x.f5.f5.length ≤ c) (hC : Kd.C (Kd.int .i64) W A x.f5.f5.length x.f5.f5) : Kd.C k56 W (some ⟨b, 0, none⟩) 1 [x] := by
 refine ⟨rfl, by decide, fun _ => ⟨⟨b, 0, none⟩, rfl, fun j p hp => ?_⟩⟩
 cases j with
 | succ j => simp at hp
 | zero =>
  obtain rfl : x = p := by simpa using hp
  refine ⟨_, rfl, k56_mk W x hl hC, fun i u hu => ?_⟩
  have ea : (⟨b, 0, none⟩ : Addr).add (0 * k56.sz + i) = ⟨b, i, none⟩ := by cases i <;> simp [Addr.add]
  rw [ea, blk_cell h i, ← hu]
  simp only [pv, List.getElem?_toArray]
theorem hcells12 {W : World} {g : Nat} {v0 v1 v2 v3 v4 v5 v6 v7 v8 v9 v10 v11 : Value} {t : TypeId} (h : W.heap[g]? = some (.cells #[v0, v1, v2, v3, v4, v5, v6, v7, v8, v9, v10, v11] t (0, 0))) :
  W.cell? ⟨g, 0, none⟩ = some v0 ∧ W.cell? ⟨g, 1, none⟩ = some v1 ∧ W.cell? ⟨g, 2, none⟩ = some v2 ∧ W.cell? ⟨g, 3, none⟩ = some v3 ∧ W.cell? ⟨g, 4, none⟩ = some v4 ∧ W.cell? ⟨g, 5, none⟩ = some v5 ∧ W.cell? ⟨g, 6, none⟩ = some v6 ∧ W.cell? ⟨g, 7, none⟩ = some v7 ∧ W.cell? ⟨g, 8, none⟩ = some v8 ∧ W.cell? ⟨g, 9, none⟩ = some v9 ∧ W.cell? ⟨g, 10, none⟩ = some v10 ∧ W.cell? ⟨g, 11, none⟩ = some v11 :=
 ⟨(blk_cell h 0).trans rfl, (blk_cell h 1).trans rfl, (blk_cell h 2).trans rfl, (blk_cell h 3).trans rfl, (blk_cell h 4).trans rfl, (blk_cell h 5).trans rfl, (blk_cell h 6).trans rfl, (blk_cell h 7).trans rfl, (blk_cell h 8).trans rfl, (blk_cell h 9).trans rfl, (blk_cell h 10).trans rfl, (blk_cell h 11).trans rfl⟩
abbrev exP : S56 := ⟨9, 0, 0, 5, 1, ⟨3, 0, 1, 0, 0, []⟩, 0⟩
abbrev exS : ByteArray := ⟨#[3, 2, 0, 7]⟩
theorem ex_yes : matchF 60 [exP] 9 1 exS = some (0, true) := by decide +kernel
theorem ex_no : matchF 60 [exP] 9 2 exS = some (0, false) := by decide +kernel
theorem ex_fault : match_Fault.f 9 0 0 5 1 3 0 1 0 0 [] 0 11 = some (5, 1, ⟨#[131, 11]⟩, true) := by decide +kernel
set_option maxHeartbeats 8000000 in
set_option maxRecDepth 100000 in
theorem awake21_calls (w : World) : Calls Try.prog 39 #[] w fun e w' => e = .returned (.bool true) ∧ Below w.heap.size w w' := by
 obtain ⟨T, hT⟩ : ∃ T : Ending → World → Prop, T = fun e w' => e = .returned (.bool true) ∧ Below w.heap.size w w' := ⟨_, rfl⟩
 have HT := Aside0.mk hT
 rw [← hT]
 clear hT
 obtain ⟨O, hO⟩ : ∃ O : Obj, O = .cells #[.int .i64 9, .int .i64 0, .int .i64 0, .int .i64 5, .int .i64 1, .int .i64 3, .int .i64 0, .int .i64 1, .int .i64 0, .int .i64 0, .slice none 0 0, .int .i64 0] 56 := ⟨_, rfl⟩
 have HO := Aside0.mk hO
 have K0 := Aside0.mk (blk_alloc (blk_new w O) O)
 have D0 := Aside0.mk (below_alloc (below_alloc (Below.refl w.heap.size w) O) O)
 have N1 := Aside0.mk (show ((w.alloc O).alloc O).heap[w.heap.size + 1]? = some O from by have h := blk_new (w.alloc O) O; rw [World.size_alloc] at h; exact h)
 rw [hO] at K0 D0 N1
 clear hO
 go_enter Try.func39, Try.ntmps39
 go_wp2_with fail
 refine (match_Find.calls 60 (some ⟨w.heap.size + 1, 0, none⟩) 1 [exP] 9 1 exS 0 true _ (one_row (x := exP) (A := none) (c := 0) N1.out (by decide) (Kd.C_nil _ _)) (by decide) (by decide) ex_yes).mono ?_
 rintro e w1 ⟨rfl, hb⟩
 have K1 := Aside0.mk (blk_below K0.out hb)
 have D1 := Aside0.mk (below_step D0.out hb)
 have K2 := Aside0.mk (blk_alloc K1.out O)
 have D2 := Aside0.mk (below_alloc D1.out O)
 have N2 := Aside0.mk (blk_new w1 O)
 rw [HO.out] at K2 D2 N2
 clear hb K0 N1 D0
 obtain ⟨x0, x1, x2, x3, x4, x5, x6, x7, x8, x9, x10, x11⟩ := hcells12 K1.out
 go_wp2_with fail
 refine (match_Find.calls 60 (some ⟨w1.heap.size, 0, none⟩) 1 [exP] 9 2 exS 0 false _ (one_row (x := exP) (A := none) (c := 0) N2.out (by decide) (Kd.C_nil _ _)) (by decide) (by decide) ex_no).mono ?_
 rintro e w2 ⟨rfl, hb⟩
 have K3 := Aside0.mk (blk_below K2.out hb)
 have D3 := Aside0.mk (below_step D2.out hb)
 clear hb K1 K2 D2 D1 N2 x0 x1 x2 x3 x4 x5 x6 x7 x8 x9 x10 x11
 obtain ⟨x0, x1, x2, x3, x4, x5, x6, x7, x8, x9, x10, x11⟩ := hcells12 K3.out
 go_wp2_with fail
 refine (match_Fault.calls 9 0 0 5 1 3 0 1 0 0 none 0 [] 0 11 5 1 ⟨#[131, 11]⟩ true _ (Kd.C_nil _ _) (Nat.le_refl _) ex_fault).mono ?_
 rintro e w3 ⟨rfl, hb⟩
 have D4 := Aside0.mk (below_step D3.out hb)
 clear hb K3 D3 x0 x1 x2 x3 x4 x5 x6 x7 x8 x9 x10 x11
 go_wp2
 rw [HT.out]
 refine ⟨rfl, ?_⟩
 have D0 := below_alloc D4.out
 with_reducible (repeat (first | exact D0 _ | apply below_drew1 | apply pw_below_drewN))
end Go.Proofs.Ytinoabkfekomcaa.PAskSizes
