/- Whether two requests are the same: ask.Same and the document's tell one thing. -/
import Derived.Test.YtinoabkfekomcaaAskRefGet
namespace Go.Proofs.Ytinoabkfekomcaa.AskAskSizes
open Go Go.RowKit Go.Proofs.Ytinoabkfekomcaa.PAskSizes Go.Proofs.YtinoabkfekomcaaW.PrintWords Go.Proofs.YtinoabkfekomcaaW.PrintLast Go.Proofs.Ytinoabkfekomcaa.Base Go.Proofs.Ytinoabkfekomcaa.RepAskSizes Go.Proofs.Ytinoabkfekomcaa.CoilAskSizes Go.Proofs.Ytinoabkfekomcaa.Coil
set_option maxRecDepth 100000
set_option linter.unusedVariables false
theorem ints_loop (l m : List Int) (hlm : l.length = m.length) (hl : l.length ≤ 1099511627776) (d : Nat) : ∀ (k i : Nat), i ≤ l.length → l.length - i = d → d < k →
    gatewardenref01_Ints.l0 k l m (i : Int) = some (decide (l.drop i = m.drop i)) ∧ slices_Equal_int_int.l0 k l m (l.length : Int) (i : Int) = some (decide (l.drop i = m.drop i)) := by
  induction d with
  | zero =>
    intro k i h hd hk
    obtain ⟨k, rfl⟩ : ∃ m, k = m + 1 := ⟨k - 1, by omega⟩
    obtain rfl : i = l.length := by omega
    simp only [gatewardenref01_Ints.l0, slices_Equal_int_int.l0]
    rw [if_neg (by omega), List.drop_length, hlm, List.drop_length]
    exact ⟨by simp, by simp⟩
  | succ d ih =>
    intro k i h hd hk
    obtain ⟨k, rfl⟩ : ∃ m, k = m + 1 := ⟨k - 1, by omega⟩
    have hlt : i < l.length := by omega
    have hlt' : i < m.length := by omega
    have t1 : (i : Int) < (l.length : Int) := by omega
    have t2 : (i : Int) < (m.length : Int) := by omega
    have t3 : (0 : Int) ≤ (i : Int) := by omega
    have hwr : wrap64 ((i : Int) + 1) = ((i + 1 : Nat) : Int) := by rw [w64 (by omega) (by omega)]; omega
    obtain ⟨i1, i2⟩ := ih k (i + 1) (by omega) (by omega) (by omega)
    have hrd : rd l (i : Int) = l[i] := by rw [rd_nat, List.getD_eq_getElem?_getD, List.getElem?_eq_getElem hlt]; rfl
    have hrd' : rd m (i : Int) = m[i] := by rw [rd_nat, List.getD_eq_getElem?_getD, List.getElem?_eq_getElem hlt']; rfl
    rw [List.drop_eq_getElem_cons hlt, List.drop_eq_getElem_cons hlt']
    generalize l.drop (i + 1) = p at i1 i2 ⊢
    generalize m.drop (i + 1) = q at i1 i2 ⊢
    generalize l[i] = a at hrd ⊢
    generalize m[i] = b at hrd' ⊢
    have e : decide (a :: p = b :: q) = (decide (a = b) && decide (p = q)) := by
      by_cases h1 : a = b
      · by_cases h2 : p = q
        · rw [h1, h2]; simp
        · rw [decide_eq_false h2, Bool.and_false, decide_eq_false (by simp [h2])]
      · rw [decide_eq_false h1, Bool.false_and, decide_eq_false (by simp [h1])]
    rw [e]
    constructor
    · simp only [gatewardenref01_Ints.l0]
      rw [if_pos t1, if_pos t3, if_pos t2, hrd, hrd', hwr, i1]
      by_cases he : a = b
      · rw [if_pos he, decide_eq_true he]; rfl
      · rw [if_neg he, decide_eq_false he]; rfl
    · simp only [slices_Equal_int_int.l0]
      rw [if_pos t1, if_pos t3, if_pos t1, if_pos t2, hrd, hrd', hwr, i2]
      by_cases he : a = b
      · rw [if_pos he, decide_eq_true he]; rfl
      · rw [if_neg he, decide_eq_false he]; rfl
theorem ints_eq (l m : List Int) (hl : l.length ≤ 1099511627776) (k : Nat) (hk : l.length < k) : gatewardenref01_Ints.f k l m = some (decide (l = m)) ∧ slices_Equal_int_int.f k l m = some (decide (l = m)) := by
  unfold gatewardenref01_Ints.f slices_Equal_int_int.f
  by_cases h : l.length = m.length
  · rw [if_pos (by omega), if_pos (by omega)]
    exact ints_loop l m h hl l.length k 0 (by omega) (by omega) hk
  · rw [if_neg (by omega), if_neg (by omega), decide_eq_false (fun e => h (by rw [e]))]
    exact ⟨rfl, rfl⟩
def sameP (a b : Int × Int × Int × Int × Int × List Int) : Bool := decide (a = b)
theorem same_both (a0 a1 a2 a3 a4 : Int) (l : List Int) (b0 b1 b2 b3 b4 : Int) (m : List Int) (hl : l.length ≤ 1099511627776) (k : Nat) (hk : l.length < k) :
    gatewardenref06_Same.f k a0 a1 a2 a3 a4 l b0 b1 b2 b3 b4 m = some (sameP (a0, a1, a2, a3, a4, l) (b0, b1, b2, b3, b4, m)) ∧ ask_Same.f k a0 a1 a2 a3 a4 l b0 b1 b2 b3 b4 m = some (sameP (a0, a1, a2, a3, a4, l) (b0, b1, b2, b3, b4, m)) := by
  unfold gatewardenref06_Same.f ask_Same.f sameP
  obtain ⟨i1, i2⟩ := ints_eq l m hl k hk
  rw [i1, i2]
  by_cases h0 : a0 = b0
  · by_cases h1 : a1 = b1
    · by_cases h2 : a2 = b2
      · by_cases h3 : a3 = b3
        · by_cases h4 : a4 = b4
          · subst h0 h1 h2 h3 h4
            rw [if_pos rfl, if_pos rfl, if_pos rfl, if_pos rfl, if_pos rfl]
            have e : ((a0, a1, a2, a3, a4, l) = (a0, a1, a2, a3, a4, m)) ↔ l = m := by simp
            rw [decide_eq_decide.2 e]
            exact ⟨rfl, rfl⟩
          · rw [if_pos h0, if_pos h1, if_pos h2, if_pos h3, if_neg h4, decide_eq_false (by simp [h4])]
            exact ⟨rfl, rfl⟩
        · rw [if_pos h0, if_pos h1, if_pos h2, if_neg h3, decide_eq_false (by simp [h3])]
          exact ⟨rfl, rfl⟩
      · rw [if_pos h0, if_pos h1, if_neg h2, decide_eq_false (by simp [h2])]
        exact ⟨rfl, rfl⟩
    · rw [if_pos h0, if_neg h1, decide_eq_false (by simp [h1])]
      exact ⟨rfl, rfl⟩
  · rw [if_neg h0, decide_eq_false (by simp [h0])]
    exact ⟨rfl, rfl⟩
end Go.Proofs.Ytinoabkfekomcaa.AskAskSizes
