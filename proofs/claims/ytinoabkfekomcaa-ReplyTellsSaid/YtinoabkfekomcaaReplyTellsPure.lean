/- Which kind bytes are: the layer's own function and the document's tell one thing (plainly). -/
import Derived.Test.YtinoabkfekomcaaRefReply
import Derived.Test.YtinoabkfekomcaaPAskSizesz5
import Derived.Test.YtinoabkfekomcaaPAskSizesz6
import Derived.Test.YtinoabkfekomcaaPAskSizesy7
namespace Go.Proofs.Ytinoabkfekomcaa.AskAskSizes
open Go Go.RowKit Go.Proofs.Ytinoabkfekomcaa.PAskSizes Go.Proofs.YtinoabkfekomcaaW.PrintWords Go.Proofs.YtinoabkfekomcaaW.PrintLast Go.Proofs.Ytinoabkfekomcaa.Base Go.Proofs.Ytinoabkfekomcaa.RepAskSizes Go.Proofs.Ytinoabkfekomcaa.CoilAskSizes Go.Proofs.Ytinoabkfekomcaa.Coil
set_option linter.unusedVariables false
theorem refCode_eq (a : Int) : gatewardenref07_Code.f a = some (codeP a) := by
  unfold gatewardenref07_Code.f codeP
  by_cases h1 : 1 ≤ a
  · rw [if_pos h1, decide_eq_true h1]
    by_cases h2 : a ≤ 6
    · rw [if_pos h2, decide_eq_true h2]; rfl
    · rw [if_neg h2, decide_eq_false h2]
      by_cases h8 : a = 8
      · subst h8; rfl
      by_cases h10 : a = 10
      · subst h10; rfl
      rw [if_neg h8, if_neg h10, beq_eq_false_iff_ne.2 h8, beq_eq_false_iff_ne.2 h10]; rfl
  · rw [if_neg h1, decide_eq_false h1]
    by_cases h8 : a = 8
    · omega
    by_cases h10 : a = 10
    · omega
    rw [if_neg h8, if_neg h10, beq_eq_false_iff_ne.2 h8, beq_eq_false_iff_ne.2 h10]; rfl
theorem awake_true (k : Nat) (hk : 30 ≤ k) : gatewardenlaw07_awake.f k = some true := by
  refine at_rounds gatewardenlaw07_awake.mono hk ?_
  decide +kernel
theorem ints_loop (l : List Int) (hl : l.length ≤ 9223372036854775806) (d : Nat) : ∀ (k i : Nat), i ≤ l.length → l.length - i = d → d < k → gatewardenref01_Ints.l0 k l l (i : Int) = some true := by
  induction d with
  | zero =>
    intro k i hi hd hk
    obtain ⟨k, rfl⟩ : ∃ m, k = m + 1 := ⟨k - 1, by omega⟩
    simp only [gatewardenref01_Ints.l0]
    rw [if_neg (by omega)]
  | succ d ih =>
    intro k i hi hd hk
    obtain ⟨k, rfl⟩ : ∃ m, k = m + 1 := ⟨k - 1, by omega⟩
    have hw : wrap64 ((i : Int) + 1) = ((i + 1 : Nat) : Int) := by rw [w64 (by omega) (by omega)]; omega
    simp only [gatewardenref01_Ints.l0]
    rw [if_pos (by omega), if_pos (by omega), if_pos (by omega), if_pos True.intro, hw]
    exact ih k (i + 1) (by omega) (by omega) (by omega)
theorem ints_same (l : List Int) (hl : l.length ≤ 9223372036854775806) (k : Nat) (hk : l.length < k) : gatewardenref01_Ints.f k l l = some true := by
  unfold gatewardenref01_Ints.f
  rw [if_pos rfl]
  exact ints_loop l hl l.length k 0 (by omega) (by omega) hk
theorem or128 {a0 a1 a2 a3 a4 : Int} {l : List Int} (ht : Rt a0 a1 a2 a3 a4 l) : Go.bits .or .i64 a0 128 = a0 + 128 := by
  rcases ht with ⟨h0, _⟩ | ⟨h0, _⟩ | ⟨rfl, _⟩ | ⟨rfl, _⟩ | ⟨rfl, _⟩ | ⟨rfl, _⟩ | ⟨rfl, _⟩ | ⟨rfl, _⟩
  · rcases h0 with rfl | rfl <;> decide
  · rcases h0 with rfl | rfl <;> decide
  all_goals decide
theorem kind_both (a0 a1 a2 a3 a4 : Int) (l : List Int) (s : ByteArray) (hl : l.length ≤ 3000) (hs : s.size ≤ 300) : ∃ t, reply_Kind.f 8000 a0 a1 a2 a3 a4 l s = some t ∧ gatewardenref07_Kind.f 8000 a0 a1 a2 a3 a4 l s = some t := by
  unfold reply_Kind.f gatewardenref07_Kind.f
  rw [data_eq _ _ _ _ _ _ _ hs _ (by decide), refData_eq _ _ _ _ _ _ _ hl hs 7995 (by decide), Option.bind_some, Option.bind_some, right_eq _ _ _ _ _ _ _ (by decide), refRight_eq _ _ _ _ _ _ (by omega) _ (by omega), Option.bind_some, Option.bind_some]
  have nf : ¬ (false = true) := by decide
  cases (dataP a0 a1 a2 a3 a4 l s).2
  · rw [if_neg nf, if_neg nf]
    by_cases hr : rightP a0 a1 a2 a3 a4 l = true
    · rw [if_pos hr, if_pos hr]
      have ht := rt_of hr
      have hb := rt_of_len ht
      by_cases h2 : (s.size : Int) = 2
      · have g0 := bt_range s 0
        have g1 := bt_range s 1
        rw [if_pos h2, if_pos h2, if_pos (show (1 : Int) < (s.size : Int) by omega), if_pos (show (0 : Int) < (s.size : Int) by omega), or128 ht, w64 (n := bt s 0) (by omega) (by omega), w64 (n := bt s 1) (by omega) (by omega), w64 (n := a0 + 128) (by omega) (by omega), code_eq, Option.bind_some]
        have p0 : (0 : Int) < (s.size : Int) := by omega
        have p1 : (1 : Int) < (s.size : Int) := by omega
        by_cases h3 : bt s 0 = a0 + 128
        · rw [if_pos p0, if_pos h3, if_pos h3, if_pos p1, refCode_eq, Option.bind_some]
          cases codeP (bt s 1)
          · exact ⟨0, rfl, rfl⟩
          · exact ⟨2, rfl, rfl⟩
        · rw [if_pos p0, if_neg h3, if_neg h3]
          refine ⟨0, ?_, rfl⟩
          split
          · rfl
          · rfl
      · rw [if_neg h2, if_neg h2]
        exact ⟨0, rfl, rfl⟩
    · rw [if_neg hr, if_neg hr]
      exact ⟨0, rfl, rfl⟩
  · exact ⟨1, rfl, rfl⟩
theorem data_len (a0 a1 a2 a3 a4 : Int) (l : List Int) (s : ByteArray) (hs : s.size ≤ 300) : (dataP a0 a1 a2 a3 a4 l s).1.length ≤ 3000 := (data_wf a0 a1 a2 a3 a4 l s hs).2
end Go.Proofs.Ytinoabkfekomcaa.AskAskSizes
