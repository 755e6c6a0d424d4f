/- LexTells, as a plain law. -/
import Derived.Test.YtjllahglfpbemaaDoorLexLaws
import Derived.Test.YtjllahglfpbemaaDoorLexTellsW
namespace Go.Proofs.YtjllahglfpbemaaDoor.Pure
open Go.RowKit Go.Proofs.YtjllahglfpbemaaDoor.PGuardTells Go.Proofs.YtjllahglfpbemaaDoorW.PrintWords Go.Proofs.YtjllahglfpbemaaDoorW.PrintLast
theorem outF_len (s : ByteArray) (hs : s.size ≤ 1000) : (outF (lexF s.data.toList 1)).1.length ≤ 1000 := by
  cases h : lexF s.data.toList 1 with
  | error i => exact Nat.zero_le _
  | ok r =>
    have := (lexF_toks _ _ _ r (Nat.le_refl _) h).2.2
    rw [← size_list] at this
    exact Nat.le_trans this hs
theorem LexTells : gatewardenlaw10_LexTells.Pure := by
  intro a0 a1 h0 h1
  refine ⟨5001, ?_⟩
  unfold gatewardenlaw10_LexTells.f
  by_cases c0 : (a0.size : Int) > 1000
  · rw [if_pos c0, gatewardenlaw10_LexTells.j0, if_pos rfl, awake_eq]; rfl
  rw [if_neg c0]
  by_cases c1 : (a1.size : Int) > 1000
  · rw [decide_eq_true c1, gatewardenlaw10_LexTells.j0, if_pos rfl, awake_eq]; rfl
  have l0 := outF_len a0 (by omega)
  have l1 := outF_len a1 (by omega)
  have e0 : lex_Split.f a0 = some (outF (lexF a0.data.toList 1)) := by unfold lex_Split.f splitF; rw [if_neg (by omega)]
  have e1 : gatewardenref10_Split.f a0 = some (outF (lexF a0.data.toList 1)) := by unfold gatewardenref10_Split.f; rw [if_pos (by omega)]
  have e2 : gatewardenref10_Split.f a1 = some (outF (lexF a1.data.toList 1)) := by unfold gatewardenref10_Split.f; rw [if_pos (by omega)]
  rw [decide_eq_false c1, gatewardenlaw10_LexTells.j0, if_neg (by decide), e0, Option.bind_some, e1, Option.bind_some, e2, Option.bind_some, awake_eq, Option.bind_some, if_pos rfl, rsame_eq _ _ (by omega) _ (by omega), Option.bind_some, sameT_refl, if_pos rfl, if_pos rfl, if_pos rfl, lsame_eq _ _ (by omega) _ (by omega), Option.bind_some, rsame_eq _ _ (by omega) _ (by omega), Option.bind_some]
  simp
end Go.Proofs.YtjllahglfpbemaaDoor.Pure
