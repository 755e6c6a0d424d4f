/- LexJoins, as a plain law. -/
import Derived.Test.YtjllahglfpbemaaDoorLexLaws
import Derived.Test.YtjllahglfpbemaaDoorLexJoinsW
namespace Go.Proofs.YtjllahglfpbemaaDoor.Pure
open Go.RowKit Go.Proofs.YtjllahglfpbemaaDoor.PGuardTells Go.Proofs.YtjllahglfpbemaaDoorW.PrintWords Go.Proofs.YtjllahglfpbemaaDoorW.PrintLast
set_option linter.unusedSimpArgs false
/-- The lines counted. -/
theorem joins_lines (s : ByteArray) (hs : s.size ≤ 1000) (x5 x8 x11 : List S28) (x6 x7 x9 x10 x12 x13 : Int) (d : Nat) : ∀ (k i : Nat), i ≤ s.size → s.size - i = d →
    gatewardenlaw10_LexJoins.l0 (k + d + 1) s x5 x6 x7 x8 x9 x10 x11 x12 x13 (1 + ((lfs (s.data.toList.take i) : Nat) : Int)) (i : Int) = gatewardenlaw10_LexJoins.l0 (k + 1) s x5 x6 x7 x8 x9 x10 x11 x12 x13 (1 + ((lfs s.data.toList : Nat) : Int)) (s.size : Int) := by
  have hsz := size_list s
  induction d with
  | zero =>
    intro k i h hd
    obtain rfl : i = s.size := by omega
    rw [hsz, List.take_length]
  | succ d ih =>
    intro k i h hd
    have hlt : i < s.data.toList.length := by omega
    have hle : lfs (s.data.toList.take i) ≤ i := Nat.le_trans List.countP_le_length (by rw [List.length_take]; omega)
    rw [show k + (d + 1) + 1 = (k + d + 1) + 1 by omega, gatewardenlaw10_LexJoins.l0, if_pos (by omega), if_pos (by omega), bt_nat hlt, show wrap64 ((i : Int) + 1) = ((i + 1 : Nat) : Int) by rw [w64 (by omega) (by omega)]; omega]
    have hst : lfs (s.data.toList.take (i + 1)) = lfs (s.data.toList.take i) + if s.data.toList[i] = 10 then 1 else 0 := by
      rw [List.take_succ_eq_append_getElem hlt]
      unfold lfs
      rw [List.countP_append]
      congr 1
      by_cases h : s.data.toList[i] = 10
      · rw [if_pos h, h]; rfl
      · rw [if_neg h, List.countP_cons_of_neg (by simpa using h)]; rfl
    have hh := ih k (i + 1) (by omega) (by omega)
    by_cases h10 : s.data.toList[i] = 10
    · rw [if_pos (by rw [h10]; rfl), show wrap64 (1 + ((lfs (s.data.toList.take i) : Nat) : Int) + 1) = 1 + ((lfs (s.data.toList.take (i + 1)) : Nat) : Int) by rw [hst, if_pos h10, w64 (by omega) (by omega)]; omega]
      exact hh
    · rw [if_neg (by intro h2; exact h10 (UInt8.toNat_inj.1 (show _ = (10 : UInt8).toNat from by show _ = 10; omega)))]
      rw [hst, if_neg h10, Nat.add_zero] at hh
      exact hh
/-- The tokens put behind, with lines counted on. -/
theorem joins_toks (x8 x11 : List S28) (x13 x14 : Int) (h14 : 0 ≤ x14 ∧ x14 ≤ 100000) (h8 : x8.length ≤ 1000) (hy : ∀ y ∈ x8, 0 ≤ y.f3 ∧ y.f3 ≤ 100000) (d : Nat) : ∀ (k i : Nat) (x5 : List S28), i ≤ x8.length → x8.length - i = d → x5.length ≤ 1000 + i →
    gatewardenlaw10_LexJoins.l1 (k + d + 1) x5 x8 x11 x13 x14 (i : Int) = gatewardenlaw10_LexJoins.l1 (k + 1) (x5 ++ (x8.drop i).map (addL x14)) x8 x11 x13 x14 (x8.length : Int) := by
  induction d with
  | zero =>
    intro k i x5 h hd h5
    obtain rfl : i = x8.length := by omega
    rw [List.drop_length, List.map_nil, List.append_nil]
  | succ d ih =>
    intro k i x5 h hd h5
    have hlt : i < x8.length := by omega
    have hyi := hy _ (List.getElem_mem hlt)
    have hh := ih k (i + 1) (x5 ++ [addL x14 x8[i]]) (by omega) (by omega) (by rw [List.length_append, List.length_singleton]; omega)
    rw [show k + (d + 1) + 1 = (k + d + 1) + 1 by omega, gatewardenlaw10_LexJoins.l1, if_pos (by omega), if_pos (by omega), Option.bind_some, if_pos (by rw [List.length_nil]; omega), Option.bind_some, List.nil_append, Option.bind_some, if_pos (by rw [List.length_singleton]; omega), rdT x8 i hlt, show wrap64 ((i : Int) + 1) = ((i + 1 : Nat) : Int) by rw [w64 (by omega) (by omega)]; omega, w64 (n := x8[i].f3 + x14) (by omega) (by omega)]
    refine hh.trans ?_
    rw [List.drop_eq_getElem_cons hlt, List.map_cons, List.append_assoc, List.singleton_append]
theorem LexJoins : gatewardenlaw10_LexJoins.Pure := by
  intro a0 a1 h0 h1
  refine ⟨5001, ?_⟩
  unfold gatewardenlaw10_LexJoins.f
  by_cases c0 : (a0.size : Int) > 1000
  · rw [if_pos c0, gatewardenlaw10_LexJoins.j0, if_pos rfl, awake_eq]; rfl
  rw [if_neg c0]
  by_cases c1 : (a1.size : Int) > 1000
  · rw [decide_eq_true c1, gatewardenlaw10_LexJoins.j0, if_pos rfl, awake_eq]; rfl
  have z0 := size_list a0
  have z1 := size_list a1
  have hcat : ((a0 ++ (⟨#[10]⟩ : ByteArray)) ++ a1).data.toList = a0.data.toList ++ 10 :: a1.data.toList := by rw [app_list, app_list, List.append_assoc]; rfl
  have hcz : ((a0 ++ (⟨#[10]⟩ : ByteArray)) ++ a1).size = a0.size + (a1.size + 1) := by rw [size_list, hcat, List.length_append, List.length_cons]; omega
  have hcz1 : (a0 ++ (⟨#[10]⟩ : ByteArray)).size = a0.size + 1 := by rw [size_list, app_list, List.length_append, ← z0]; rfl
  have e0 : lex_Split.f a0 = some (outF (lexF a0.data.toList 1)) := by unfold lex_Split.f splitF; rw [if_neg (by omega)]
  have e1 : lex_Split.f a1 = some (outF (lexF a1.data.toList 1)) := by unfold lex_Split.f splitF; rw [if_neg (by omega)]
  have e2 : lex_Split.f ((a0 ++ (⟨#[10]⟩ : ByteArray)) ++ a1) = some (outF (lexF (a0.data.toList ++ 10 :: a1.data.toList) 1)) := by unfold lex_Split.f splitF; rw [if_neg (by omega), hcat]
  have hlf : lfs a0.data.toList ≤ 1000 := Nat.le_trans List.countP_le_length (by omega)
  have hj := lexF_join a1.data.toList _ a0.data.toList 1 (Nat.le_refl _)
  have hA := lexF_add (((lfs a0.data.toList : Nat) : Int) + 1) _ a1.data.toList 1 (Nat.le_refl _)
  have hL := lexF_lines _ a1.data.toList 1 (Nat.le_refl _)
  rw [show (1 : Int) + ((lfs a0.data.toList : Nat) : Int) + 1 = 1 + (((lfs a0.data.toList : Nat) : Int) + 1) by omega, hA] at hj
  rw [decide_eq_false c1, gatewardenlaw10_LexJoins.j0, if_neg (by decide), e0, Option.bind_some, e1, Option.bind_some, if_pos (by omega), if_pos (by omega), e2, Option.bind_some]
  have hl := joins_lines a0 (by omega) (outF (lexF a0.data.toList 1)).1 (outF (lexF a1.data.toList 1)).1 (outF (lexF (a0.data.toList ++ 10 :: a1.data.toList) 1)).1 (outF (lexF a0.data.toList 1)).2.1 (outF (lexF a0.data.toList 1)).2.2 (outF (lexF a1.data.toList 1)).2.1 (outF (lexF a1.data.toList 1)).2.2 (outF (lexF (a0.data.toList ++ 10 :: a1.data.toList) 1)).2.1 (outF (lexF (a0.data.toList ++ 10 :: a1.data.toList) 1)).2.2 a0.size (4999 - a0.size) 0 (Nat.zero_le _) (by omega)
  rw [show 4999 - a0.size + a0.size + 1 = 5000 by omega, show (1 : Int) + ((lfs (a0.data.toList.take 0) : Nat) : Int) = 1 by simp [lfs]] at hl
  refine hl.trans ?_
  rw [gatewardenlaw10_LexJoins.l0, if_neg (by omega), hj]
  cases hx : lexF a0.data.toList 1 with
  | error i =>
    dsimp only [outF]
    refine (if_neg (show ¬ (6 : Int) = 0 by decide)).trans ?_
    rw [awake_eq, Option.bind_some]
    simp
  | ok r =>
    cases hy : lexF a1.data.toList 1 with
    | error i =>
      have hb := hL.2 i hy
      dsimp only [outF, addE, Except.map]
      refine (if_pos rfl).trans ((if_neg (show ¬ (6 : Int) = 0 by decide)).trans ?_)
      rw [awake_eq, Option.bind_some]
      have hw := w64 (n := i + (1 + ((lfs a0.data.toList : Nat) : Int))) (by omega) (by omega)
      simp [hw]
      omega
    | ok q =>
      have ht0 := lexF_toks _ _ _ r (Nat.le_refl _) hx
      have ht1 := lexF_toks _ _ _ q (Nat.le_refl _) hy
      have hb := hL.1 q hy
      dsimp only [outF, addE, Except.map]
      refine (if_pos rfl).trans ((if_pos rfl).trans ?_)
      have hk := joins_toks q (r ++ q.map (addL (((lfs a0.data.toList : Nat) : Int) + 1))) 0 (1 + ((lfs a0.data.toList : Nat) : Int)) (by omega) (by omega) (fun y hy => by have := hb y hy; omega) q.length (4998 - a0.size - q.length) 0 r (Nat.zero_le _) (by omega) (by omega)
      rw [show 4998 - a0.size - q.length + q.length + 1 = 4999 - a0.size by omega] at hk
      refine hk.trans ?_
      rw [gatewardenlaw10_LexJoins.l1, if_neg (by omega), awake_eq, Option.bind_some, if_pos rfl, if_pos rfl, List.drop_zero, show (1 : Int) + ((lfs a0.data.toList : Nat) : Int) = ((lfs a0.data.toList : Nat) : Int) + 1 by omega, rsame_eq _ _ (by rw [List.length_append, List.length_map]; omega) _ (by rw [List.length_append, List.length_map]; omega), Option.bind_some, sameT_refl]
end Go.Proofs.YtjllahglfpbemaaDoor.Pure
