/- Plain laws of tokens: sameness, lines. -/
import Derived.Test.YtjllahglfpbemaaDoorLexAwake
import Derived.Test.YtjllahglfpbemaaDoorLexRefc
namespace Go.Proofs.YtjllahglfpbemaaDoor.PGuardTells
open Go Go.RowKit Go.Proofs.YtjllahglfpbemaaDoorW.PrintWords Go.Proofs.YtjllahglfpbemaaDoorW.PrintLast Go.Proofs.YtjllahglfpbemaaDoorW.PrintMore
set_option maxRecDepth 100000
set_option linter.unusedVariables false
set_option linter.unusedSimpArgs false
def eqT (a b : S28) : Bool := a.f0 == b.f0 && (a.f1.toList == b.f1.toList && (a.f2 == b.f2 && (a.f3 == b.f3)))
def eqL : List S28 → List S28 → Bool
  | a :: l, b :: m => eqT a b && eqL l m
  | _, _ => true
theorem eqT_refl (a : S28) : eqT a a = true := by simp [eqT]
theorem eqL_refl : ∀ (l : List S28), eqL l l = true
  | [] => rfl
  | a :: l => by rw [eqL, eqT_refl, eqL_refl l]; rfl
theorem neT (a b : S28) : (!(a.f0 == b.f0) || (!(a.f1.toList == b.f1.toList) || (!(a.f2 == b.f2) || (!(a.f3 == b.f3))))) = !(eqT a b) := by
  unfold eqT
  cases (a.f0 == b.f0) <;> cases (a.f1.toList == b.f1.toList) <;> cases (a.f2 == b.f2) <;> cases (a.f3 == b.f3) <;> rfl
theorem rdT (l : List S28) (i : Nat) (h : i < l.length) : rd_T28 l (i : Int) = l[i] := by
  unfold rd_T28
  rw [Int.toNat_natCast, List.getD_eq_getElem?_getD, List.getElem?_eq_getElem h]
  rfl
theorem rsame_loop (l m : List S28) (hl : l.length = m.length) (hs : l.length ≤ 100000) (d : Nat) : ∀ (k i : Nat), i ≤ l.length → l.length - i = d → d < k → gatewardenref10_Same.l0 k l m (i : Int) = some (eqL (l.drop i) (m.drop i)) := by
  induction d with
  | zero =>
    intro k i h hd hk
    obtain ⟨k, rfl⟩ : ∃ m, k = m + 1 := ⟨k - 1, by omega⟩
    obtain rfl : i = l.length := by omega
    simp only [gatewardenref10_Same.l0]
    rw [if_neg (by omega), List.drop_length]
    rfl
  | succ d ih =>
    intro k i h hd hk
    obtain ⟨k, rfl⟩ : ∃ m, k = m + 1 := ⟨k - 1, by omega⟩
    have hlt : i < l.length := by omega
    simp only [gatewardenref10_Same.l0]
    rw [if_pos (by omega), if_pos (by omega), if_pos (by omega), rdT l i hlt, rdT m i (by omega), neT, show wrap64 ((i : Int) + 1) = ((i + 1 : Nat) : Int) by rw [w64 (by omega) (by omega)]; omega, ih k (i + 1) (by omega) (by omega) (by omega), List.drop_eq_getElem_cons hlt, List.drop_eq_getElem_cons (show i < m.length by omega), eqL]
    cases eqT l[i] (m[i]'(by omega)) <;> rfl
theorem lsame_loop (l m : List S28) (hl : l.length = m.length) (hs : l.length ≤ 100000) (d : Nat) : ∀ (k i : Nat), i ≤ l.length → l.length - i = d → d < k → api_Token.l0 k l m (l.length : Int) (i : Int) = some (eqL (l.drop i) (m.drop i)) := by
  induction d with
  | zero =>
    intro k i h hd hk
    obtain ⟨k, rfl⟩ : ∃ m, k = m + 1 := ⟨k - 1, by omega⟩
    obtain rfl : i = l.length := by omega
    simp only [api_Token.l0]
    rw [if_neg (by omega), List.drop_length]
    rfl
  | succ d ih =>
    intro k i h hd hk
    obtain ⟨k, rfl⟩ : ∃ m, k = m + 1 := ⟨k - 1, by omega⟩
    have hlt : i < l.length := by omega
    simp only [api_Token.l0]
    rw [if_pos (by omega), if_pos (by omega), if_pos (by omega), if_pos (by omega), rdT l i hlt, rdT m i (by omega), neT, show wrap64 ((i : Int) + 1) = ((i + 1 : Nat) : Int) by rw [w64 (by omega) (by omega)]; omega, ih k (i + 1) (by omega) (by omega) (by omega), List.drop_eq_getElem_cons hlt, List.drop_eq_getElem_cons (show i < m.length by omega), eqL]
    cases eqT l[i] (m[i]'(by omega)) <;> rfl
def sameT (l m : List S28) : Bool := decide (l.length = m.length) && eqL l m
theorem rsame_eq (l m : List S28) (hs : l.length ≤ 100000) (k : Nat) (hk : l.length < k) : gatewardenref10_Same.f k l m = some (sameT l m) := by
  unfold gatewardenref10_Same.f sameT
  by_cases h : l.length = m.length
  · rw [if_pos (by omega), decide_eq_true h, Bool.true_and]
    exact rsame_loop l m h hs l.length k 0 (Nat.zero_le _) (by omega) hk
  · rw [if_neg (by omega), decide_eq_false h]; rfl
theorem lsame_eq (l m : List S28) (hs : l.length ≤ 100000) (k : Nat) (hk : l.length < k) : lex_Same.f k l m = some (sameT l m) := by
  unfold lex_Same.f api_Token.f sameT
  by_cases h : l.length = m.length
  · rw [if_pos (by omega), decide_eq_true h, Bool.true_and]
    have := lsame_loop l m h hs l.length k 0 (Nat.zero_le _) (by omega) hk
    rw [Int.ofNat_zero] at this
    rw [this]
    rfl
  · rw [if_neg (by omega), decide_eq_false h]; rfl
theorem sameT_refl (l : List S28) : sameT l l = true := by unfold sameT; rw [eqL_refl]; simp
theorem awake_eq : gatewardenlaw10_awake.f = some true := by
  have e1 : lex_Split.f ⟨#[97, 108, 108, 111, 119, 32, 102, 117, 110, 99, 32, 51, 59, 32, 35, 32, 114, 101, 97, 100, 105, 110, 103]⟩ = some ([⟨1, strOf [97, 108, 108, 111, 119], 0, 1⟩, ⟨1, strOf [102, 117, 110, 99], 0, 1⟩, ⟨2, strOf [51], 3, 1⟩, ⟨3, strOf [59], 0, 1⟩], 0, 0) := by kernel_rfl
  have e2 : lex_Split.f ⟨#[97, 108, 108, 111, 119, 10, 102, 117, 110, 99, 32, 48, 51, 59]⟩ = some ([], 2, 6) := by kernel_rfl
  unfold gatewardenlaw10_awake.f
  rw [e1, e2]
  simp [rd_T28, strOf_toList]
/-- Where tokens, and what is none, stand. -/
theorem lexF_lines : ∀ (n : Nat) (l : List UInt8) (line : Int), l.length ≤ n → (∀ r, lexF l line = .ok r → ∀ y ∈ r, line ≤ y.f3 ∧ y.f3 ≤ line + l.length) ∧ (∀ i, lexF l line = .error i → line ≤ i ∧ i ≤ line + l.length) := by
  intro n
  induction n with
  | zero =>
    intro l line h
    obtain rfl : l = [] := List.length_eq_zero_iff.1 (by omega)
    rw [lexF_nil]
    exact ⟨fun r hr y hy => (by cases hr; cases hy), fun i hi => (by cases hi)⟩
  | succ n ih =>
    intro l line h
    cases l with
    | nil => rw [lexF_nil]; exact ⟨fun r hr y hy => (by cases hr; cases hy), fun i hi => (by cases hi)⟩
    | cons c t =>
      cases hs : stepC c t with
      | none =>
        rw [lexF_none hs]
        refine ⟨fun r hr => (by cases hr), fun i hi => ?_⟩
        cases hi
        omega
      | some x =>
        have hp := step_pos hs
        have hd : 0 ≤ x.2.2 ∧ x.2.2 ≤ x.2.1 := by
          rcases step_dl hs with ⟨_, rfl⟩ | ⟨_, h2⟩
          · decide
          · omega
        have hlen : (List.drop x.2.1 (c :: t)).length = t.length + 1 - x.2.1 := by rw [List.length_drop, List.length_cons]
        obtain ⟨h1, h2⟩ := ih (List.drop x.2.1 (c :: t)) (line + x.2.2) (by simp at h; omega)
        rw [lexF_some hs]
        cases hq : lexF (List.drop x.2.1 (c :: t)) (line + x.2.2) with
        | error i =>
          refine ⟨fun r hr => (by cases hr), fun j hj => ?_⟩
          cases hj
          have := h2 i hq
          rw [List.length_cons]
          omega
        | ok q =>
          refine ⟨fun r hr y hy => ?_, fun j hj => (by cases hj)⟩
          cases hr
          rw [List.length_cons]
          rcases List.mem_append.1 hy with hy | hy
          · obtain ⟨o, k, d⟩ := x
            cases o with
            | none => cases hy
            | some q =>
              simp only [tokOf, List.mem_singleton] at hy
              subst hy
              constructor <;> dsimp only <;> omega
          · have := h1 q hq y hy
            omega
end Go.Proofs.YtjllahglfpbemaaDoor.PGuardTells
