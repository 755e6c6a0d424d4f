/- The plain law of lexing: what lex.Split and the document's Split both come to. -/
import Derived.Test.YtjllahglfpbemaaDoorGuardPure2
import Derived.Test.YtjllahglfpbemaaDoorLexKind
namespace Go.Proofs.YtjllahglfpbemaaDoor.PGuardTells
open Go Go.RowKit Go.Proofs.YtjllahglfpbemaaDoorW.PrintWords Go.Proofs.YtjllahglfpbemaaDoorW.PrintLast Go.Proofs.YtjllahglfpbemaaDoorW.PrintMore
set_option linter.unusedVariables false
set_option linter.unusedSimpArgs false
--BEGIN
abbrev abc : List UInt8 := [97, 98, 99, 100, 101, 102, 103, 104, 105, 106, 107, 108, 109, 110, 111, 112, 113, 114, 115, 116, 117, 118, 119, 120, 121, 122]
def letters (l : List UInt8) : Nat := (l.takeWhile (abc.contains ·)).length
def noLF (c : UInt8) : Bool := !(c == 10)
/-- What stands at a text's first byte: a token's kind and number, or none; how many bytes; how many lines more. -/
def stepC (c : UInt8) (t : List UInt8) : Option (Option (Int × Int) × Nat × Int) :=
  if c = 10 then some (none, 1, 1)
  else if c = 32 ∨ c = 9 ∨ c = 13 then some (none, 1, 0)
  else if c = 35 then some (none, 1 + (t.takeWhile noLF).length, 0)
  else if abc.contains c = true then some (some (1, 0), letters (c :: t), 0)
  else if ten.contains c = true then (readF ((c :: t).take (lead (c :: t)))).map fun v => (some (2, v), lead (c :: t), 0)
  else if c = 40 ∨ c = 41 ∨ c = 44 ∨ c = 59 then some (some (3, 0), 1, 0)
  else if c = 45 then some (some (4, 0), 1, 0)
  else none
def tokOf (l : List UInt8) (line : Int) : Option (Int × Int) × Nat × Int → List S28
  | (none, _) => []
  | (some (k, v), n, _) => [⟨k, strOf (l.take n), v, line⟩]
/-- The tokens of a text, or the line where there are none. -/
def run : Nat → List UInt8 → Int → Except Int (List S28)
  | _, [], _ => .ok []
  | 0, _ :: _, line => .error line
  | f + 1, c :: t, line => match stepC c t with
    | none => .error line
    | some x => (run f ((c :: t).drop x.2.1) (line + x.2.2)).map (tokOf (c :: t) line x ++ ·)
theorem letters_cons {c : UInt8} {t : List UInt8} (h : abc.contains c = true) : letters (c :: t) = letters t + 1 := by unfold letters; rw [List.takeWhile_cons, if_pos h]; rfl
theorem lead_cons {c : UInt8} {t : List UInt8} (h : ten.contains c = true) : lead (c :: t) = lead t + 1 := by unfold lead; rw [List.takeWhile_cons, if_pos h]; rfl
theorem letters_le (l : List UInt8) : letters l ≤ l.length := List.Sublist.length_le (List.takeWhile_sublist _)
theorem step_pos {c : UInt8} {t : List UInt8} {x : Option (Int × Int) × Nat × Int} (h : stepC c t = some x) : 1 ≤ x.2.1 ∧ x.2.1 ≤ t.length + 1 := by
  unfold stepC at h
  have h1 : (t.takeWhile noLF).length ≤ t.length := List.Sublist.length_le (List.takeWhile_sublist _)
  have h2 := letters_le t
  have h3 := lead_le t
  split at h
  · cases h; exact ⟨by decide, by simp⟩
  split at h
  · cases h; exact ⟨by decide, by simp⟩
  split at h
  · cases h; exact ⟨by simp, by simp; omega⟩
  split at h
  · rename_i hc; cases h; simp only [letters_cons hc]; omega
  split at h
  · rename_i hc
    obtain ⟨v, _, rfl⟩ := Option.map_eq_some_iff.1 h
    simp only [lead_cons hc]; omega
  split at h
  · cases h; exact ⟨by decide, by simp⟩
  split at h
  · cases h; exact ⟨by decide, by simp⟩
  · cases h
theorem exc_map_map {α β γ : Type} (x : Except Int α) (f : α → β) (g : β → γ) : (x.map f).map g = x.map (g ∘ f) := by cases x <;> rfl
theorem exc_map_id {α : Type} (x : Except Int α) (f : α → α) (h : ∀ a, f a = a) : x.map f = x := by cases x; rfl; exact congrArg Except.ok (h _)
/-- More rounds than bytes are needless. -/
theorem run_fuel : ∀ (f g : Nat) (l : List UInt8) (line : Int), l.length ≤ f → l.length ≤ g → run f l line = run g l line
  | _, _, [], _, _, _ => by simp [run]
  | 0, _, c :: t, _, h, _ => by simp at h
  | _, 0, c :: t, _, _, h => by simp at h
  | f + 1, g + 1, c :: t, line, hf, hg => by
    simp only [run]
    cases hs : stepC c t with
    | none => rfl
    | some x =>
      have hp := step_pos hs
      simp only [List.length_cons] at hf hg
      dsimp only
      rw [run_fuel f g _ _ (by rw [List.length_drop, List.length_cons]; omega) (by rw [List.length_drop, List.length_cons]; omega)]
def lexF (l : List UInt8) (line : Int) : Except Int (List S28) := run l.length l line
theorem lexF_nil (line : Int) : lexF [] line = .ok [] := by simp [lexF, run]
theorem lexF_cons (c : UInt8) (t : List UInt8) (line : Int) : lexF (c :: t) line = match stepC c t with
    | none => .error line
    | some x => (lexF ((c :: t).drop x.2.1) (line + x.2.2)).map (tokOf (c :: t) line x ++ ·) := by
  unfold lexF
  conv => lhs; rw [List.length_cons, run]
  cases hs : stepC c t with
  | none => rfl
  | some x =>
    have hp := step_pos hs
    dsimp only
    rw [run_fuel t.length ((c :: t).drop x.2.1).length _ _ (by rw [List.length_drop, List.length_cons]; omega) (Nat.le_refl _)]
theorem lexF_none {c : UInt8} {t : List UInt8} {line : Int} (h : stepC c t = none) : lexF (c :: t) line = .error line := by rw [lexF_cons, h]
theorem lexF_some {c : UInt8} {t : List UInt8} {line : Int} {x : Option (Int × Int) × Nat × Int} (h : stepC c t = some x) : lexF (c :: t) line = (lexF ((c :: t).drop x.2.1) (line + x.2.2)).map (tokOf (c :: t) line x ++ ·) := by rw [lexF_cons, h]
/-- What Split comes to. -/
def outF : Except Int (List S28) → List S28 × Int × Int
  | .ok r => (r, 0, 0)
  | .error i => ([], i, 6)
def splitF (s : ByteArray) : List S28 × Int × Int := if (s.size : Int) > 4096 then ([], 0, 9) else outF (lexF s.data.toList 1)
/-- A text's lines counted from another one on. -/
def addL (d : Int) (x : S28) : S28 := ⟨x.f0, x.f1, x.f2, x.f3 + d⟩
def addE (d : Int) : Except Int (List S28) → Except Int (List S28)
  | .ok r => .ok (r.map (addL d))
  | .error i => .error (i + d)
theorem tokOf_add (l : List UInt8) (line d : Int) (x : Option (Int × Int) × Nat × Int) : tokOf l (line + d) x = (tokOf l line x).map (addL d) := by
  obtain ⟨o, n, dl⟩ := x
  cases o with
  | none => rfl
  | some q => rfl
theorem lexF_add (d : Int) : ∀ (n : Nat) (l : List UInt8) (line : Int), l.length ≤ n → lexF l (line + d) = addE d (lexF l line) := by
  intro n
  induction n with
  | zero => intro l line h; obtain rfl : l = [] := List.length_eq_zero_iff.1 (by omega); rw [lexF_nil, lexF_nil]; rfl
  | succ n ih =>
    intro l line h
    cases l with
    | nil => rw [lexF_nil, lexF_nil]; rfl
    | cons c t =>
      cases hs : stepC c t with
      | none => rw [lexF_none hs, lexF_none hs]; rfl
      | some x =>
        have hp := step_pos hs
        rw [lexF_some hs, lexF_some hs, show line + d + x.2.2 = line + x.2.2 + d by omega, ih _ _ (by rw [List.length_drop]; omega), tokOf_add]
        cases lexF (List.drop x.2.1 (c :: t)) (line + x.2.2) with
        | error i => rfl
        | ok r => simp [addE, Except.map]
/-- How many line feeds. -/
def lfs (l : List UInt8) : Nat := l.countP (· == 10)
theorem tw_app {p : UInt8 → Bool} (hp : p 10 = false) (t m : List UInt8) : (t ++ 10 :: m).takeWhile p = t.takeWhile p := by
  induction t with
  | nil => simp [List.takeWhile_cons, hp]
  | cons c t ih => rw [List.cons_append, List.takeWhile_cons, List.takeWhile_cons, ih]
theorem letters_app (t m : List UInt8) : letters (t ++ 10 :: m) = letters t := by unfold letters; rw [tw_app rfl]
theorem lead_app (t m : List UInt8) : lead (t ++ 10 :: m) = lead t := by unfold lead; rw [tw_app rfl]
theorem step_app (c : UInt8) (t m : List UInt8) : stepC c (t ++ 10 :: m) = stepC c t := by
  unfold stepC
  rw [tw_app rfl, ← List.cons_append, letters_app, lead_app, List.take_append_of_le_length (lead_le _)]
theorem lfs_tw (l : List UInt8) : lfs (l.takeWhile noLF) = 0 := by
  unfold lfs
  rw [List.countP_eq_zero]
  intro c hc
  have := tw_mem (p := noLF) l c hc
  unfold noLF at this
  simpa using this
theorem lfs_mem {l : List UInt8} (h : ∀ c ∈ l, c ≠ 10) : lfs l = 0 := by
  unfold lfs
  rw [List.countP_eq_zero]
  intro c hc
  have := h c hc
  simpa using this
theorem take_tw {p : UInt8 → Bool} (l : List UInt8) : l.take (l.takeWhile p).length = l.takeWhile p := by
  have h := List.takeWhile_append_dropWhile (p := p) (l := l)
  conv => lhs; arg 2; rw [← h]
  rw [List.take_left]
/-- The lines that a step counts are the line feeds that it reads. -/
theorem step_lfs {c : UInt8} {t : List UInt8} {x : Option (Int × Int) × Nat × Int} (h : stepC c t = some x) : x.2.2 = (lfs ((c :: t).take x.2.1) : Int) := by
  unfold stepC at h
  split at h
  · rename_i hc; cases h; subst hc; rfl
  rename_i h10
  have hone : (lfs ((c :: t).take 1) : Int) = 0 := by
    have : lfs ((c :: t).take 1) = 0 := lfs_mem (by simp; exact h10)
    omega
  split at h
  · cases h; exact hone.symm
  split at h
  · cases h
    show (0 : Int) = _
    rw [show 1 + (t.takeWhile noLF).length = (t.takeWhile noLF).length + 1 by omega, List.take_succ_cons, take_tw]
    have : lfs (c :: t.takeWhile noLF) = 0 := by
      have h1 := lfs_tw t
      unfold lfs at h1 ⊢
      rw [List.countP_cons_of_neg (by simpa using h10)]
      exact h1
    omega
  split at h
  · cases h
    have : lfs ((c :: t).take (letters (c :: t))) = 0 := by
      unfold letters
      rw [take_tw]
      exact lfs_mem fun y hy he => by have := tw_mem (p := (abc.contains ·)) _ y hy; rw [he] at this; exact absurd this (by decide)
    show (0 : Int) = ((lfs ((c :: t).take (letters (c :: t))) : Nat) : Int)
    omega
  split at h
  · obtain ⟨v, _, rfl⟩ := Option.map_eq_some_iff.1 h
    have : lfs ((c :: t).take (lead (c :: t))) = 0 := by
      unfold lead
      rw [take_tw]
      exact lfs_mem fun y hy he => by have := tw_mem (p := (ten.contains ·)) _ y hy; rw [he] at this; exact absurd this (by decide)
    show (0 : Int) = ((lfs ((c :: t).take (lead (c :: t))) : Nat) : Int)
    omega
  split at h
  · cases h; exact hone.symm
  split at h
  · cases h; exact hone.symm
  · cases h
theorem lfs_split (l : List UInt8) (n : Nat) : lfs (l.take n) + lfs (l.drop n) = lfs l := by
  unfold lfs
  rw [← List.countP_append, List.take_append_drop]
/-- A text, a line feed, and another text. -/
theorem lexF_join (m : List UInt8) : ∀ (n : Nat) (l : List UInt8) (line : Int), l.length ≤ n → lexF (l ++ 10 :: m) line = match lexF l line with
    | .error i => .error i
    | .ok r => (lexF m (line + ((lfs l : Nat) : Int) + 1)).map (r ++ ·) := by
  intro n
  induction n with
  | zero =>
    intro l line h
    obtain rfl : l = [] := List.length_eq_zero_iff.1 (by omega)
    rw [lexF_nil, List.nil_append, lexF_some (c := 10) (t := m) (x := (none, 1, 1)) rfl]
    have : ((lfs [] : Nat) : Int) = 0 := rfl
    simp only [List.drop_succ_cons, List.drop_zero, this, Int.add_zero]
    cases lexF m (line + 1) <;> rfl
  | succ n ih =>
    intro l line h
    cases l with
    | nil =>
      rw [lexF_nil, List.nil_append, lexF_some (c := 10) (t := m) (x := (none, 1, 1)) rfl]
      have : ((lfs [] : Nat) : Int) = 0 := rfl
      simp only [List.drop_succ_cons, List.drop_zero, this, Int.add_zero]
      cases lexF m (line + 1) <;> rfl
    | cons c t =>
      cases hs : stepC c t with
      | none => rw [List.cons_append, lexF_none (hs ▸ step_app c t m), lexF_none hs]
      | some x =>
        have hp := step_pos hs
        have hl := step_lfs hs
        have h2 := lfs_split (c :: t) x.2.1
        rw [List.cons_append, lexF_some ((step_app c t m).trans hs), lexF_some hs, ← List.cons_append, List.drop_append_of_le_length (by simp; omega), ih _ _ (by rw [List.length_drop]; simp at h ⊢; omega)]
        have ht : tokOf (c :: t ++ 10 :: m) line x = tokOf (c :: t) line x := by
          obtain ⟨o, k, dl⟩ := x
          cases o with
          | none => rfl
          | some q => simp only [tokOf]; rw [List.take_append_of_le_length (by simp; simp at hp; omega)]
        rw [ht]
        cases hr : lexF (List.drop x.2.1 (c :: t)) (line + x.2.2) with
        | error i => rfl
        | ok r =>
          dsimp only [Except.map]
          rw [show line + x.2.2 + ((lfs (List.drop x.2.1 (c :: t)) : Nat) : Int) + 1 = line + ((lfs (c :: t) : Nat) : Int) + 1 by omega]
          cases lexF m (line + ((lfs (c :: t) : Nat) : Int) + 1) with
          | error i => rfl
          | ok q => simp [List.append_assoc]
/-- A token that is read again whatever blank stands behind it. -/
def tokOK (x : S28) : Prop := ∃ c u, x.f1 = strOf (c :: u) ∧ ∀ rest, stepC c (u ++ 32 :: rest) = some (some (x.f0, x.f2), u.length + 1, 0)
theorem tw32 {p : UInt8 → Bool} (hp : p 32 = false) (t m : List UInt8) (h : ∀ c ∈ t, p c = true) : (t ++ 32 :: m).takeWhile p = t := by
  induction t with
  | nil => simp [List.takeWhile_cons, hp]
  | cons c t ih => rw [List.cons_append, List.takeWhile_cons, if_pos (h c List.mem_cons_self), ih (fun d hd => h d (List.mem_cons_of_mem _ hd))]
theorem tw_all_mem {p : UInt8 → Bool} {c : UInt8} {t : List UInt8} (h : p c = true) : (c :: t).takeWhile p = c :: t.takeWhile p := by rw [List.takeWhile_cons, if_pos h]
theorem tok_ok {c : UInt8} {t : List UInt8} {x : Option (Int × Int) × Nat × Int} (h : stepC c t = some x) (line : Int) : ∀ y ∈ tokOf (c :: t) line x, tokOK y := by
  unfold stepC at h
  split at h
  · cases h; intro y hy; cases hy
  rename_i h10
  split at h
  · cases h; intro y hy; cases hy
  rename_i hb
  split at h
  · cases h; intro y hy; cases hy
  rename_i h35
  split at h
  · rename_i hc
    cases h
    intro y hy
    simp only [tokOf, List.mem_singleton] at hy
    subst hy
    refine ⟨c, t.takeWhile (abc.contains ·), ?_, fun rest => ?_⟩
    · unfold letters; rw [take_tw, tw_all_mem hc]
    · unfold stepC
      rw [if_neg h10, if_neg hb, if_neg h35, if_pos hc, letters_cons hc]
      unfold letters
      rw [tw32 rfl _ _ (fun d hd => tw_mem _ _ hd)]
  rename_i habc
  split at h
  · rename_i hc
    obtain ⟨v, hv, rfl⟩ := Option.map_eq_some_iff.1 h
    intro y hy
    simp only [tokOf, List.mem_singleton] at hy
    subst hy
    unfold lead at hv
    rw [take_tw, tw_all_mem hc] at hv
    refine ⟨c, t.takeWhile (ten.contains ·), ?_, fun rest => ?_⟩
    · unfold lead; rw [take_tw, tw_all_mem hc]
    · unfold stepC
      have h2 : (c :: (t.takeWhile (ten.contains ·) ++ 32 :: rest)).takeWhile (ten.contains ·) = c :: t.takeWhile (ten.contains ·) := by
        rw [tw_all_mem hc, tw32 rfl _ _ (fun d hd => tw_mem _ _ hd)]
      have h3 : lead (c :: (t.takeWhile (ten.contains ·) ++ 32 :: rest)) = (t.takeWhile (ten.contains ·)).length + 1 := by unfold lead; rw [h2]; rfl
      rw [if_neg h10, if_neg hb, if_neg h35, if_neg habc, if_pos hc]
      rw [show (c :: (t.takeWhile (ten.contains ·) ++ 32 :: rest)).take (lead (c :: (t.takeWhile (ten.contains ·) ++ 32 :: rest))) = c :: t.takeWhile (ten.contains ·) from by
        conv => lhs; unfold lead
        rw [take_tw, h2], hv, h3]
      rfl
  rename_i hten
  split at h
  · rename_i hc
    cases h
    intro y hy
    simp only [tokOf, List.mem_singleton] at hy
    subst hy
    refine ⟨c, [], rfl, fun rest => ?_⟩
    unfold stepC
    rw [if_neg h10, if_neg hb, if_neg h35, if_neg habc, if_neg hten, if_pos hc]
    rfl
  rename_i hm
  split at h
  · rename_i hc
    cases h
    intro y hy
    simp only [tokOf, List.mem_singleton] at hy
    subst hy
    refine ⟨c, [], rfl, fun rest => ?_⟩
    unfold stepC
    rw [if_neg h10, if_neg hb, if_neg h35, if_neg habc, if_neg hten, if_neg hm, if_pos hc]
    rfl
  · cases h
theorem lexF_toks : ∀ (n : Nat) (l : List UInt8) (line : Int) (r : List S28), l.length ≤ n → lexF l line = .ok r → (∀ y ∈ r, tokOK y) ∧ (r.map fun y => y.f1.size).sum ≤ l.length ∧ r.length ≤ l.length := by
  intro n
  induction n with
  | zero =>
    intro l line r h hr
    obtain rfl : l = [] := List.length_eq_zero_iff.1 (by omega)
    rw [lexF_nil] at hr
    cases hr
    exact ⟨(fun y hy => by cases hy), by simp, by simp⟩
  | succ n ih =>
    intro l line r h hr
    cases l with
    | nil =>
      rw [lexF_nil] at hr
      cases hr
      exact ⟨(fun y hy => by cases hy), by simp, by simp⟩
    | cons c t =>
      cases hs : stepC c t with
      | none => rw [lexF_none hs] at hr; cases hr
      | some x =>
        have hp := step_pos hs
        have hk := tok_ok hs line
        rw [lexF_some hs] at hr
        cases hq : lexF (List.drop x.2.1 (c :: t)) (line + x.2.2) with
        | error i => rw [hq] at hr; cases hr
        | ok q =>
          rw [hq] at hr
          cases hr
          obtain ⟨h1, h2, h3⟩ := ih _ _ q (by rw [List.length_drop]; simp at h ⊢; omega) hq
          have hd : (List.drop x.2.1 (c :: t)).length = t.length + 1 - x.2.1 := by rw [List.length_drop, List.length_cons]
          have hsz : ((tokOf (c :: t) line x).map fun y => y.f1.size).sum ≤ x.2.1 ∧ (tokOf (c :: t) line x).length ≤ 1 := by
            obtain ⟨o, k, dl⟩ := x
            cases o with
            | none => simp [tokOf]
            | some q =>
              simp only [tokOf, List.map_cons, List.map_nil, List.sum_cons, List.sum_nil, List.length_cons, List.length_nil]
              rw [size_list, strOf_list, List.length_take]
              omega
          refine ⟨fun y hy => ?_, ?_, ?_⟩
          · rcases List.mem_append.1 hy with hy | hy
            · exact hk y hy
            · exact h1 y hy
          · rw [List.map_append, List.sum_append, List.length_cons]; omega
          · rw [List.length_append, List.length_cons]; omega
/-- The tokens' texts, with blanks between. -/
def textF : List S28 → List UInt8
  | [] => []
  | x :: r => x.f1.data.toList ++ 32 :: textF r
theorem textF_app : ∀ (a b : List S28), textF (a ++ b) = textF a ++ textF b
  | [], b => rfl
  | x :: a, b => by rw [List.cons_append, textF, textF, textF_app a b, List.append_assoc, List.cons_append]
theorem textF_len : ∀ (r : List S28), (textF r).length = (r.map fun y => y.f1.size).sum + r.length
  | [] => rfl
  | x :: r => by rw [textF, List.length_append, List.length_cons, textF_len r, List.map_cons, List.sum_cons, List.length_cons, size_list]; omega
def inOne (x : S28) : S28 := ⟨x.f0, x.f1, x.f2, 1⟩
theorem lexF_text : ∀ (r : List S28), (∀ y ∈ r, tokOK y) → lexF (textF r) 1 = .ok (r.map inOne)
  | [], _ => lexF_nil 1
  | x :: r, h => by
    obtain ⟨c, u, hx, hs⟩ := h x List.mem_cons_self
    have ih := lexF_text r (fun y hy => h y (List.mem_cons_of_mem _ hy))
    have e : textF (x :: r) = c :: (u ++ 32 :: textF r) := by rw [textF, hx, strOf_list]; rfl
    have e2 : (c :: (u ++ 32 :: textF r)).drop (u.length + 1) = 32 :: textF r := by rw [List.drop_succ_cons, List.drop_left]
    rw [e, lexF_some (hs _)]
    dsimp only
    rw [e2, lexF_some (c := 32) (t := textF r) (x := (none, 1, 0)) rfl]
    dsimp only [List.drop_succ_cons, List.drop_zero]
    rw [show (1 : Int) + 0 + 0 = 1 by omega, show List.drop 1 (32 :: textF r) = textF r from rfl, ih]
    have e3 : (c :: (u ++ 32 :: textF r)).take (u.length + 1) = c :: u := by rw [List.take_succ_cons, List.take_left]
    simp only [Except.map, tokOf, e3, List.nil_append, List.singleton_append, List.map_cons, inOne, hx]
--END
end Go.Proofs.YtjllahglfpbemaaDoor.PGuardTells
