/- Texts of this claim, put together (wip/pack.py): FactPure. -/
import Derived.Test.YtcoaehhoiaijoaaK0
import Derived.Test.YtcoaehhoiaijoaaK16
import Derived.Test.YtcoaehhoiaijoaaK17
namespace Go.Proofs.Ytcoaehhoiaijoaa.Fact
open Go.RowKit Go.Proofs.Ytcoaehhoiaijoaa.PFactsTells Go.Proofs.YtcoaehhoiaijoaaW.PrintWords Go.Proofs.YtcoaehhoiaijoaaW.PrintLast Go.Proofs.Ytcoaehhoiaijoaa.Base
set_option linter.unusedVariables false
/-- Which function has which numbers: how many it reads and writes at most, how many values, how great, and whether it is known. -/
def ofP (a : Int) : Int × Int × Int × Int × Bool :=
  if a = 1 ∨ a = 2 then (2000, 0, 0, 0, true) else if a = 3 ∨ a = 4 then (125, 0, 0, 0, true) else if a = 5 then (0, 1, 0, 1, true) else if a = 6 then (0, 1, 0, 65535, true)
  else if a = 15 then (0, 1968, 0, 1, true) else if a = 16 then (0, 123, 0, 65535, true) else if a = 22 then (0, 1, 2, 65535, true) else if a = 23 then (125, 121, 0, 65535, true) else (0, 0, 0, 0, false)
def partP (a b m : Int) : Bool := if m = 0 then (a == 0 && b == 0) else (decide (0 ≤ a) && decide (a ≤ 65535) && decide (1 ≤ b) && decide (b ≤ m))
def formedP (a0 a1 a2 a3 a4 : Int) (l : List Int) : Bool :=
  (ofP a0).2.2.2.2 && (partP a1 a2 (ofP a0).1 && (partP a3 a4 (ofP a0).2.1 && (decide ((l.length : Int) = (if (ofP a0).2.2.1 = 0 then a4 else (ofP a0).2.2.1)) && !l.any fun v => decide (v < 0) || decide ((ofP a0).2.2.2.1 < v))))
def rightP (a0 a1 a2 a3 a4 : Int) (l : List Int) : Bool := formedP a0 a1 a2 a3 a4 l && (decide (wrap64 (a1 + a2) ≤ 65536) && decide (wrap64 (a3 + a4) ≤ 65536))
def Rg (m : Int) (l : List Int) : Prop := ∀ v ∈ l, 0 ≤ v ∧ v ≤ m
/-- The right requests, one line for each kind. -/
def Rt (a0 a1 a2 a3 a4 : Int) (l : List Int) : Prop :=
  ((a0 = 1 ∨ a0 = 2) ∧ (0 ≤ a1 ∧ a1 ≤ 65535 ∧ 1 ≤ a2 ∧ a2 ≤ 2000) ∧ (a3 = 0 ∧ a4 = 0) ∧ (l.length : Int) = a4 ∧ Rg 0 l) ∨
  ((a0 = 3 ∨ a0 = 4) ∧ (0 ≤ a1 ∧ a1 ≤ 65535 ∧ 1 ≤ a2 ∧ a2 ≤ 125) ∧ (a3 = 0 ∧ a4 = 0) ∧ (l.length : Int) = a4 ∧ Rg 0 l) ∨
  (a0 = 5 ∧ (a1 = 0 ∧ a2 = 0) ∧ (0 ≤ a3 ∧ a3 ≤ 65535 ∧ 1 ≤ a4 ∧ a4 ≤ 1) ∧ (l.length : Int) = a4 ∧ Rg 1 l) ∨
  (a0 = 6 ∧ (a1 = 0 ∧ a2 = 0) ∧ (0 ≤ a3 ∧ a3 ≤ 65535 ∧ 1 ≤ a4 ∧ a4 ≤ 1) ∧ (l.length : Int) = a4 ∧ Rg 65535 l) ∨
  (a0 = 15 ∧ (a1 = 0 ∧ a2 = 0) ∧ (0 ≤ a3 ∧ a3 ≤ 65535 ∧ 1 ≤ a4 ∧ a4 ≤ 1968) ∧ (l.length : Int) = a4 ∧ Rg 1 l) ∨
  (a0 = 16 ∧ (a1 = 0 ∧ a2 = 0) ∧ (0 ≤ a3 ∧ a3 ≤ 65535 ∧ 1 ≤ a4 ∧ a4 ≤ 123) ∧ (l.length : Int) = a4 ∧ Rg 65535 l) ∨
  (a0 = 22 ∧ (a1 = 0 ∧ a2 = 0) ∧ (0 ≤ a3 ∧ a3 ≤ 65535 ∧ 1 ≤ a4 ∧ a4 ≤ 1) ∧ (l.length : Int) = 2 ∧ Rg 65535 l) ∨
  (a0 = 23 ∧ (0 ≤ a1 ∧ a1 ≤ 65535 ∧ 1 ≤ a2 ∧ a2 ≤ 125) ∧ (0 ≤ a3 ∧ a3 ≤ 65535 ∧ 1 ≤ a4 ∧ a4 ≤ 121) ∧ (l.length : Int) = a4 ∧ Rg 65535 l)
theorem rg_of {m : Int} {l : List Int} (h : (!l.any fun v => decide (v < 0) || decide (m < v)) = true) : Rg m l := by
  intro v hv
  rw [Bool.not_eq_true', List.any_eq_false] at h
  have := h v hv
  simp at this
  omega
theorem rt_of {a0 a1 a2 a3 a4 : Int} {l : List Int} (h : rightP a0 a1 a2 a3 a4 l = true) : Rt a0 a1 a2 a3 a4 l := by
  unfold rightP formedP at h
  simp only [Bool.and_eq_true, decide_eq_true_eq] at h
  obtain ⟨⟨hok, hp, hq, hl, hr⟩, -, -⟩ := h
  have hr := rg_of hr
  unfold ofP at hok hp hq hl hr
  unfold Rt
  split at hok
  · rename_i h0
    simp only [if_pos h0, partP] at hp hq hl hr
    simp at hp hq hl
    exact .inl ⟨h0, ⟨hp.1.1.1, hp.1.1.2, hp.1.2, hp.2⟩, hq, hl, hr⟩
  rename_i h0
  simp only [if_neg h0] at hp hq hl hr
  split at hok
  · rename_i h1
    simp only [if_pos h1, partP] at hp hq hl hr
    simp at hp hq hl
    exact .inr (.inl ⟨h1, ⟨hp.1.1.1, hp.1.1.2, hp.1.2, hp.2⟩, hq, hl, hr⟩)
  rename_i h1
  simp only [if_neg h1] at hp hq hl hr
  split at hok
  · rename_i h2
    simp only [if_pos h2, partP] at hp hq hl hr
    simp at hp hq hl
    exact .inr (.inr (.inl ⟨h2, hp, ⟨hq.1.1.1, hq.1.1.2, hq.1.2, hq.2⟩, hl, hr⟩))
  rename_i h2
  simp only [if_neg h2] at hp hq hl hr
  split at hok
  · rename_i h3
    simp only [if_pos h3, partP] at hp hq hl hr
    simp at hp hq hl
    exact .inr (.inr (.inr (.inl ⟨h3, hp, ⟨hq.1.1.1, hq.1.1.2, hq.1.2, hq.2⟩, hl, hr⟩)))
  rename_i h3
  simp only [if_neg h3] at hp hq hl hr
  split at hok
  · rename_i h4
    simp only [if_pos h4, partP] at hp hq hl hr
    simp at hp hq hl
    exact .inr (.inr (.inr (.inr (.inl ⟨h4, hp, ⟨hq.1.1.1, hq.1.1.2, hq.1.2, hq.2⟩, hl, hr⟩))))
  rename_i h4
  simp only [if_neg h4] at hp hq hl hr
  split at hok
  · rename_i h5
    simp only [if_pos h5, partP] at hp hq hl hr
    simp at hp hq hl
    exact .inr (.inr (.inr (.inr (.inr (.inl ⟨h5, hp, ⟨hq.1.1.1, hq.1.1.2, hq.1.2, hq.2⟩, hl, hr⟩)))))
  rename_i h5
  simp only [if_neg h5] at hp hq hl hr
  split at hok
  · rename_i h6
    simp only [if_pos h6, partP] at hp hq hl hr
    simp at hp hq hl
    exact .inr (.inr (.inr (.inr (.inr (.inr (.inl ⟨h6, hp, ⟨hq.1.1.1, hq.1.1.2, hq.1.2, hq.2⟩, by omega, hr⟩))))))
  rename_i h6
  simp only [if_neg h6] at hp hq hl hr
  split at hok
  · rename_i h7
    simp only [if_pos h7, partP] at hp hq hl hr
    simp at hp hq hl
    exact .inr (.inr (.inr (.inr (.inr (.inr (.inr ⟨h7, ⟨hp.1.1.1, hp.1.1.2, hp.1.2, hp.2⟩, ⟨hq.1.1.1, hq.1.1.2, hq.1.2, hq.2⟩, hl, hr⟩))))))
  · cases hok
theorem refKnown_eq (a : Int) : gatewardenref06_Known.f a = some (ofP a).2.2.2.2 := by
  unfold gatewardenref06_Known.f
  by_cases h1 : 1 ≤ a ∧ a ≤ 6
  · have h : a = 1 ∨ a = 2 ∨ a = 3 ∨ a = 4 ∨ a = 5 ∨ a = 6 := by omega
    rcases h with rfl | rfl | rfl | rfl | rfl | rfl <;> rfl
  by_cases h15 : a = 15
  · subst h15; rfl
  by_cases h16 : a = 16
  · subst h16; rfl
  by_cases h22 : a = 22
  · subst h22; rfl
  by_cases h23 : a = 23
  · subst h23; rfl
  have e : (ofP a).2.2.2.2 = false := by
    unfold ofP
    rw [if_neg (by omega), if_neg (by omega), if_neg (by omega), if_neg (by omega), if_neg h15, if_neg h16, if_neg h22, if_neg h23]
  rw [e]
  split
  · rw [if_neg (by omega), beq_eq_false_iff_ne.2 h23]
  · rw [beq_eq_false_iff_ne.2 h23]
theorem ofP_known {a : Int} (h : (ofP a).2.2.2.2 = true) : a = 1 ∨ a = 2 ∨ a = 3 ∨ a = 4 ∨ a = 5 ∨ a = 6 ∨ a = 15 ∨ a = 16 ∨ a = 22 ∨ a = 23 := by
  unfold ofP at h
  split at h; · omega
  split at h; · omega
  split at h; · omega
  split at h; · omega
  split at h; · omega
  split at h; · omega
  split at h; · omega
  split at h; · omega
  cases h
theorem reads_eq {a : Int} (h : (ofP a).2.2.2.2 = true) (k : Nat) (hk : 1 ≤ k) : gatewardenref06_reads.f k a = some (ofP a).1 := by
  obtain ⟨k, rfl⟩ : ∃ m, k = m + 1 := ⟨k - 1, by omega⟩
  rcases ofP_known h with rfl | rfl | rfl | rfl | rfl | rfl | rfl | rfl | rfl | rfl <;> rfl
theorem writes_eq {a : Int} (h : (ofP a).2.2.2.2 = true) : gatewardenref06_writes.f a = some ((ofP a).2.1, (ofP a).2.2.1, (if (ofP a).2.1 = 0 then 0 else (ofP a).2.2.2.1)) := by
  rcases ofP_known h with rfl | rfl | rfl | rfl | rfl | rfl | rfl | rfl | rfl | rfl <;> rfl
theorem ofP_high {a : Int} (h : (ofP a).2.2.2.2 = true) : (if (ofP a).2.1 = 0 then 0 else (ofP a).2.2.2.1) = (ofP a).2.2.2.1 ∧ 0 ≤ (ofP a).1 ∧ 0 ≤ (ofP a).2.1 := by
  rcases ofP_known h with rfl | rfl | rfl | rfl | rfl | rfl | rfl | rfl | rfl | rfl <;> decide
theorem sel (r a b : Int) (X : Bool → Option Bool) (hr : 0 ≤ r) :
    (if a < 0 then X true else if a > 65535 then X true else if b < 0 then X true else if b > r then X true else if r > 0 then (if b = 0 then X true else if r = 0 then X (a != 0) else X false) else if r = 0 then X (a != 0) else X false) = X (!partP a b r) := by
  unfold partP
  by_cases h0 : a < 0
  · rw [if_pos h0]; split
    · rw [show (a == 0) = false by simp; omega]; rfl
    · rw [decide_eq_false (by omega)]; rfl
  rw [if_neg h0]
  by_cases h1 : a > 65535
  · rw [if_pos h1]; split
    · rw [show (a == 0) = false by simp; omega]; rfl
    · rw [decide_eq_false (p := a ≤ 65535) (by omega), Bool.and_false]; rfl
  rw [if_neg h1]
  by_cases h2 : b < 0
  · rw [if_pos h2]; split
    · rw [show (b == 0) = false by simp; omega, Bool.and_false]; rfl
    · rw [decide_eq_false (p := 1 ≤ b) (by omega), Bool.and_false]; rfl
  rw [if_neg h2]
  by_cases h3 : b > r
  · rw [if_pos h3]; split
    · rw [show (b == 0) = false by simp; omega, Bool.and_false]; rfl
    · rw [decide_eq_false (p := b ≤ r) (by omega), Bool.and_false]; rfl
  rw [if_neg h3]
  by_cases h4 : r = 0
  · rw [if_neg (by omega), if_pos h4, if_pos h4, show b = 0 by omega]
    by_cases h5 : a = 0
    · subst h5; rfl
    · show X (!(a == 0)) = _
      rw [beq_eq_false_iff_ne.2 h5]; rfl
  · rw [if_pos (by omega), if_neg h4, if_neg h4, decide_eq_true (p := 0 ≤ a) (by omega), decide_eq_true (p := a ≤ 65535) (by omega), decide_eq_true (p := b ≤ r) (by omega)]
    by_cases h5 : b = 0
    · rw [if_pos h5, decide_eq_false (by omega)]; rfl
    · rw [if_neg h5, decide_eq_true (by omega)]; rfl
theorem all_loop (l : List Int) (hi : Int) (hl : l.length ≤ 1099511627776) (d : Nat) : ∀ (k i : Nat), i ≤ l.length → l.length - i = d → d < k →
    gatewardenref06_all.l0 k l hi (i : Int) = some (!(l.drop i).any fun v => decide (v < 0) || decide (hi < v)) := by
  induction d with
  | zero =>
    intro k i h hd hk
    obtain ⟨k, rfl⟩ : ∃ m, k = m + 1 := ⟨k - 1, by omega⟩
    obtain rfl : i = l.length := by omega
    simp only [gatewardenref06_all.l0]
    rw [if_neg (by omega), List.drop_length]
    rfl
  | succ d ih =>
    intro k i h hd hk
    obtain ⟨k, rfl⟩ : ∃ m, k = m + 1 := ⟨k - 1, by omega⟩
    have hlt : i < l.length := by omega
    have hrd : rd l (i : Int) = l[i] := by rw [rd_nat, List.getD_eq_getElem?_getD, List.getElem?_eq_getElem hlt]; rfl
    have hwr : wrap64 ((i : Int) + 1) = ((i + 1 : Nat) : Int) := by rw [w64 (by omega) (by omega)]; omega
    simp only [gatewardenref06_all.l0]
    rw [if_pos (by omega), if_pos (by omega), hrd, List.drop_eq_getElem_cons hlt, List.any_cons]
    by_cases h0 : l[i] < 0
    · rw [if_pos h0, decide_eq_true h0]; rfl
    rw [if_neg h0, decide_eq_false h0]
    by_cases h1 : l[i] > hi
    · rw [if_pos h1, decide_eq_true (p := hi < l[i]) h1]; rfl
    rw [if_neg h1, decide_eq_false (p := hi < l[i]) h1, hwr]
    exact ih k (i + 1) (by omega) (by omega) (by omega)
theorem all_eq (l : List Int) (hi : Int) (hl : l.length ≤ 1099511627776) (k : Nat) (hk : l.length < k) : gatewardenref06_all.f k l hi = some (!l.any fun v => decide (v < 0) || decide (hi < v)) := all_loop l hi hl l.length k 0 (by omega) (by omega) hk
theorem refFormed_eq (a0 a1 a2 a3 a4 : Int) (l : List Int) (hl : l.length ≤ 1099511627776) (k : Nat) (hk : l.length + 3 ≤ k) : gatewardenref06_Formed.f k a0 a1 a2 a3 a4 l = some (formedP a0 a1 a2 a3 a4 l) := by
  obtain ⟨k, rfl⟩ : ∃ m, k = m + 2 := ⟨k - 2, by omega⟩
  unfold gatewardenref06_Formed.f formedP
  rw [refKnown_eq, Option.bind_some]
  cases h : (ofP a0).2.2.2.2
  · rfl
  obtain ⟨hh, hr, hw⟩ := ofP_high h
  rw [if_pos rfl, reads_eq h _ (by omega), Option.bind_some]
  refine (sel (ofP a0).1 a1 a2 (fun b => gatewardenref06_Formed.j0 (k + 2) b a0 a1 a2 a3 a4 l) hr).trans ?_
  simp only [gatewardenref06_Formed.j0]
  cases partP a1 a2 (ofP a0).1
  · rfl
  rw [if_neg (by decide), writes_eq h, hh, Option.bind_some]
  refine (sel (ofP a0).2.1 a3 a4 (fun b => gatewardenref06_Formed.j1 (k + 1) (ofP a0).2.2.1 (ofP a0).2.2.2.1 b a0 a1 a2 a3 a4 l) hw).trans ?_
  simp only [gatewardenref06_Formed.j1]
  cases partP a3 a4 (ofP a0).2.1
  · rfl
  rw [if_neg (by decide), all_eq _ _ hl _ (by omega), Option.bind_some]
  by_cases h5 : (ofP a0).2.2.1 = 0
  · rw [if_pos h5, if_pos h5]
    by_cases h6 : (l.length : Int) = a4
    · rw [if_pos h6, decide_eq_true h6]; rfl
    · rw [if_neg h6, decide_eq_false h6]; rfl
  · rw [if_neg h5, if_neg h5]
    by_cases h6 : (l.length : Int) = (ofP a0).2.2.1
    · rw [if_pos h6, decide_eq_true h6]; rfl
    · rw [if_neg h6, decide_eq_false h6]; rfl
theorem refRight_eq (a0 a1 a2 a3 a4 : Int) (l : List Int) (hl : l.length ≤ 1099511627776) (k : Nat) (hk : l.length + 3 ≤ k) : gatewardenref06_Right.f k a0 a1 a2 a3 a4 l = some (rightP a0 a1 a2 a3 a4 l) := by
  unfold gatewardenref06_Right.f rightP
  rw [refFormed_eq _ _ _ _ _ _ hl _ hk, Option.bind_some]
  cases formedP a0 a1 a2 a3 a4 l
  · rfl
  · rw [if_pos rfl]
    by_cases h : wrap64 (a1 + a2) ≤ 65536
    · rw [if_pos h, decide_eq_true h]; rfl
    · rw [if_neg h, decide_eq_false h]; rfl
/-- The addresses of a request. -/
def sp (a1 a2 a3 a4 : Int) : List S74 := (if a2 = 0 then [] else [⟨a1, a1 + a2 - 1⟩]) ++ (if a4 = 0 then [] else [⟨a3, a3 + a4 - 1⟩])
/-- What is known of a right request's addresses. -/
def Ends (a1 a2 a3 a4 : Int) : Prop := (0 ≤ a1 ∧ a1 ≤ 65535 ∧ 0 ≤ a2 ∧ a2 ≤ 2000) ∧ (0 ≤ a3 ∧ a3 ≤ 65535 ∧ 0 ≤ a4 ∧ a4 ≤ 2000) ∧ (a2 ≠ 0 ∨ a4 ≠ 0)
theorem ends_of {a0 a1 a2 a3 a4 : Int} {l : List Int} (h : Rt a0 a1 a2 a3 a4 l) : Ends a1 a2 a3 a4 := by
  unfold Rt at h
  unfold Ends
  omega
def regs (a0 : Int) (l : List Int) : List Int := if a0 = 6 ∨ a0 = 16 ∨ a0 = 23 then l else []
theorem of_right (c u a0 : Int) {a1 a2 a3 a4 : Int} (l : List Int) (hl : l.length ≤ 3000) (h : Ends a1 a2 a3 a4) : facts_Of.f c u a0 a1 a2 a3 a4 l = some (c, u, a0, sp a1 a2 a3 a4, l, regs a0 l) := by
  obtain ⟨⟨p1, p2, p3, p4⟩, ⟨q1, q2, q3, q4⟩, _⟩ := h
  have hc : slices_Clone_int_int.f l = some l := by unfold slices_Clone_int_int.f; rw [if_pos (by omega)]
  have e1 : facts_stretch.f ([] : List S74) a1 a2 = some (if a2 = 0 then [] else [⟨a1, a1 + a2 - 1⟩]) := by
    unfold facts_stretch.f
    by_cases h2 : a2 = 0
    · rw [if_pos h2, if_pos h2]
    · rw [if_neg h2, if_neg h2, if_pos (by simp), w64 (n := a1 + a2) (by omega) (by omega), w64 (by omega) (by omega)]; rfl
  have e2 : facts_stretch.f (if a2 = 0 then [] else [⟨a1, a1 + a2 - 1⟩]) a3 a4 = some (sp a1 a2 a3 a4) := by
    unfold facts_stretch.f sp
    by_cases h2 : a4 = 0
    · rw [if_pos h2, if_pos h2, List.append_nil]
    · rw [if_neg h2, if_neg h2, if_pos (by split <;> simp), w64 (n := a3 + a4) (by omega) (by omega), w64 (by omega) (by omega)]
  unfold facts_Of.f regs
  rw [hc, Option.bind_some, e1, Option.bind_some, e2, Option.bind_some]
  by_cases h6 : a0 = 6
  · simp [h6]
  by_cases h16 : a0 = 16
  · simp [h16]
  by_cases h23 : a0 = 23
  · simp [h23]
  simp [h6, h16, h23]
theorem sp_length {a1 a2 a3 a4 : Int} (h : Ends a1 a2 a3 a4) : 1 ≤ (sp a1 a2 a3 a4).length ∧ (sp a1 a2 a3 a4).length ≤ 2 := by
  unfold sp
  have := h.2.2
  by_cases h2 : a2 = 0 <;> by_cases h4 : a4 = 0 <;> simp [h2, h4] <;> omega
theorem has_loop (l : List S74) (n : Int) (hl : l.length ≤ 1099511627776) (d : Nat) : ∀ (k i : Nat), i ≤ l.length → l.length - i = d → d < k →
    gatewardenref04_Has.l0 k l n (i : Int) = some ((l.drop i).any fun x => decide (x.f0 ≤ n) && decide (n ≤ x.f1)) := by
  induction d with
  | zero =>
    intro k i h hd hk
    obtain ⟨k, rfl⟩ : ∃ m, k = m + 1 := ⟨k - 1, by omega⟩
    obtain rfl : i = l.length := by omega
    simp only [gatewardenref04_Has.l0]
    rw [if_neg (by omega), List.drop_length]
    rfl
  | succ d ih =>
    intro k i h hd hk
    obtain ⟨k, rfl⟩ : ∃ m, k = m + 1 := ⟨k - 1, by omega⟩
    have hlt : i < l.length := by omega
    have hrd : rd_T74 l (i : Int) = l[i] := by unfold rd_T74; rw [Int.toNat_natCast, List.getD_eq_getElem?_getD, List.getElem?_eq_getElem hlt]; rfl
    have hwr : wrap64 ((i : Int) + 1) = ((i + 1 : Nat) : Int) := by rw [w64 (by omega) (by omega)]; omega
    simp only [gatewardenref04_Has.l0]
    rw [if_pos (by omega), if_pos (by omega), hrd, List.drop_eq_getElem_cons hlt, List.any_cons, hwr, ih k (i + 1) (by omega) (by omega) (by omega)]
    by_cases h0 : l[i].f0 ≤ n
    · rw [if_pos h0, decide_eq_true h0]
      by_cases h1 : n ≤ l[i].f1
      · rw [if_pos h1, decide_eq_true h1]; rfl
      · rw [if_neg h1, decide_eq_false h1]; rfl
    · rw [if_neg h0, decide_eq_false h0]; rfl
theorem has_one (b m x : Int) : (decide (m ≤ x) && decide (x ≤ m + b - 1)) = (decide (x ≥ m) && decide (x < m + b)) := by
  have : decide (x ≤ m + b - 1) = decide (x < m + b) := decide_eq_decide.2 (by omega)
  rw [this]
theorem has_none (b m x : Int) (hb : b = 0) : (decide (x ≥ m) && decide (x < m + b)) = false := by
  by_cases c1 : x ≥ m
  · rw [decide_eq_false (p := x < m + b) (by omega), Bool.and_false]
  · rw [decide_eq_false c1]; rfl
theorem has_eq {a1 a2 a3 a4 : Int} (h : Ends a1 a2 a3 a4) (n : Int) : gatewardenref04_Has.f 5 (sp a1 a2 a3 a4) n = some ((decide (n ≥ a1) && decide (n < a1 + a2)) || (decide (n ≥ a3) && decide (n < a3 + a4))) := by
  have hs := sp_length h
  have e := has_loop (sp a1 a2 a3 a4) n (by omega) (sp a1 a2 a3 a4).length 5 0 (by omega) (by omega) (by omega)
  unfold gatewardenref04_Has.f
  refine e.trans ?_
  rw [List.drop_zero]
  unfold sp
  congr 1
  by_cases h2 : a2 = 0
  · by_cases h4 : a4 = 0
    · rw [if_pos h2, if_pos h4, has_none a2 a1 n h2, has_none a4 a3 n h4]; rfl
    · rw [if_pos h2, if_neg h4, has_none a2 a1 n h2, ← has_one a4 a3 n]; simp
  · by_cases h4 : a4 = 0
    · rw [if_neg h2, if_pos h4, has_none a4 a3 n h4, ← has_one a2 a1 n]; simp
    · rw [if_neg h2, if_neg h4, ← has_one a2 a1 n, ← has_one a4 a3 n]; simp
end Go.Proofs.Ytcoaehhoiaijoaa.Fact
