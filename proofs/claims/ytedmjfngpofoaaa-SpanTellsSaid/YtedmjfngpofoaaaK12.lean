/- Texts of this claim, put together (wip/pack.py): SpanRight, RegRows. -/
import Derived.Test.YtedmjfngpofoaaaK5
import Derived.Test.YtedmjfngpofoaaaK11
import Derived.Test.YtedmjfngpofoaaaK1
import Derived.Test.YtedmjfngpofoaaaK3
namespace Go.Proofs.Ytedmjfngpofoaaa.Spans
open Go.RowKit Go.Proofs.Ytedmjfngpofoaaa.PSpanTells Go.Proofs.YtedmjfngpofoaaaW.PrintWords Go.Proofs.YtedmjfngpofoaaaW.PrintLast Go.Proofs.Ytedmjfngpofoaaa.Base
set_option linter.unusedVariables false
def okFrom : Option R → List R → Bool
  | _, [] => true
  | p, r :: t => decide (r.f0 ≤ r.f1) && ((match p with | none => true | some q => decide (q.f1 + 1 < r.f0)) && okFrom (some r) t)
theorem okFrom_some : ∀ {l : List R} {q : R}, q.f0 ≤ q.f1 → (okFrom (some q) l = true ↔ Rt (q :: l))
  | [], q, hq => ⟨fun _ => ⟨List.pairwise_singleton _ _, fun x hx => by rw [List.mem_singleton.1 hx]; exact hq⟩, fun _ => rfl⟩
  | r :: t, q, hq => by
    simp only [okFrom, Bool.and_eq_true, decide_eq_true_eq]
    constructor
    · rintro ⟨h1, h2, h3⟩
      have h4 := (okFrom_some h1).1 h3
      refine ⟨List.pairwise_cons.2 ⟨fun x hx => ?_, h4.1⟩, fun x hx => ?_⟩
      · rcases List.mem_cons.1 hx with rfl | hx
        · exact h2
        · have h5 := (List.pairwise_cons.1 h4.1).1 x hx
          omega
      · rcases List.mem_cons.1 hx with rfl | hx
        · exact hq
        · exact h4.2 x hx
    · intro h
      have h1 := h.2 r (by simp)
      exact ⟨h1, (List.pairwise_cons.1 h.1).1 r List.mem_cons_self, (okFrom_some h1).2 h.tail⟩
theorem okFrom_none {l : List R} : okFrom none l = true ↔ Rt l := by
  cases l with
  | nil => exact ⟨fun _ => ⟨List.Pairwise.nil, fun x hx => by cases hx⟩, fun _ => rfl⟩
  | cons r t =>
    simp only [okFrom, Bool.and_eq_true, decide_eq_true_eq]
    constructor
    · rintro ⟨h1, _, h3⟩
      exact (okFrom_some h1).1 h3
    · intro h
      have h1 := h.2 r List.mem_cons_self
      exact ⟨h1, trivial, (okFrom_some h1).2 h⟩
theorem rdR (l : List R) (i : Nat) (h : i < l.length) : rd_T26 l (i : Int) = l[i] := by unfold rd_T26; rw [Int.toNat_natCast, List.getD_eq_getElem?_getD, List.getElem?_eq_getElem h]; rfl
def prev (l : List R) (i : Nat) : Option R := if i = 0 then none else l[i - 1]?
theorem right_loop (l : List R) (hf : Fit l) (hl : l.length ≤ 1099511627776) (d : Nat) : ∀ (k i : Nat), i ≤ l.length → l.length - i = d → d < k →
    span_Right.l0 k l l (l.length : Int) (i : Int) = some (okFrom (prev l i) (l.drop i)) ∧ gatewardenref04_Right.l0 k l (i : Int) = some (okFrom (prev l i) (l.drop i)) := by
  induction d with
  | zero =>
    intro k i h hd hk
    obtain ⟨k, rfl⟩ : ∃ m, k = m + 1 := ⟨k - 1, by omega⟩
    obtain rfl : i = l.length := by omega
    simp only [span_Right.l0, gatewardenref04_Right.l0]
    rw [if_neg (by omega), if_neg (by omega), List.drop_length]
    exact ⟨rfl, rfl⟩
  | succ d ih =>
    intro k i h hd hk
    obtain ⟨k, rfl⟩ : ∃ m, k = m + 1 := ⟨k - 1, by omega⟩
    have hlt : i < l.length := by omega
    have t1 : (i : Int) < (l.length : Int) := by omega
    have t3 : (0 : Int) ≤ (i : Int) := by omega
    have hwr : wrap64 ((i : Int) + 1) = ((i + 1 : Nat) : Int) := by rw [w64 (by omega) (by omega)]; omega
    obtain ⟨i1, i2⟩ := ih k (i + 1) (by omega) (by omega) (by omega)
    have hp : prev l (i + 1) = some l[i] := by unfold prev; rw [if_neg (by omega), Nat.add_sub_cancel, List.getElem?_eq_getElem hlt]
    rw [hp] at i1 i2
    rw [List.drop_eq_getElem_cons hlt]
    obtain ⟨⟨b1, b2⟩, b3, b4⟩ := hf l[i] (List.getElem_mem hlt)
    have hrd := rdR l i hlt
    simp only [span_Right.l0, gatewardenref04_Right.l0]
    rw [if_pos t1, if_pos t3, if_pos t1, if_pos t1, if_pos t3, hrd, hwr, i1, i2]
    generalize l.drop (i + 1) = p at *
    by_cases hz : i = 0
    · subst hz
      rw [show prev l 0 = none from rfl]
      by_cases h1 : l[0].f0 > l[0].f1
      · rw [if_pos h1, if_pos h1]
        simp only [okFrom, decide_eq_false (show ¬ l[0].f0 ≤ l[0].f1 by omega), Bool.false_and, and_self]
      · rw [if_neg h1, if_neg h1]
        simp only [okFrom, decide_eq_true (show l[0].f0 ≤ l[0].f1 by omega), Bool.true_and]
        simp
    · have hw1 : wrap64 ((i : Int) - 1) = ((i - 1 : Nat) : Int) := by rw [w64 (by omega) (by omega)]; omega
      have hlt1 : i - 1 < l.length := by omega
      have hpr : prev l i = some l[i - 1] := by unfold prev; rw [if_neg hz, List.getElem?_eq_getElem hlt1]
      obtain ⟨⟨c1, c2⟩, c3, c4⟩ := hf l[i - 1] (List.getElem_mem hlt1)
      rw [hpr, hw1, rdR l (i - 1) hlt1]
      have u1 : (i : Int) > 0 := by omega
      have u2 : (0 : Int) ≤ ((i - 1 : Nat) : Int) := by omega
      have u3 : ((i - 1 : Nat) : Int) < (l.length : Int) := by omega
      rw [if_pos u1, if_pos u2, if_pos u3, if_pos u1, if_pos u2, if_pos u3]
      generalize l[i - 1] = q at *
      generalize l[i] = r at *
      by_cases h1 : r.f0 > r.f1
      · rw [if_pos h1, if_pos h1]
        simp only [okFrom, decide_eq_false (show ¬ r.f0 ≤ r.f1 by omega), Bool.false_and, and_self]
      · rw [if_neg h1, if_neg h1]
        simp only [okFrom, decide_eq_true (show r.f0 ≤ r.f1 by omega), Bool.true_and]
        by_cases h2 : r.f0 ≤ q.f1
        · rw [if_pos h2, if_pos h2, decide_eq_false (show ¬ q.f1 + 1 < r.f0 by omega), Bool.false_and]
          exact ⟨rfl, rfl⟩
        · rw [if_neg h2, if_neg h2, show wrap64 (r.f0 - 1) = r.f0 - 1 from w64 (by omega) (by omega)]
          by_cases h3 : r.f0 - 1 = q.f1
          · rw [if_pos h3, if_pos (show r.f0 - 1 ≤ q.f1 by omega), decide_eq_false (show ¬ q.f1 + 1 < r.f0 by omega), Bool.false_and]
            exact ⟨rfl, rfl⟩
          · rw [if_neg h3, if_neg (show ¬ r.f0 - 1 ≤ q.f1 by omega), decide_eq_true (show q.f1 + 1 < r.f0 by omega), Bool.true_and]
            exact ⟨rfl, rfl⟩
theorem right_eq (l : List R) (hf : Fit l) (hl : l.length ≤ 1099511627776) (k : Nat) (hk : l.length < k) : span_Right.f k l = some (okFrom none l) ∧ gatewardenref04_Right.f k l = some (okFrom none l) :=
  right_loop l hf hl l.length k 0 (by omega) (by omega) hk
instance : DecidableEq R := fun a b => if h : a.f0 = b.f0 ∧ a.f1 = b.f1 then .isTrue (by cases a; cases b; simp_all) else .isFalse (by rintro rfl; simp at h)
theorem same_loop (l m : List R) (hlm : l.length = m.length) (hl : l.length ≤ 1099511627776) (d : Nat) : ∀ (k i : Nat), i ≤ l.length → l.length - i = d → d < k →
    gatewardenref04_Same.l0 k l m (i : Int) = some (decide (l.drop i = m.drop i)) ∧ api_Range_41.l0 k l m (l.length : Int) (i : Int) = some (decide (l.drop i = m.drop i)) := by
  induction d with
  | zero =>
    intro k i h hd hk
    obtain ⟨k, rfl⟩ : ∃ m, k = m + 1 := ⟨k - 1, by omega⟩
    obtain rfl : i = l.length := by omega
    simp only [gatewardenref04_Same.l0, api_Range_41.l0]
    rw [if_neg (by omega), List.drop_length, hlm, List.drop_length]
    exact ⟨by simp, by simp⟩
  | succ d ih =>
    intro k i h hd hk
    obtain ⟨k, rfl⟩ : ∃ m, k = m + 1 := ⟨k - 1, by omega⟩
    have hlt : i < l.length := by omega
    have hlt' : i < m.length := by omega
    have t1 : (i : Int) < (l.length : Int) := by omega
    have t2 : (i : Int) < (m.length : Int) := by omega
    have t3 : (0 : Int) ≤ (i : Int) := by omega
    have hwr : wrap64 ((i : Int) + 1) = ((i + 1 : Nat) : Int) := by rw [w64 (by omega) (by omega)]; omega
    obtain ⟨i1, i2⟩ := ih k (i + 1) (by omega) (by omega) (by omega)
    have hrd := rdR l i hlt
    have hrd' := rdR m i hlt'
    rw [List.drop_eq_getElem_cons hlt, List.drop_eq_getElem_cons hlt']
    generalize l.drop (i + 1) = p at i1 i2 ⊢
    generalize m.drop (i + 1) = q at i1 i2 ⊢
    generalize l[i] = a at hrd ⊢
    generalize m[i] = b at hrd' ⊢
    have e : decide (a :: p = b :: q) = (decide (a = b) && decide (p = q)) := by
      by_cases h1 : a = b
      · by_cases h2 : p = q
        · rw [h1, h2]; simp
        · rw [decide_eq_false h2, Bool.and_false, decide_eq_false (by simp [h2])]
      · rw [decide_eq_false h1, Bool.false_and, decide_eq_false (by simp [h1])]
    rw [e]
    have t : ∀ x y : R, ((!(x.f0 == y.f0)) || (!(x.f1 == y.f1))) = !decide (x = y) := by
      intro x y
      by_cases hxy : x = y
      · subst hxy; simp
      · rw [decide_eq_false hxy]
        by_cases h0 : x.f0 = y.f0
        · by_cases h1 : x.f1 = y.f1
          · exact absurd (by cases x; cases y; simp_all) hxy
          · simp [h1]
        · simp [h0]
    constructor
    · simp only [gatewardenref04_Same.l0]
      rw [if_pos t1, if_pos t3, if_pos t2, hrd, hrd', hwr, i1, t]
      by_cases he : a = b
      · rw [decide_eq_true he]; rfl
      · rw [decide_eq_false he]; rfl
    · simp only [api_Range_41.l0]
      rw [if_pos t1, if_pos t3, if_pos t1, if_pos t2, hrd, hrd', hwr, i2, t]
      by_cases he : a = b
      · rw [decide_eq_true he]; rfl
      · rw [decide_eq_false he]; rfl
theorem same_eq (l m : List R) (hl : l.length ≤ 1099511627776) (k : Nat) (hk : l.length < k) : gatewardenref04_Same.f k l m = some (decide (l = m)) ∧ span_Same.f k l m = some (decide (l = m)) := by
  unfold span_Same.f gatewardenref04_Same.f api_Range_41.f
  by_cases h : l.length = m.length
  · rw [if_pos (by omega), if_pos (by omega)]
    obtain ⟨h1, h2⟩ := same_loop l m h hl l.length k 0 (by omega) (by omega) hk
    rw [show ((0 : Nat) : Int) = 0 from rfl] at h1 h2
    rw [h1, h2]
    exact ⟨rfl, rfl⟩
  · rw [if_neg (by omega), if_neg (by omega), decide_eq_false (fun e => h (by rw [e]))]
    exact ⟨rfl, rfl⟩
end Go.Proofs.Ytedmjfngpofoaaa.Spans
namespace Go.Proofs.YtedmjfngpofoaaaW.PrintLast
open Go.RowKit Go.Proofs.YtedmjfngpofoaaaW.PrintWords
section
variable {P : Program} {ops : Array Oper} {Q : Exit → Act → World → Prop} {S : World → Prop} {o : List Nat} {n fuel k : Nat} {a : Act} {W : World}
theorem reg_rows {α : Type} (d : Kd α) (Rr : α → List Value → Prop) (w0 : World) (base : Nat) {i : Nat} {N : Tmp} {oi : Oper} (_ho : o[k]? = some i) (hi : ops[i]? = some oi) (hN : oi.dst = some N)
    (hc : (readyT (rtab .any ops).2 (dn o k n).toList == [i] && (dn o k n).toList.set i true == (dn o (k + 1) n).toList) = true) (hw : Region.wanted oi (yielded ops a.tmps) = true) (s x : Operand) (t e : TypeId) (z : Value) (bytes : Nat)
    (ho : oi.op = .call { callee := .builtin .append, args := #[s, x], argTypes := #[t, t] })
    (ht : P.underlying t = some (.slice e)) (hinfo : (P.info? e).map (fun i => (i.zero, i.size, i.bytes)) = some (some z, d.sz, bytes)) (hz : z.cells.size = d.sz) (hs0 : 0 < d.sz) (hb0 : 0 < bytes)
    (v : Value) (xs ys : List α) (A : Option Addr) (m c : Nat) (ok okp : Nat → Prop) (hs : a.eval s = v) (hx : a.eval x = .slice A m c)
    (HO : d.R e W base ok v xs) (HR : ReadsRow Rr d.sz W A m ys) (hKM : ∀ x cs, Rr x cs → d.M W base okp x cs) (hokp : ∀ k, okp k → ok k ∧ some k ≠ v.ownBlock) (hfresh : ∀ k, W.heap.size ≤ k → ok k)
    (HB : Below base w0 W) (hbase : base ≤ W.heap.size) (hl : (xs.length + m) * bytes ≤ 140737488355328) (hS : ∀ w1, Below base w0 w1 → S w1)
    (h : ∀ v1 w1, d.R e w1 base ok v1 (xs ++ ys) → Below base w0 w1 → W.grownBy w1 v.ownBlock → (v1.ownBlock = v.ownBlock ∨ ∃ b, v1.ownBlock = some b ∧ W.heap.size ≤ b) → ∀ a', a.put (some N) v1 = a' → wpAnyLast P .any ops Q S [] fuel (dn o (k + 1) n) a' w1) : wpAnyLast P .any ops Q S [] (fuel + 1) (dn o k n) a W := by
  refine one_ (dn o (k + 1) n) hi rfl (one_of rfl hc) (by simp) (fun K hK => ?_)
  refine Kd.R_append_rows_step d base hw s x t e z bytes ho ht hinfo hz hs0 hb0 v xs ys A m c ok okp hs hx HO HR hKM hokp hfresh HB hbase hl (fun v1 w1 hr hb hg hat => ?_)
  rw [hN]
  exact hK _ _ (hS w1 hb) (fun _ => h v1 w1 hr hb hg hat _ rfl)
end
end Go.Proofs.YtedmjfngpofoaaaW.PrintLast
