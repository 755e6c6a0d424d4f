/- Texts of this claim, put together (wip/pack.py): FactSame, Reg2. -/
import Derived.Test.YtcoaehhoiaijoaaK18
import Derived.Test.YtcoaehhoiaijoaaK12
import Derived.Test.YtcoaehhoiaijoaaK9
namespace Go.Proofs.Ytcoaehhoiaijoaa.Fact
open Go.RowKit Go.Proofs.Ytcoaehhoiaijoaa.PFactsTells Go.Proofs.YtcoaehhoiaijoaaW.PrintWords Go.Proofs.YtcoaehhoiaijoaaW.PrintLast Go.Proofs.Ytcoaehhoiaijoaa.Base
set_option linter.unusedVariables false
instance : DecidableEq S74 := fun a b => if h : a.f0 = b.f0 ∧ a.f1 = b.f1 then .isTrue (by cases a; cases b; simp_all) else .isFalse (by rintro rfl; simp at h)
theorem ints_loop (l m : List Int) (hlm : l.length = m.length) (hl : l.length ≤ 1099511627776) (d : Nat) : ∀ (k i : Nat), i ≤ l.length → l.length - i = d → d < k →
    gatewardenref01_Ints.l0 k l m (i : Int) = some (decide (l.drop i = m.drop i)) ∧ slices_Equal_int_int.l0 k l m (l.length : Int) (i : Int) = some (decide (l.drop i = m.drop i)) := by
  induction d with
  | zero =>
    intro k i h hd hk
    obtain ⟨k, rfl⟩ : ∃ m, k = m + 1 := ⟨k - 1, by omega⟩
    obtain rfl : i = l.length := by omega
    simp only [gatewardenref01_Ints.l0, slices_Equal_int_int.l0]
    rw [if_neg (by omega), List.drop_length, hlm, List.drop_length]
    exact ⟨by simp, by simp⟩
  | succ d ih =>
    intro k i h hd hk
    obtain ⟨k, rfl⟩ : ∃ m, k = m + 1 := ⟨k - 1, by omega⟩
    have hlt : i < l.length := by omega
    have hlt' : i < m.length := by omega
    have t1 : (i : Int) < (l.length : Int) := by omega
    have t2 : (i : Int) < (m.length : Int) := by omega
    have t3 : (0 : Int) ≤ (i : Int) := by omega
    have hwr : wrap64 ((i : Int) + 1) = ((i + 1 : Nat) : Int) := by rw [w64 (by omega) (by omega)]; omega
    obtain ⟨i1, i2⟩ := ih k (i + 1) (by omega) (by omega) (by omega)
    have hrd : rd l (i : Int) = l[i] := by rw [rd_nat, List.getD_eq_getElem?_getD, List.getElem?_eq_getElem hlt]; rfl
    have hrd' : rd m (i : Int) = m[i] := by rw [rd_nat, List.getD_eq_getElem?_getD, List.getElem?_eq_getElem hlt']; rfl
    rw [List.drop_eq_getElem_cons hlt, List.drop_eq_getElem_cons hlt']
    generalize l.drop (i + 1) = p at i1 i2 ⊢
    generalize m.drop (i + 1) = q at i1 i2 ⊢
    generalize l[i] = a at hrd ⊢
    generalize m[i] = b at hrd' ⊢
    have e : decide (a :: p = b :: q) = (decide (a = b) && decide (p = q)) := by
      by_cases h1 : a = b
      · by_cases h2 : p = q
        · rw [h1, h2]; simp
        · rw [decide_eq_false h2, Bool.and_false, decide_eq_false (by simp [h2])]
      · rw [decide_eq_false h1, Bool.false_and, decide_eq_false (by simp [h1])]
    rw [e]
    constructor
    · simp only [gatewardenref01_Ints.l0]
      rw [if_pos t1, if_pos t3, if_pos t2, hrd, hrd', hwr, i1]
      by_cases he : a = b
      · rw [if_pos he, decide_eq_true he]; rfl
      · rw [if_neg he, decide_eq_false he]; rfl
    · simp only [slices_Equal_int_int.l0]
      rw [if_pos t1, if_pos t3, if_pos t1, if_pos t2, hrd, hrd', hwr, i2]
      by_cases he : a = b
      · rw [if_pos he, decide_eq_true he]; rfl
      · rw [if_neg he, decide_eq_false he]; rfl
theorem ints_eq (l m : List Int) (hl : l.length ≤ 1099511627776) (k : Nat) (hk : l.length < k) : gatewardenref01_Ints.f k l m = some (decide (l = m)) ∧ slices_Equal_int_int.f k l m = some (decide (l = m)) := by
  unfold gatewardenref01_Ints.f slices_Equal_int_int.f
  by_cases h : l.length = m.length
  · rw [if_pos (by omega), if_pos (by omega)]
    exact ints_loop l m h hl l.length k 0 (by omega) (by omega) hk
  · rw [if_neg (by omega), if_neg (by omega), decide_eq_false (fun e => h (by rw [e]))]
    exact ⟨rfl, rfl⟩
theorem ranges_loop (l m : List S74) (hlm : l.length = m.length) (hl : l.length ≤ 1099511627776) (d : Nat) : ∀ (k i : Nat), i ≤ l.length → l.length - i = d → d < k →
    gatewardenref04_Same.l0 k l m (i : Int) = some (decide (l.drop i = m.drop i)) ∧ api_Range.l0 k l m (l.length : Int) (i : Int) = some (decide (l.drop i = m.drop i)) := by
  induction d with
  | zero =>
    intro k i h hd hk
    obtain ⟨k, rfl⟩ : ∃ m, k = m + 1 := ⟨k - 1, by omega⟩
    obtain rfl : i = l.length := by omega
    simp only [gatewardenref04_Same.l0, api_Range.l0]
    rw [if_neg (by omega), List.drop_length, hlm, List.drop_length]
    exact ⟨by simp, by simp⟩
  | succ d ih =>
    intro k i h hd hk
    obtain ⟨k, rfl⟩ : ∃ m, k = m + 1 := ⟨k - 1, by omega⟩
    have hlt : i < l.length := by omega
    have hlt' : i < m.length := by omega
    have t1 : (i : Int) < (l.length : Int) := by omega
    have t2 : (i : Int) < (m.length : Int) := by omega
    have t3 : (0 : Int) ≤ (i : Int) := by omega
    have hwr : wrap64 ((i : Int) + 1) = ((i + 1 : Nat) : Int) := by rw [w64 (by omega) (by omega)]; omega
    obtain ⟨i1, i2⟩ := ih k (i + 1) (by omega) (by omega) (by omega)
    have hrd : rd_T74 l (i : Int) = l[i] := by unfold rd_T74; rw [Int.toNat_natCast, List.getD_eq_getElem?_getD, List.getElem?_eq_getElem hlt]; rfl
    have hrd' : rd_T74 m (i : Int) = m[i] := by unfold rd_T74; rw [Int.toNat_natCast, List.getD_eq_getElem?_getD, List.getElem?_eq_getElem hlt']; rfl
    rw [List.drop_eq_getElem_cons hlt, List.drop_eq_getElem_cons hlt']
    generalize l.drop (i + 1) = p at i1 i2 ⊢
    generalize m.drop (i + 1) = q at i1 i2 ⊢
    generalize l[i] = a at hrd ⊢
    generalize m[i] = b at hrd' ⊢
    have e : decide (a :: p = b :: q) = (decide (a = b) && decide (p = q)) := by
      by_cases h1 : a = b
      · by_cases h2 : p = q
        · rw [h1, h2]; simp
        · rw [decide_eq_false h2, Bool.and_false, decide_eq_false (by simp [h2])]
      · rw [decide_eq_false h1, Bool.false_and, decide_eq_false (by simp [h1])]
    rw [e]
    have t : ∀ x y : S74, ((!(x.f0 == y.f0)) || (!(x.f1 == y.f1))) = !decide (x = y) := by
      intro x y
      by_cases hxy : x = y
      · subst hxy; simp
      · rw [decide_eq_false hxy]
        by_cases h0 : x.f0 = y.f0
        · by_cases h1 : x.f1 = y.f1
          · exact absurd (by cases x; cases y; simp_all) hxy
          · simp [h1]
        · simp [h0]
    constructor
    · simp only [gatewardenref04_Same.l0]
      rw [if_pos t1, if_pos t3, if_pos t2, hrd, hrd', hwr, i1, t]
      by_cases he : a = b
      · rw [decide_eq_true he]; rfl
      · rw [decide_eq_false he]; rfl
    · simp only [api_Range.l0]
      rw [if_pos t1, if_pos t3, if_pos t1, if_pos t2, hrd, hrd', hwr, i2, t]
      by_cases he : a = b
      · rw [decide_eq_true he]; rfl
      · rw [decide_eq_false he]; rfl
theorem ranges_eq (l m : List S74) (hl : l.length ≤ 1099511627776) (k : Nat) (hk : l.length < k) : gatewardenref04_Same.f k l m = some (decide (l = m)) ∧ api_Range.f k l m = some (decide (l = m)) := by
  unfold gatewardenref04_Same.f api_Range.f
  by_cases h : l.length = m.length
  · rw [if_pos (by omega), if_pos (by omega)]
    exact ranges_loop l m h hl l.length k 0 (by omega) (by omega) hk
  · rw [if_neg (by omega), if_neg (by omega), decide_eq_false (fun e => h (by rw [e]))]
    exact ⟨rfl, rfl⟩
/-- The same facts, plainly. -/
def sameFacts (c u f : Int) (s : List S74) (v r : List Int) (c' u' f' : Int) (s' : List S74) (v' r' : List Int) : Bool := decide (c = c') && (decide (u = u') && (decide (f = f') && (decide (s = s') && (decide (v = v') && decide (r = r')))))
theorem same14 (c u f : Int) (s : List S74) (v r : List Int) (c' u' f' : Int) (s' : List S74) (v' r' : List Int) (k : Nat) (hk : k ≤ 1099511627776) (hs : s.length < k) (hv : v.length < k) (hr : r.length < k) :
    gatewardenref14_Same.f k c u f s v r c' u' f' s' v' r' = some (sameFacts c u f s v r c' u' f' s' v' r') ∧ facts_Same.f k c u f s v r c' u' f' s' v' r' = some (sameFacts c u f s v r c' u' f' s' v' r') := by
  obtain ⟨s1, s2⟩ := ranges_eq s s' (by omega) k hs
  obtain ⟨v1, v2⟩ := ints_eq v v' (by omega) k hv
  obtain ⟨r1, r2⟩ := ints_eq r r' (by omega) k hr
  unfold gatewardenref14_Same.f facts_Same.f sameFacts span_Same.f
  rw [s1, s2, v1, v2, r1, r2]
  by_cases h1 : c = c' <;> by_cases h2 : u = u' <;> by_cases h3 : f = f' <;> by_cases h4 : s = s' <;> by_cases h5 : v = v' <;> simp [h1, h2, h3, h4, h5]
end Go.Proofs.Ytcoaehhoiaijoaa.Fact
namespace Go.Proofs.YtcoaehhoiaijoaaW.PrintLast
open Go.RowKit Go.Proofs.YtcoaehhoiaijoaaW.PrintWords
section
variable {P : Program} {ops : Array Oper} {Q : Exit → Act → World → Prop} {S : World → Prop} {o : List Nat} {n fuel k : Nat} {a : Act} {w w1 : World}
theorem wp_value {oi : Oper} {N : Tmp} {v : Value} {K : Act → World → Prop} (hN : oi.dst = some N) (hw : Region.wanted oi (yielded ops a.tmps) = true) (hrun : (execOp a.eval oi).run P w = .ok (.value v) w1) (h : K (a.put (some N) v) w1) : if Region.wanted oi (yielded ops a.tmps) = true then Oper.wp P oi a w K Q else K (a.put (some N) undef) w := by
  rw [if_pos hw]
  unfold Oper.wp
  rw [hrun, Oper.upon_value, hN]
  exact h
/-- An operation that makes memory, alone. -/
theorem reg_run {i : Nat} {N : Tmp} {oi : Oper} {v : Value} (_ho : o[k]? = some i) (hi : ops[i]? = some oi) (hN : oi.dst = some N) (hc : (readyT (rtab .any ops).2 (dn o k n).toList == [i] && (dn o k n).toList.set i true == (dn o (k + 1) n).toList) = true)
    (hw : Region.wanted oi (yielded ops a.tmps) = true) (hrun : (execOp a.eval oi).run P w = .ok (.value v) w1) (hS : S w1) (h : S w1 → ∀ a', a.put (some N) v = a' → wpAnyLast P .any ops Q S [] fuel (dn o (k + 1) n) a' w1) : wpAnyLast P .any ops Q S [] (fuel + 1) (dn o k n) a w :=
  one_ (dn o (k + 1) n) hi hN (one_of rfl hc) (by simp) (fun _ hK => wp_value hN hw hrun (hK.out _ _ hS (fun hs => h hs _ rfl)))
/-- A store, alone. -/
theorem reg_store {i : Nat} {oi : Oper} (_ho : o[k]? = some i) (hi : ops[i]? = some oi) (hN : oi.dst = none) (hc : (readyT (rtab .any ops).2 (dn o k n).toList == [i] && (dn o k n).toList.set i true == (dn o (k + 1) n).toList) = true)
    (hw : Region.wanted oi (yielded ops a.tmps) = true) (hrun : (execOp a.eval oi).run P w = .ok .skip w1) (hS : S w1) (h : S w1 → wpAnyLast P .any ops Q S [] fuel (dn o (k + 1) n) a w1) : wpAnyLast P .any ops Q S [] (fuel + 1) (dn o k n) a w := by
  refine one_ (dn o (k + 1) n) hi hN (one_of rfl hc) (by simp) (fun K hK => ?_)
  rw [if_pos hw]
  unfold Oper.wp
  rw [hrun, Oper.upon_skip, hN]
  exact hK.out _ _ hS h
/-- A call, and an operation that makes memory, in either order. -/
theorem reg_two (o1 o2 : List Nat) {i j : Nat} {Ni Nj : Tmp} {oi oj : Oper} {f : FuncId} {fn : Func} {ars : Array Operand} {ts : Array TypeId} {v : Value} (_h1 : o1[k]? = some i) (_h2 : o2[k]? = some j) (hi : ops[i]? = some oi) (hj : ops[j]? = some oj) (hNi : oi.dst = some Ni) (hNj : oj.dst = some Nj)
    (hc : (readyT (rtab .any ops).2 (dn o k n).toList == [i, j] && (dn o k n).toList.set i true == (dn o1 (k + 1) n).toList && (dn o k n).toList.set j true == (dn o2 (k + 1) n).toList) = true)
    (hwi : Region.wanted oi (yielded ops a.tmps) = true) (hwj : Region.wanted oj (yielded ops a.tmps) = true)
    (hf : P.funcs[f]? = some fn) (hname : (fn.name == "runtime.NumGoroutine") = false) (hb : fn.body.isSome = true) (args : Array Value) (hop : oi.op = .call { callee := .value (.func f), args := ars, argTypes := ts }) (hargs : ars.map a.eval = args)
    (hrun : (execOp a.eval oj).run P w = .ok (.value v) w1) (hS1 : S w1)
    (h1 : Calls P f args w fun e w' => ∃ v, e = .returned v ∧ S w' ∧ (S w' → ∀ a', a.put (some Ni) v = a' → wpAnyLast P .any ops Q S [] fuel (dn o1 (k + 1) n) a' w'))
    (h2 : S w1 → ∀ a', a.put (some Nj) v = a' → wpAnyLast P .any ops Q S [] fuel (dn o2 (k + 1) n) a' w1) : wpAnyLast P .any ops Q S [] (fuel + 1) (dn o k n) a w := by
  refine two_ (dn o1 (k + 1) n) (dn o2 (k + 1) n) hi hj hNi hNj (two_of rfl hc) (by simp) (by simp) (fun K hK => goes_ hf hname hb args hwi hNi hop hargs (h1.mono fun e w' hh => ?_)) (fun K hK => wp_value hNj hwj hrun (hK.out _ _ hS1 (fun hs => h2 hs _ rfl)))
  obtain ⟨v, he, hS, hk⟩ := hh
  exact ⟨v, he, hK.out _ _ hS (fun h => hk h _ rfl)⟩
end
end Go.Proofs.YtcoaehhoiaijoaaW.PrintLast
