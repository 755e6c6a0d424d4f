/- A region that draws its order, walked by hand: an operation that makes or writes memory; a call and another that may come up in either order. -/
import Derived.Test.YtjllahglfpbemaaDoorReg
namespace Go.Proofs.YtjllahglfpbemaaDoorW.PrintLast
open Go.RowKit Go.Proofs.YtjllahglfpbemaaDoorW.PrintWords
section
variable {P : Program} {ops : Array Oper} {Q : Exit → Act → World → Prop} {S : World → Prop} {o : List Nat} {n fuel k : Nat} {a : Act} {w w1 : World}
theorem wp_value {oi : Oper} {N : Tmp} {v : Value} {K : Act → World → Prop} (hN : oi.dst = some N) (hw : Region.wanted oi (yielded ops a.tmps) = true) (hrun : (execOp a.eval oi).run P w = .ok (.value v) w1) (h : K (a.put (some N) v) w1) : if Region.wanted oi (yielded ops a.tmps) = true then Oper.wp P oi a w K Q else K (a.put (some N) undef) w := by
  rw [if_pos hw]
  unfold Oper.wp
  rw [hrun, Oper.upon_value, hN]
  exact h
/-- An operation that makes memory, alone. -/
theorem reg_run {i : Nat} {N : Tmp} {oi : Oper} {v : Value} (_ho : o[k]? = some i) (hi : ops[i]? = some oi) (hN : oi.dst = some N) (hc : (readyT (rtab .any ops).2 (dn o k n).toList == [i] && (dn o k n).toList.set i true == (dn o (k + 1) n).toList) = true)
    (hw : Region.wanted oi (yielded ops a.tmps) = true) (hrun : (execOp a.eval oi).run P w = .ok (.value v) w1) (hS : S w1) (h : S w1 → ∀ a', a.put (some N) v = a' → wpAnyLast P .any ops Q S [] fuel (dn o (k + 1) n) a' w1) : wpAnyLast P .any ops Q S [] (fuel + 1) (dn o k n) a w :=
  one_ (dn o (k + 1) n) hi hN (one_of rfl hc) (by simp) (fun _ hK => wp_value hN hw hrun (hK.out _ _ hS (fun hs => h hs _ rfl)))
/-- A store, alone. -/
theorem reg_store {i : Nat} {oi : Oper} (_ho : o[k]? = some i) (hi : ops[i]? = some oi) (hN : oi.dst = none) (hc : (readyT (rtab .any ops).2 (dn o k n).toList == [i] && (dn o k n).toList.set i true == (dn o (k + 1) n).toList) = true)
    (hw : Region.wanted oi (yielded ops a.tmps) = true) (hrun : (execOp a.eval oi).run P w = .ok .skip w1) (hS : S w1) (h : S w1 → wpAnyLast P .any ops Q S [] fuel (dn o (k + 1) n) a w1) : wpAnyLast P .any ops Q S [] (fuel + 1) (dn o k n) a w := by
  refine one_ (dn o (k + 1) n) hi hN (one_of rfl hc) (by simp) (fun K hK => ?_)
  rw [if_pos hw]
  unfold Oper.wp
  rw [hrun, Oper.upon_skip, hN]
  exact hK.out _ _ hS h
/-- A call, and an operation that makes memory, in either order. -/
theorem reg_two (o1 o2 : List Nat) {i j : Nat} {Ni Nj : Tmp} {oi oj : Oper} {f : FuncId} {fn : Func} {ars : Array Operand} {ts : Array TypeId} {v : Value} (_h1 : o1[k]? = some i) (_h2 : o2[k]? = some j) (hi : ops[i]? = some oi) (hj : ops[j]? = some oj) (hNi : oi.dst = some Ni) (hNj : oj.dst = some Nj)
    (hc : (readyT (rtab .any ops).2 (dn o k n).toList == [i, j] && (dn o k n).toList.set i true == (dn o1 (k + 1) n).toList && (dn o k n).toList.set j true == (dn o2 (k + 1) n).toList) = true)
    (hwi : Region.wanted oi (yielded ops a.tmps) = true) (hwj : Region.wanted oj (yielded ops a.tmps) = true)
    (hf : P.funcs[f]? = some fn) (hname : (fn.name == "runtime.NumGoroutine") = false) (hb : fn.body.isSome = true) (args : Array Value) (hop : oi.op = .call { callee := .value (.func f), args := ars, argTypes := ts }) (hargs : ars.map a.eval = args)
    (hrun : (execOp a.eval oj).run P w = .ok (.value v) w1) (hS1 : S w1)
    (h1 : Calls P f args w fun e w' => ∃ v, e = .returned v ∧ S w' ∧ (S w' → ∀ a', a.put (some Ni) v = a' → wpAnyLast P .any ops Q S [] fuel (dn o1 (k + 1) n) a' w'))
    (h2 : S w1 → ∀ a', a.put (some Nj) v = a' → wpAnyLast P .any ops Q S [] fuel (dn o2 (k + 1) n) a' w1) : wpAnyLast P .any ops Q S [] (fuel + 1) (dn o k n) a w := by
  refine two_ (dn o1 (k + 1) n) (dn o2 (k + 1) n) hi hj hNi hNj (two_of rfl hc) (by simp) (by simp) (fun K hK => goes_ hf hname hb args hwi hNi hop hargs (h1.mono fun e w' hh => ?_)) (fun K hK => wp_value hNj hwj hrun (hK.out _ _ hS1 (fun hs => h2 hs _ rfl)))
  obtain ⟨v, he, hS, hk⟩ := hh
  exact ⟨v, he, hK.out _ _ hS (fun h => hk h _ rfl)⟩
end
end Go.Proofs.YtjllahglfpbemaaDoorW.PrintLast
