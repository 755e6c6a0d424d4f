/- A region that draws its order, walked by hand in the order of its text: which operations have come up is a number. -/
import Derived.Test.YtjllahglfpbemaaDoorWLast
import Derived.Test.YtjllahglfpbemaaDoorWTab
namespace Go.Proofs.YtjllahglfpbemaaDoorW.PrintLast
open Go.RowKit Go.Proofs.YtjllahglfpbemaaDoorW.PrintWords
/-- Of n operations, ordered so, the first k have come up. -/
def dn (o : List Nat) (k n : Nat) : Array Bool := ((o.take k).foldl (fun l i => l.set i true) (List.replicate n false)).toArray
theorem dn_zero (o : List Nat) (n : Nat) : Array.replicate n false = dn o 0 n := by simp [dn]
/-- A byte of a string, under a name. -/
theorem byte_at (s : ByteArray) (i : Nat) (h : i < s.size) : ∃ v : Int, bt s (i : Int) = v ∧ 0 ≤ v ∧ v ≤ 255 ∧ wrap64 v = v ∧ IntKind.i64.wrap v = v ∧ ((s[i]'h).toNat : Int) = v := by
  have hb := bt_range s (i : Int)
  refine ⟨_, rfl, hb.1, hb.2, ?_, ?_, bt_at s (i : Int) (by simpa using h)⟩
  · unfold wrap64; omega
  · rw [IntKind.wrap_i64]; omega
section
variable {P : Program} {ops : Array Oper} {Q : Exit → Act → World → Prop} {S : World → Prop} {o : List Nat} {n fuel k : Nat} {a : Act} {w : World}
theorem reg_start (o : List Nat) (n : Nat) (S : World → Prop) {id : Nat} (hm : P.follows .mixedOrders = true) (hn : ops.size = n) (hS : S w.drew) (h : S w.drew → wpAnyLast P .any ops Q S [] n (dn o 0 n) a w.drew) : (Code.region id ops true).wp P Q a w :=
  start_ (dn o 0 n) hm hn (dn_zero o n) hS h
/-- An operation that only reckons. -/
theorem reg_pure {i : Nat} {N : Tmp} {oi : Oper} {v : Value} (_ho : o[k]? = some i) (hi : ops[i]? = some oi) (hN : oi.dst = some N) (hc : anyT (rtab .any ops) (dn o k n).toList (dn o (k + 1) n).toList i = true)
    (hQ : ∀ c a w, Q (.panic c) (a.put oi.dst v) w → Q (.panic c) a w) (hw : Region.wanted oi (yielded ops a.tmps) = true) (hy : ∀ w, (execOp a.eval oi).run P w = .ok (.value v) w) {a' : Act} (ha : a.put (some N) v = a')
    (h : wpAnyLast P .any ops Q S [] fuel (dn o (k + 1) n) a' w) : wpAnyLast P .any ops Q S [] (fuel + 1) (dn o k n) a w :=
  pure_ (dn o (k + 1) n) hi hN (any_of rfl hc) hQ (Or.inl ⟨hw, hy⟩) ha h
/-- An operation whose guard is not met. -/
theorem reg_skip {i : Nat} {N : Tmp} {oi : Oper} (_ho : o[k]? = some i) (hi : ops[i]? = some oi) (hN : oi.dst = some N) (hw : Region.wanted oi (yielded ops a.tmps) = false) (hc : anyT (rtab .any ops) (dn o k n).toList (dn o (k + 1) n).toList i = true)
    (hQ : ∀ c a w, Q (.panic c) (a.put oi.dst undef) w → Q (.panic c) a w) {a' : Act} (ha : a.put (some N) undef = a')
    (h : wpAnyLast P .any ops Q S [] fuel (dn o (k + 1) n) a' w) : wpAnyLast P .any ops Q S [] (fuel + 1) (dn o k n) a w :=
  pure_ (dn o (k + 1) n) hi hN (any_of rfl hc) hQ (Or.inr ⟨hw, rfl⟩) ha h
/-- A load of what is held. -/
theorem reg_load {i : Nat} {N : Tmp} {oi : Oper} {v : Value} (_ho : o[k]? = some i) (hi : ops[i]? = some oi) (hN : oi.dst = some N) (hc : takeT (rtab .any ops) [] (dn o k n).toList (dn o (k + 1) n).toList i = true)
    (hQ : ∀ c a w, Q (.panic c) (a.put oi.dst v) w → Q (.panic c) a w) (hw : Region.wanted oi (yielded ops a.tmps) = true) (hy : ∀ w, S w → (execOp a.eval oi).run P w = .ok (.value v) w) (hS : S w) {a' : Act} (ha : a.put (some N) v = a')
    (h : S w → wpAnyLast P .any ops Q S [] fuel (dn o (k + 1) n) a' w) : wpAnyLast P .any ops Q S [] (fuel + 1) (dn o k n) a w :=
  take_ (dn o (k + 1) n) hi hN (take_of rfl hc) hQ (Or.inl ⟨hw, hy⟩) hS ha (h hS)
/-- A call of a Go function, by its contract. -/
theorem reg_call {i : Nat} {N : Tmp} {oi : Oper} {f : FuncId} {fn : Func} {ars : Array Operand} {ts : Array TypeId} (_ho : o[k]? = some i) (hi : ops[i]? = some oi) (hN : oi.dst = some N) (hc : (readyT (rtab .any ops).2 (dn o k n).toList == [i] && (dn o k n).toList.set i true == (dn o (k + 1) n).toList) = true)
    (hw : Region.wanted oi (yielded ops a.tmps) = true) (hf : P.funcs[f]? = some fn) (hname : (fn.name == "runtime.NumGoroutine") = false) (hb : fn.body.isSome = true) (args : Array Value) (hop : oi.op = .call { callee := .value (.func f), args := ars, argTypes := ts }) (hargs : ars.map a.eval = args)
    (h : Calls P f args w fun e w' => ∃ v, e = .returned v ∧ S w' ∧ (S w' → ∀ a', a.put (some N) v = a' → wpAnyLast P .any ops Q S [] fuel (dn o (k + 1) n) a' w')) : wpAnyLast P .any ops Q S [] (fuel + 1) (dn o k n) a w := by
  refine one_ (dn o (k + 1) n) hi hN (one_of rfl hc) (by simp) (fun K hK => goes_ hf hname hb args hw hN hop hargs (h.mono fun e w' hh => ?_))
  obtain ⟨v, he, hS, hk⟩ := hh
  exact ⟨v, he, hK.out _ _ hS (fun h => hk h _ rfl)⟩
theorem reg_done (h0 : (readyT (rtab .any ops).2 (dn o n n).toList == []) = true) (h : Q .normal a w) : wpAnyLast P .any ops Q S [] fuel (dn o n n) a w :=
  done_ (done_of rfl h0) h
end
end Go.Proofs.YtjllahglfpbemaaDoorW.PrintLast
