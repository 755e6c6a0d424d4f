/- A region that draws its order, whose last store writes what its own loads read: walked by hand in one order. -/
import Derived.Test.YtjllahglfpbemaaDoorEff
namespace Go.Proofs.YtjllahglfpbemaaDoorW.PrintLast
open Go.RowKit Go.Proofs.YtjllahglfpbemaaDoorW.PrintWords
section
variable {P : Program} {ops : Array Oper} {Q : Exit → Act → World → Prop} {S : World → Prop} {o ds : List Nat} {n fuel k : Nat} {a : Act} {w w1 : World}
theorem regd_start (ds o : List Nat) (n : Nat) (S : World → Prop) {id : Nat} (hm : P.follows .mixedOrders = true) (hn : ops.size = n) (hS : S w.drew) (h : S w.drew → wpAnyLast P .any ops Q S ds n (dn o 0 n) a w.drew) : (Code.region id ops true).wp P Q a w :=
  start_ (dn o 0 n) hm hn (dn_zero o n) hS h
theorem regd_pure {i : Nat} {N : Tmp} {oi : Oper} {v : Value} (_ho : o[k]? = some i) (hi : ops[i]? = some oi) (hN : oi.dst = some N) (hc : anyT (rtab .any ops) (dn o k n).toList (dn o (k + 1) n).toList i = true)
    (hQ : ∀ c a w, Q (.panic c) (a.put oi.dst v) w → Q (.panic c) a w) (hw : Region.wanted oi (yielded ops a.tmps) = true) (hy : ∀ w, (execOp a.eval oi).run P w = .ok (.value v) w) {a' : Act} (ha : a.put (some N) v = a')
    (h : wpAnyLast P .any ops Q S ds fuel (dn o (k + 1) n) a' w) : wpAnyLast P .any ops Q S ds (fuel + 1) (dn o k n) a w :=
  pure_ (dn o (k + 1) n) hi hN (any_of rfl hc) hQ (Or.inl ⟨hw, hy⟩) ha h
theorem regd_skip {i : Nat} {N : Tmp} {oi : Oper} (_ho : o[k]? = some i) (hi : ops[i]? = some oi) (hN : oi.dst = some N) (hw : Region.wanted oi (yielded ops a.tmps) = false) (hc : anyT (rtab .any ops) (dn o k n).toList (dn o (k + 1) n).toList i = true)
    (hQ : ∀ c a w, Q (.panic c) (a.put oi.dst undef) w → Q (.panic c) a w) {a' : Act} (ha : a.put (some N) undef = a')
    (h : wpAnyLast P .any ops Q S ds fuel (dn o (k + 1) n) a' w) : wpAnyLast P .any ops Q S ds (fuel + 1) (dn o k n) a w :=
  pure_ (dn o (k + 1) n) hi hN (any_of rfl hc) hQ (Or.inr ⟨hw, rfl⟩) ha h
theorem regd_load {i : Nat} {N : Tmp} {oi : Oper} {v : Value} (_ho : o[k]? = some i) (hi : ops[i]? = some oi) (hN : oi.dst = some N) (hc : takeT (rtab .any ops) ds (dn o k n).toList (dn o (k + 1) n).toList i = true)
    (hQ : ∀ c a w, Q (.panic c) (a.put oi.dst v) w → Q (.panic c) a w) (hw : Region.wanted oi (yielded ops a.tmps) = true) (hy : ∀ w, S w → (execOp a.eval oi).run P w = .ok (.value v) w) (hS : S w) {a' : Act} (ha : a.put (some N) v = a')
    (h : S w → wpAnyLast P .any ops Q S ds fuel (dn o (k + 1) n) a' w) : wpAnyLast P .any ops Q S ds (fuel + 1) (dn o k n) a w :=
  take_ (dn o (k + 1) n) hi hN (take_of rfl hc) hQ (Or.inl ⟨hw, hy⟩) hS ha (h hS)
/-- The last store. -/
theorem regd_store {i : Nat} {oi : Oper} (_ho : o[k]? = some i) (hi : ops[i]? = some oi) (hN : oi.dst = none) (hc : (readyT (rtab .any ops).2 (dn o k n).toList == [i] && (dn o k n).toList.set i true == (dn o (k + 1) n).toList) = true) (hd : i ∈ ds)
    (hw : Region.wanted oi (yielded ops a.tmps) = true) (hrun : (execOp a.eval oi).run P w = .ok .skip w1) (h : wpAnyLast P .any ops Q S ds fuel (dn o (k + 1) n) a w1) : wpAnyLast P .any ops Q S ds (fuel + 1) (dn o k n) a w := by
  refine last_ (dn o (k + 1) n) hi hN (one_of rfl hc) hd (fun K hK => ?_)
  rw [if_pos hw]
  unfold Oper.wp
  rw [hrun, Oper.upon_skip, hN]
  exact hK _ _ h
/-- An operation alone, in the world at hand. -/
theorem regd_run {i : Nat} {N : Tmp} {oi : Oper} {v : Value} (_ho : o[k]? = some i) (hi : ops[i]? = some oi) (hN : oi.dst = some N) (hc : (readyT (rtab .any ops).2 (dn o k n).toList == [i] && (dn o k n).toList.set i true == (dn o (k + 1) n).toList) = true) (hd : i ∉ ds)
    (hw : Region.wanted oi (yielded ops a.tmps) = true) (hrun : (execOp a.eval oi).run P w = .ok (.value v) w1) (hS : S w1) (h : S w1 → ∀ a', a.put (some N) v = a' → wpAnyLast P .any ops Q S ds fuel (dn o (k + 1) n) a' w1) : wpAnyLast P .any ops Q S ds (fuel + 1) (dn o k n) a w :=
  one_ (dn o (k + 1) n) hi hN (one_of rfl hc) hd (fun _ hK => wp_value hN hw hrun (hK.out _ _ hS (fun hs => h hs _ rfl)))
/-- A store, alone, that keeps what the loads need. -/
theorem regd_keep {i : Nat} {oi : Oper} (_ho : o[k]? = some i) (hi : ops[i]? = some oi) (hN : oi.dst = none) (hc : (readyT (rtab .any ops).2 (dn o k n).toList == [i] && (dn o k n).toList.set i true == (dn o (k + 1) n).toList) = true) (hd : i ∉ ds)
    (hw : Region.wanted oi (yielded ops a.tmps) = true) (hrun : (execOp a.eval oi).run P w = .ok .skip w1) (hS : S w1) (h : S w1 → wpAnyLast P .any ops Q S ds fuel (dn o (k + 1) n) a w1) : wpAnyLast P .any ops Q S ds (fuel + 1) (dn o k n) a w := by
  refine one_ (dn o (k + 1) n) hi hN (one_of rfl hc) hd (fun K hK => ?_)
  rw [if_pos hw]
  unfold Oper.wp
  rw [hrun, Oper.upon_skip, hN]
  exact hK.out _ _ hS h
theorem regd_done (h0 : (readyT (rtab .any ops).2 (dn o n n).toList == []) = true) (h : Q .normal a w) : wpAnyLast P .any ops Q S ds fuel (dn o n n) a w :=
  done_ (done_of rfl h0) h
end
end Go.Proofs.YtjllahglfpbemaaDoorW.PrintLast
