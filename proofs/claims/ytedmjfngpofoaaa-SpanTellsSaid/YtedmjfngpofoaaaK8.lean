/- Texts of this claim, put together (wip/pack.py): SpanSort, RegD. -/
import Derived.Test.YtedmjfngpofoaaaK7
import Derived.Lib.OwnBridge
import Derived.Test.YtedmjfngpofoaaaK3
namespace Go.Proofs.Ytedmjfngpofoaaa.PSpanTells
open Go Go.RowKit Go.Proofs.YtedmjfngpofoaaaW.PrintWords Go.Proofs.YtedmjfngpofoaaaW.PrintLast Go.Proofs.Ytedmjfngpofoaaa.Spans
set_option maxHeartbeats 2000000
set_option maxRecDepth 100000
set_option linter.unusedVariables false
set_option linter.unusedSimpArgs false
instance : Inhabited R := ⟨z26⟩
def encR (x : R) : List Value := [.int .i64 x.f0, .int .i64 x.f1]
def cfR (x y : R) : Int := if x.f0 < y.f0 then -1 else if y.f0 < x.f0 then 1 else 0
theorem ltR (x y : R) : ltOf cfR x y = decide (x.f0 < y.f0) := by
  unfold ltOf cfR
  by_cases h1 : x.f0 < y.f0
  · simp [h1]
  · by_cases h2 : y.f0 < x.f0 <;> simp [h1, h2]
theorem swoR : Sort.SWO (ltOf cfR) where
  irrefl x := by rw [ltR]; simp
  trans x y z h1 h2 := by rw [ltR] at *; simp at *; omega
  ntrans x y z h1 h2 := by rw [ltR] at *; simp at *; omega
theorem closure2 (x y : R) (W : World) : Calls Try.prog 38 #[.agg #[.int .i64 x.f0, .int .i64 x.f1], .agg #[.int .i64 y.f0, .int .i64 y.f1]] W fun e w' => e = .returned (.int .i64 (cfR x y)) ∧ ∃ q os', w' = Sort.grow (W.drewN q) os' := by
  obtain ⟨x0, x1⟩ := x
  obtain ⟨y0, y1⟩ := y
  unfold cfR
  simp only
  have hW : ∀ o1 o2 : Obj, (W.alloc o1).alloc o2 = Sort.grow (W.drewN 0) #[o1, o2] := fun o1 o2 => by
    rw [Sort.alloc_eq_grow, Sort.alloc_eq_grow, Sort.grow_grow]; rfl
  have HW := Aside0.mk hW
  clear hW
  by_cases h1 : x0 < y0
  · rw [if_pos h1]
    go_enter Try.func38, Try.ntmps38
    go_wp2
    go_ret
    exact ⟨rfl, 0, _, HW.out _ _⟩
  · rw [if_neg h1]
    by_cases h2 : y0 < x0
    · rw [if_pos h2]
      go_enter Try.func38, Try.ntmps38
      go_wp2
      go_ret
      exact ⟨rfl, 0, _, HW.out _ _⟩
    · rw [if_neg h2]
      go_enter Try.func38, Try.ntmps38
      go_wp2
      go_ret
      exact ⟨rfl, 0, _, HW.out _ _⟩
theorem get_bang (l : List R) (i : Nat) (h : i < l.length) : l.toArray[i]! = l[i] := by
  rw [getElem!_pos l.toArray i (by simpa using h)]; simp
theorem holds_of {w : World} {g : Nat} {l : List R} {rest : List Value} (h : Own w g l rest) : Sort.HoldsK encR 2 w g 0 l.toArray := by
  intro j hj
  rw [Sort.size_flatK] at hj
  have hj' : j < l.length * 2 := by simpa using hj
  rw [Nat.zero_add, Sort.get_flatK _ _ _ _ hj, get_bang l (j / 2) (by omega)]
  refine ⟨?_, h.frozen j⟩
  have hk : j % 2 = 0 ∨ j % 2 = 1 := by omega
  rcases hk with hk | hk
  · have := h.get0 (j / 2) (by omega)
    rw [show j / 2 * 2 = j from by omega] at this
    rw [this, hk]; rfl
  · have := h.get1 (j / 2) (by omega)
    rw [show j / 2 * 2 + 1 = j from by omega] at this
    rw [this, hk]; rfl
theorem holds_C {w : World} {g : Nat} {d : Array R} (h : Sort.HoldsK encR 2 w g 0 d) (hl : d.size ≤ 1099511627776) : Kd.C k26 w (some ⟨g, 0, none⟩) d.size d.toList := by
  refine ⟨by simp, by omega, fun _ => ⟨_, rfl, fun j p hp => ?_⟩⟩
  obtain ⟨hj, rfl⟩ := List.getElem?_eq_some_iff.1 hp
  have hj' : j < d.size := by simpa using hj
  refine ⟨_, rfl, k26_mk _ _, fun i u hu => ?_⟩
  have ha : (⟨g, 0, none⟩ : Addr).add (j * 2 + i) = ⟨g, j * 2 + i, none⟩ := by
    unfold Addr.add
    split
    · rename_i e; simp only [e]
    · simp
  show w.cell? ((⟨g, 0, none⟩ : Addr).add (j * 2 + i)) = some u
  rw [ha]
  have hi : i < 2 := by
    match i, hu with
    | 0, _ => omega
    | 1, _ => omega
    | i + 2, hu => simp at hu
  have h1 := (h (j * 2 + i) (by rw [Sort.size_flatK]; omega)).1
  rw [Nat.zero_add, Sort.get_flatK _ _ _ _ (by omega), show (j * 2 + i) / 2 = j from by omega, show (j * 2 + i) % 2 = i from by omega, getElem!_pos d j hj'] at h1
  rw [h1]
  match i, hu with
  | 0, hu => simpa [encR] using hu
  | 1, hu => simpa [encR] using hu
theorem below_sort {g : Nat} {w : World} (hg : g < w.heap.size) (n : Nat) (d : Array R) (os : Array Obj) (base : Nat) (hb : base ≤ g) : Below base w (sortWorldK encR 2 w g 0 n d os) := by
  have h1 : Below base w (Sort.putRow id (Sort.ahead w n) g 0 (Sort.flatK encR 2 d)) := Lib.below_putRow (Below.refl base w) hb
  unfold sortWorldK Sort.putRowK
  refine h1.trans ⟨rfl, rfl, rfl, by simp [Sort.grow], fun k hk => ?_⟩
  show (_ ++ os)[k]? = _
  rw [Array.getElem?_append_left (by rw [Sort.size_putRow]; exact Nat.lt_trans (Nat.lt_of_lt_of_le hk hb) hg)]
/-- Sorted by the lower ends. -/
theorem SortFuncR (g cap : Nat) (l : List R) (rest : List Value) (w : World) (hO : Own w g l rest) (hm : l.length ≤ 1099511627776) :
    Calls Try.prog 37 #[.slice (some ⟨g, 0, none⟩) l.length cap, .func (.func 38) #[] #[]] w fun e w' =>
      e = .returned (.tuple #[]) ∧ ∃ s : List R, s.length = l.length ∧ s.Perm l ∧ s.Pairwise (fun a b => a.f0 ≤ b.f0) ∧ Kd.C k26 w' (some ⟨g, 0, none⟩) s.length s ∧ ∀ base, base ≤ g → Below base w w' := by
  have eg : ∀ args w, (callFunc 38 args).run Try.prog w = .ok (.enter 38 args) w := fun args w => enters_ Try.func38 (by kernel_rfl) rfl args w
  have hcon := AnyQ.slices_SortFunc Try.sortR 2 Try.isAgg26 Try.sizeOf26 encR (fun _ => rfl) (fun x v hv => by simp [encR] at hv; rcases hv with rfl | rfl <;> rfl) cfR swoR 38 #[] g 0 cap l.toArray w eg (fun _ _ _ _ x y => closure2 x y _) (holds_of hO) hO.lt (by simp; omega)
  have hsz : l.toArray.size = l.length := by simp
  rw [hsz] at hcon
  refine hcon.mono ?_
  rintro e w' ⟨he, d, n, os, hp, hs, rfl⟩
  have hd : d.size = l.length := by rw [hp.1]; simp
  have hperm : d.toList.Perm l := by
    have h := hp.2.2
    rw [Array.extract_eq_self_of_le (by omega), Array.extract_eq_self_of_le (by simp)] at h
    simpa using h
  have hH := holdsK_sortWorldK_c encR 2 w g 0 l.toArray d n os (holds_of hO) hO.lt (by rw [hd]; simp)
  have hC := holds_C hH (by omega)
  refine ⟨he, d.toList, by simpa using hd, hperm, ?_, by simpa using hC, fun base hb => below_sort hO.lt n d os base hb⟩
  rw [List.pairwise_iff_getElem]
  intro i j hi hj hij
  have h := hs i j (Nat.zero_le _) hij (by simpa [hd] using hj)
  rw [ltR, getElem!_pos d i (by simpa using hi), getElem!_pos d j (by simpa using hj)] at h
  simpa using h
end Go.Proofs.Ytedmjfngpofoaaa.PSpanTells
namespace Go.Proofs.YtedmjfngpofoaaaW.PrintLast
open Go.RowKit Go.Proofs.YtedmjfngpofoaaaW.PrintWords
section
variable {P : Program} {ops : Array Oper} {Q : Exit → Act → World → Prop} {S : World → Prop} {o ds : List Nat} {n fuel k : Nat} {a : Act} {w w1 : World}
theorem regd_start (ds o : List Nat) (n : Nat) (S : World → Prop) {id : Nat} (hm : P.follows .mixedOrders = true) (hn : ops.size = n) (hS : S w.drew) (h : S w.drew → wpAnyLast P .any ops Q S ds n (dn o 0 n) a w.drew) : (Code.region id ops true).wp P Q a w :=
  start_ (dn o 0 n) hm hn (dn_zero o n) hS h
theorem regd_pure {i : Nat} {N : Tmp} {oi : Oper} {v : Value} (_ho : o[k]? = some i) (hi : ops[i]? = some oi) (hN : oi.dst = some N) (hc : anyT (rtab .any ops) (dn o k n).toList (dn o (k + 1) n).toList i = true)
    (hQ : ∀ c a w, Q (.panic c) (a.put oi.dst v) w → Q (.panic c) a w) (hw : Region.wanted oi (yielded ops a.tmps) = true) (hy : ∀ w, (execOp a.eval oi).run P w = .ok (.value v) w) {a' : Act} (ha : a.put (some N) v = a')
    (h : wpAnyLast P .any ops Q S ds fuel (dn o (k + 1) n) a' w) : wpAnyLast P .any ops Q S ds (fuel + 1) (dn o k n) a w :=
  pure_ (dn o (k + 1) n) hi hN (any_of rfl hc) hQ (Or.inl ⟨hw, hy⟩) ha h
theorem regd_skip {i : Nat} {N : Tmp} {oi : Oper} (_ho : o[k]? = some i) (hi : ops[i]? = some oi) (hN : oi.dst = some N) (hw : Region.wanted oi (yielded ops a.tmps) = false) (hc : anyT (rtab .any ops) (dn o k n).toList (dn o (k + 1) n).toList i = true)
    (hQ : ∀ c a w, Q (.panic c) (a.put oi.dst undef) w → Q (.panic c) a w) {a' : Act} (ha : a.put (some N) undef = a')
    (h : wpAnyLast P .any ops Q S ds fuel (dn o (k + 1) n) a' w) : wpAnyLast P .any ops Q S ds (fuel + 1) (dn o k n) a w :=
  pure_ (dn o (k + 1) n) hi hN (any_of rfl hc) hQ (Or.inr ⟨hw, rfl⟩) ha h
theorem regd_load {i : Nat} {N : Tmp} {oi : Oper} {v : Value} (_ho : o[k]? = some i) (hi : ops[i]? = some oi) (hN : oi.dst = some N) (hc : takeT (rtab .any ops) ds (dn o k n).toList (dn o (k + 1) n).toList i = true)
    (hQ : ∀ c a w, Q (.panic c) (a.put oi.dst v) w → Q (.panic c) a w) (hw : Region.wanted oi (yielded ops a.tmps) = true) (hy : ∀ w, S w → (execOp a.eval oi).run P w = .ok (.value v) w) (hS : S w) {a' : Act} (ha : a.put (some N) v = a')
    (h : S w → wpAnyLast P .any ops Q S ds fuel (dn o (k + 1) n) a' w) : wpAnyLast P .any ops Q S ds (fuel + 1) (dn o k n) a w :=
  take_ (dn o (k + 1) n) hi hN (take_of rfl hc) hQ (Or.inl ⟨hw, hy⟩) hS ha (h hS)
/-- The last store. -/
theorem regd_store {i : Nat} {oi : Oper} (_ho : o[k]? = some i) (hi : ops[i]? = some oi) (hN : oi.dst = none) (hc : (readyT (rtab .any ops).2 (dn o k n).toList == [i] && (dn o k n).toList.set i true == (dn o (k + 1) n).toList) = true) (hd : i ∈ ds)
    (hw : Region.wanted oi (yielded ops a.tmps) = true) (hrun : (execOp a.eval oi).run P w = .ok .skip w1) (h : wpAnyLast P .any ops Q S ds fuel (dn o (k + 1) n) a w1) : wpAnyLast P .any ops Q S ds (fuel + 1) (dn o k n) a w := by
  refine last_ (dn o (k + 1) n) hi hN (one_of rfl hc) hd (fun K hK => ?_)
  rw [if_pos hw]
  unfold Oper.wp
  rw [hrun, Oper.upon_skip, hN]
  exact hK _ _ h
/-- An operation alone, in the world at hand. -/
theorem regd_run {i : Nat} {N : Tmp} {oi : Oper} {v : Value} (_ho : o[k]? = some i) (hi : ops[i]? = some oi) (hN : oi.dst = some N) (hc : (readyT (rtab .any ops).2 (dn o k n).toList == [i] && (dn o k n).toList.set i true == (dn o (k + 1) n).toList) = true) (hd : i ∉ ds)
    (hw : Region.wanted oi (yielded ops a.tmps) = true) (hrun : (execOp a.eval oi).run P w = .ok (.value v) w1) (hS : S w1) (h : S w1 → ∀ a', a.put (some N) v = a' → wpAnyLast P .any ops Q S ds fuel (dn o (k + 1) n) a' w1) : wpAnyLast P .any ops Q S ds (fuel + 1) (dn o k n) a w :=
  one_ (dn o (k + 1) n) hi hN (one_of rfl hc) hd (fun _ hK => wp_value hN hw hrun (hK.out _ _ hS (fun hs => h hs _ rfl)))
/-- A store, alone, that keeps what the loads need. -/
theorem regd_keep {i : Nat} {oi : Oper} (_ho : o[k]? = some i) (hi : ops[i]? = some oi) (hN : oi.dst = none) (hc : (readyT (rtab .any ops).2 (dn o k n).toList == [i] && (dn o k n).toList.set i true == (dn o (k + 1) n).toList) = true) (hd : i ∉ ds)
    (hw : Region.wanted oi (yielded ops a.tmps) = true) (hrun : (execOp a.eval oi).run P w = .ok .skip w1) (hS : S w1) (h : S w1 → wpAnyLast P .any ops Q S ds fuel (dn o (k + 1) n) a w1) : wpAnyLast P .any ops Q S ds (fuel + 1) (dn o k n) a w := by
  refine one_ (dn o (k + 1) n) hi hN (one_of rfl hc) hd (fun K hK => ?_)
  rw [if_pos hw]
  unfold Oper.wp
  rw [hrun, Oper.upon_skip, hN]
  exact hK.out _ _ hS h
theorem regd_done (h0 : (readyT (rtab .any ops).2 (dn o n n).toList == []) = true) (h : Q .normal a w) : wpAnyLast P .any ops Q S ds fuel (dn o n n) a w :=
  done_ (done_of rfl h0) h
end
end Go.Proofs.YtedmjfngpofoaaaW.PrintLast
