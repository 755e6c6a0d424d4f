/- Texts of this claim, put together (wip/pack.py): Reg2, Eff. -/
import Derived.Test.YtppmcbkcohiodaaK0
namespace Go.Proofs.YtppmcbkcohiodaaW.PrintLast
open Go.RowKit Go.Proofs.YtppmcbkcohiodaaW.PrintWords
section
variable {P : Program} {ops : Array Oper} {Q : Exit → Act → World → Prop} {S : World → Prop} {o : List Nat} {n fuel k : Nat} {a : Act} {w w1 : World}
theorem wp_value {oi : Oper} {N : Tmp} {v : Value} {K : Act → World → Prop} (hN : oi.dst = some N) (hw : Region.wanted oi (yielded ops a.tmps) = true) (hrun : (execOp a.eval oi).run P w = .ok (.value v) w1) (h : K (a.put (some N) v) w1) : if Region.wanted oi (yielded ops a.tmps) = true then Oper.wp P oi a w K Q else K (a.put (some N) undef) w := by
  rw [if_pos hw]
  unfold Oper.wp
  rw [hrun, Oper.upon_value, hN]
  exact h
/-- An operation that makes memory, alone. -/
theorem reg_run {i : Nat} {N : Tmp} {oi : Oper} {v : Value} (_ho : o[k]? = some i) (hi : ops[i]? = some oi) (hN : oi.dst = some N) (hc : (readyT (rtab .any ops).2 (dn o k n).toList == [i] && (dn o k n).toList.set i true == (dn o (k + 1) n).toList) = true)
    (hw : Region.wanted oi (yielded ops a.tmps) = true) (hrun : (execOp a.eval oi).run P w = .ok (.value v) w1) (hS : S w1) (h : S w1 → ∀ a', a.put (some N) v = a' → wpAnyLast P .any ops Q S [] fuel (dn o (k + 1) n) a' w1) : wpAnyLast P .any ops Q S [] (fuel + 1) (dn o k n) a w :=
  one_ (dn o (k + 1) n) hi hN (one_of rfl hc) (by simp) (fun _ hK => wp_value hN hw hrun (hK.out _ _ hS (fun hs => h hs _ rfl)))
/-- A store, alone. -/
theorem reg_store {i : Nat} {oi : Oper} (_ho : o[k]? = some i) (hi : ops[i]? = some oi) (hN : oi.dst = none) (hc : (readyT (rtab .any ops).2 (dn o k n).toList == [i] && (dn o k n).toList.set i true == (dn o (k + 1) n).toList) = true)
    (hw : Region.wanted oi (yielded ops a.tmps) = true) (hrun : (execOp a.eval oi).run P w = .ok .skip w1) (hS : S w1) (h : S w1 → wpAnyLast P .any ops Q S [] fuel (dn o (k + 1) n) a w1) : wpAnyLast P .any ops Q S [] (fuel + 1) (dn o k n) a w := by
  refine one_ (dn o (k + 1) n) hi hN (one_of rfl hc) (by simp) (fun K hK => ?_)
  rw [if_pos hw]
  unfold Oper.wp
  rw [hrun, Oper.upon_skip, hN]
  exact hK.out _ _ hS h
/-- A call, and an operation that makes memory, in either order. -/
theorem reg_two (o1 o2 : List Nat) {i j : Nat} {Ni Nj : Tmp} {oi oj : Oper} {f : FuncId} {fn : Func} {ars : Array Operand} {ts : Array TypeId} {v : Value} (_h1 : o1[k]? = some i) (_h2 : o2[k]? = some j) (hi : ops[i]? = some oi) (hj : ops[j]? = some oj) (hNi : oi.dst = some Ni) (hNj : oj.dst = some Nj)
    (hc : (readyT (rtab .any ops).2 (dn o k n).toList == [i, j] && (dn o k n).toList.set i true == (dn o1 (k + 1) n).toList && (dn o k n).toList.set j true == (dn o2 (k + 1) n).toList) = true)
    (hwi : Region.wanted oi (yielded ops a.tmps) = true) (hwj : Region.wanted oj (yielded ops a.tmps) = true)
    (hf : P.funcs[f]? = some fn) (hname : (fn.name == "runtime.NumGoroutine") = false) (hb : fn.body.isSome = true) (args : Array Value) (hop : oi.op = .call { callee := .value (.func f), args := ars, argTypes := ts }) (hargs : ars.map a.eval = args)
    (hrun : (execOp a.eval oj).run P w = .ok (.value v) w1) (hS1 : S w1)
    (h1 : Calls P f args w fun e w' => ∃ v, e = .returned v ∧ S w' ∧ (S w' → ∀ a', a.put (some Ni) v = a' → wpAnyLast P .any ops Q S [] fuel (dn o1 (k + 1) n) a' w'))
    (h2 : S w1 → ∀ a', a.put (some Nj) v = a' → wpAnyLast P .any ops Q S [] fuel (dn o2 (k + 1) n) a' w1) : wpAnyLast P .any ops Q S [] (fuel + 1) (dn o k n) a w := by
  refine two_ (dn o1 (k + 1) n) (dn o2 (k + 1) n) hi hj hNi hNj (two_of rfl hc) (by simp) (by simp) (fun K hK => goes_ hf hname hb args hwi hNi hop hargs (h1.mono fun e w' hh => ?_)) (fun K hK => wp_value hNj hwj hrun (hK.out _ _ hS1 (fun hs => h2 hs _ rfl)))
  obtain ⟨v, he, hS, hk⟩ := hh
  exact ⟨v, he, hK.out _ _ hS (fun h => hk h _ rfl)⟩
end
end Go.Proofs.YtppmcbkcohiodaaW.PrintLast
namespace Go.Proofs.YtppmcbkcohiodaaW.PrintLast
open Go.RowKit Go.Proofs.YtppmcbkcohiodaaW.PrintWords
set_option linter.unusedVariables false
/-- An act that reads as another one, but for what ds hold. -/
def Away (ds : List Nat) (a a' : Act) : Prop := ∀ x : Operand, (∀ t, x = .tmp t → t ∉ ds) → a'.eval x = a.eval x
theorem Away.refl (ds : List Nat) (a : Act) : Away ds a a := fun _ _ => rfl
theorem Away.trans {ds : List Nat} {a b c : Act} (h : Away ds a b) (h' : Away ds b c) : Away ds a c := fun x hx => (h' x hx).trans (h x hx)
theorem Away.put {ds : List Nat} {a : Act} {N : Nat} (hN : N ∈ ds) (v : Value) : Away ds a (a.put (some N) v) := by
  intro x hx
  cases x with
  | tmp t =>
    have hne : N ≠ t := fun e => hx t rfl (e ▸ hN)
    simp only [Act.put, Act.eval, Array.getD_eq_getD_getElem?]
    rw [Array.getElem?_setIfInBounds_ne hne]
  | const v => rfl
  | global g => rfl
  | func f => rfl
def offB (ds : List Nat) : Operand → Bool
  | .tmp t => !ds.contains t
  | _ => true
theorem Away.map {ds : List Nat} {a a' : Act} (h : Away ds a a') {xs : Array Operand} (hx : xs.all (offB ds) = true) : xs.map a'.eval = xs.map a.eval := by
  refine Array.map_congr_left fun x hm => h x ?_
  rintro t rfl
  have := Array.all_eq_true'.1 hx _ hm
  simpa [offB] using this
theorem putc (a : Act) {m n : Nat} (h : m ≠ n) (u v : Value) : (a.put (some m) u).put (some n) v = (a.put (some n) v).put (some m) u := by
  simp only [Act.put]
  congr 1
  exact Array.setIfInBounds_comm _ _ h
section
variable {P : Program} {ops : Array Oper} {Q : Exit → Act → World → Prop} {S : World → Prop} {ds : List Nat}
/-- What an operation does wherever S holds: it fills N with a value of which post tells, and only makes memory, from lo up to hi. -/
def Eff (P : Program) (ops : Array Oper) (Q : Exit → Act → World → Prop) (S : World → Prop) (ds : List Nat) (a : Act) (i N : Nat) (post : Value → Nat → Nat → World → Prop) : Prop :=
  ∃ oi, ops[i]? = some oi ∧ oi.dst = some N ∧ ∀ a', Away ds a a' → ∀ w', S w' → ∀ K : Act → World → Prop, (∀ v w'', Below w'.heap.size w' w'' → post v w'.heap.size w''.heap.size w'' → K (a'.put (some N) v) w'') →
    if Region.wanted oi (yielded ops a'.tmps) = true then Oper.wp P oi a' w' K Q else K (a'.put (some N) undef) w'
theorem Eff.away {a a1 : Act} {i N : Nat} {post : Value → Nat → Nat → World → Prop} (h : Eff P ops Q S ds a i N post) (ha : Away ds a a1) : Eff P ops Q S ds a1 i N post := by
  obtain ⟨oi, h1, h2, h3⟩ := h
  exact ⟨oi, h1, h2, fun a' h' => h3 a' (ha.trans h')⟩
/-- A call. -/
theorem eff_call {a : Act} {i N : Nat} {oi : Oper} {f : FuncId} {fn : Func} {ars : Array Operand} {ts : Array TypeId} {post : Value → Nat → Nat → World → Prop} (hi : ops[i]? = some oi) (hN : oi.dst = some N) (hg : oi.guard = none)
    (hf : P.funcs[f]? = some fn) (hname : (fn.name == "runtime.NumGoroutine") = false) (hb : fn.body.isSome = true) (args : Array Value) (hop : oi.op = .call { callee := .value (.func f), args := ars, argTypes := ts }) (hx : ars.all (offB ds) = true) (hargs : ars.map a.eval = args)
    (h : ∀ w', S w' → Calls P f args w' fun e w'' => ∃ v, e = .returned v ∧ post v w'.heap.size w''.heap.size w'' ∧ Below w'.heap.size w' w'') : Eff P ops Q S ds a i N post := by
  refine ⟨oi, hi, hN, fun a' ha w' hS K hK => goes_ hf hname hb args ?_ hN hop ((ha.map hx).trans hargs) ((h w' hS).mono ?_)⟩
  · unfold Region.wanted; rw [hg]
  · rintro e w'' ⟨v, he, hp, hb⟩
    exact ⟨v, he, hK v w'' hb hp⟩
/-- An operation that makes memory, and reads nothing that the others fill. -/
theorem eff_run {a : Act} {i N : Nat} {oi : Oper} {post : Value → Nat → Nat → World → Prop} (hi : ops[i]? = some oi) (hN : oi.dst = some N) (hg : oi.guard = none)
    (h : ∀ w', S w' → ∃ v w'', (∀ a', Away ds a a' → (execOp a'.eval oi).run P w' = .ok (.value v) w'') ∧ post v w'.heap.size w''.heap.size w'' ∧ Below w'.heap.size w' w'') : Eff P ops Q S ds a i N post := by
  refine ⟨oi, hi, hN, fun a' ha w' hS K hK => ?_⟩
  obtain ⟨v, w'', h1, h2, h3⟩ := h w' hS
  exact value_ (by unfold Region.wanted; rw [hg]) hN (h1 a' ha) (hK v w'' h3 h2)
/-- A block that is made: which one, and what it holds. -/
def Made (n : Nat) (o : Obj) (v : Value) (lo hi : Nat) (w' : World) : Prop := ∃ g, v = .pointer (some ⟨g, 0, none⟩) ∧ n ≤ g ∧ lo ≤ g ∧ g < hi ∧ w'.heap[g]? = some o
theorem Made.keep {n : Nat} {o : Obj} {v : Value} {lo hi : Nat} {w w' : World} (h : Made n o v lo hi w) (hb : Below w.heap.size w w') : Made n o v lo hi w' := by
  obtain ⟨g, h1, h0, h2, h3, h4⟩ := h
  have hlt : g < w.heap.size := by
    by_cases hg : g < w.heap.size
    · exact hg
    · rw [Array.getElem?_eq_none (by omega)] at h4; cases h4
  exact ⟨g, h1, h0, h2, h3, (hb.block g hlt).trans h4⟩
theorem Made.alloc {n : Nat} (w : World) (hn : n ≤ w.heap.size) (o : Obj) : Made n o (.pointer (some ⟨w.heap.size, 0, none⟩)) w.heap.size (w.alloc o).heap.size (w.alloc o) := ⟨_, rfl, hn, Nat.le_refl _, by simp, blk_new w o⟩
/-- An allocation. -/
theorem eff_alloc {a : Act} {i N n : Nat} {oi : Oper} {o : Obj} (hi : ops[i]? = some oi) (hN : oi.dst = some N) (hg : oi.guard = none) (hn : ∀ w', S w' → n ≤ w'.heap.size)
    (h : ∀ (w' : World) (a' : Act), (execOp a'.eval oi).run P w' = .ok (.value (.pointer (some ⟨w'.heap.size, 0, none⟩))) (w'.alloc o)) : Eff P ops Q S ds a i N (Made n o) :=
  eff_run hi hN hg fun w' hS => ⟨_, _, fun a' _ => h w' a', Made.alloc w' (hn w' hS) o, below_alloc (Below.refl _ _) _⟩
def Disj (p q : Nat × Nat) : Prop := p.2 ≤ q.1 ∨ q.2 ≤ p.1
theorem Disj.symm {p q : Nat × Nat} (h : Disj p q) : Disj q p := Or.symm h
/-- What follows, whatever the effects have told. -/
def Cont (S : World → Prop) (G : Act → World → Prop) : List (Nat × Nat × (Value → Nat → Nat → World → Prop)) → Act → List (Nat × Nat) → (World → Prop) → Prop
  | [], a, I, F => ∀ w', S w' → I.Pairwise Disj → F w' → G a w'
  | e :: es, a, I, F => ∀ v lo hi, Cont S G es (a.put (some e.2.1) v) ((lo, hi) :: I) (fun w' => F w' ∧ e.2.2 v lo hi w')
theorem Cont.imp {G : Act → World → Prop} {es : List (Nat × Nat × (Value → Nat → Nat → World → Prop))} : ∀ {a : Act} {I I' : List (Nat × Nat)} {F F' : World → Prop}, I'.Perm I → (∀ w', F' w' → F w') → Cont S G es a I F → Cont S G es a I' F' := by
  induction es with
  | nil => intro a I I' F F' hp h hc w' hS hI hF; exact hc w' hS ((hp.pairwise_iff (fun h => Disj.symm h)).1 hI) (h w' hF)
  | cons e es ih => intro a I I' F F' hp h hc v lo hi; exact ih (hp.cons _) (fun w' hw => ⟨h w' hw.1, hw.2⟩) (hc v lo hi)
theorem Cont.pick {G : Act → World → Prop} {es : List (Nat × Nat × (Value → Nat → Nat → World → Prop))} : ∀ {a : Act} {I : List (Nat × Nat)} {F : World → Prop} {j : Nat} (hj : j < es.length), (es.map fun e => e.2.1).Nodup → Cont S G es a I F → ∀ v lo hi, Cont S G (es.eraseIdx j) (a.put (some es[j].2.1) v) ((lo, hi) :: I) (fun w' => F w' ∧ es[j].2.2 v lo hi w') := by
  induction es with
  | nil => intro a I F j hj; exact absurd hj (Nat.not_lt_zero _)
  | cons e es ih =>
    intro a I F j hj hn hc v lo hi
    cases j with
    | zero => exact hc v lo hi
    | succ j =>
      have hj' : j < es.length := by simpa using hj
      intro u l0 h0
      rw [List.map_cons, List.nodup_cons] at hn
      have h := ih hj' hn.2 (hc u l0 h0) v lo hi
      have hne : e.2.1 ≠ es[j].2.1 := fun he => hn.1 (by rw [he]; exact List.mem_map_of_mem (List.getElem_mem hj'))
      show Cont S G (es.eraseIdx j) ((a.put (some es[j].2.1) v).put (some e.2.1) u) _ _
      rw [← putc _ hne]
      exact Cont.imp (List.Perm.swap _ _ _) (fun w' h => ⟨⟨h.1.1, h.2⟩, h.1.2⟩) h
/-- Whatever comes up, it is one of these; at the end lf has come up. -/
def effB (T : List (List Nat × List Nat)) (lf : List Bool) : Nat → List Bool → List Nat → Bool
  | 0, l, is => is.isEmpty && l == lf
  | f + 1, l, is => !(readyT T l).isEmpty && (readyT T l).all fun i => is.contains i && effB T lf f (l.set i true) (is.erase i)
theorem erase_map {es : List (Nat × Nat × (Value → Nat → Nat → World → Prop))} : ∀ {i : Nat}, i ∈ es.map (·.1) → ∃ (j : Nat) (hj : j < es.length), es[j].1 = i ∧ (es.eraseIdx j).map (·.1) = (es.map (·.1)).erase i := by
  induction es with
  | nil => intro i h; simp at h
  | cons e es ih =>
    intro i h
    by_cases he : e.1 = i
    · exact ⟨0, by simp, he, by simp [he]⟩
    · have h' : i ∈ es.map (·.1) := by
        rw [List.map_cons, List.mem_cons] at h
        exact h.resolve_left (fun e' => he e'.symm)
      obtain ⟨j, hj, h1, h2⟩ := ih h'
      refine ⟨j + 1, by simpa using hj, by simpa using h1, ?_⟩
      rw [List.eraseIdx_cons_succ, List.map_cons, List.map_cons, h2, List.erase_cons_tail (by simpa using he)]
theorem reg_effs_go (hSb : ∀ w w', S w → Below w.heap.size w w' → S w') (fuel : Nat) (lf : Array Bool) : ∀ (n : Nat) (es : List (Nat × Nat × (Value → Nat → Nat → World → Prop))) (l : Array Bool) (a : Act) (w : World) (I : List (Nat × Nat)) (F : World → Prop), es.length = n →
    (∀ e ∈ es, Eff P ops Q S ds a e.1 e.2.1 e.2.2) → (∀ e ∈ es, ∀ v lo hi w w', e.2.2 v lo hi w → Below w.heap.size w w' → e.2.2 v lo hi w') → (es.map fun e => e.2.1).Nodup → (∀ e ∈ es, e.2.1 ∈ ds) →
    effB (rtab .any ops).2 lf.toList n l.toList (es.map (·.1)) = true → Cont S (fun a w => wpAnyLast P .any ops Q S [] fuel lf a w) es a I F → S w → I.Pairwise Disj → (∀ iv ∈ I, iv.2 ≤ w.heap.size) → (∀ w', Below w.heap.size w w' → F w') → wpAnyLast P .any ops Q S [] (fuel + n) l a w := by
  intro n
  induction n with
  | zero =>
    intro es l a w I F hn hE hst hnd hds hB hc hS hI hlt hF
    obtain rfl : es = [] := List.length_eq_zero_iff.1 hn
    simp [effB] at hB
    have : l = lf := by rw [← Array.toArray_toList (xs := l), ← Array.toArray_toList (xs := lf), hB]
    subst this
    exact hc w hS hI (hF w (Below.refl _ _))
  | succ n ih =>
    intro es l a w I F hn hE hst hnd hds hB hc hS hI hlt hF
    simp only [effB, Bool.and_eq_true, List.all_eq_true] at hB
    obtain ⟨hne, hall⟩ := hB
    refine wpAnyLast_all (rs := readyT (rtab .any ops).2 l.toList) ready_eq (by intro h; rw [h] at hne; simp at hne) (fun i hi => ?_)
    obtain ⟨hin, hB'⟩ := hall i hi
    obtain ⟨j, hj, rfl, hm⟩ := erase_map (es := es) (i := i) (by simpa using hin)
    obtain ⟨oi, h1, h2, h3⟩ := hE es[j] (List.getElem_mem hj)
    refine wpOp_step h1 (fun K' hK => ?_)
    rw [h2]
    refine h3 a (Away.refl _ _) w hS K' (fun v w'' hb hp => hK _ _ ⟨fun _ _ => hSb w w'' hS hb, ?_⟩)
    have hsub : ∀ e ∈ es.eraseIdx j, e ∈ es := fun e he => List.mem_of_mem_eraseIdx he
    refine ih (es.eraseIdx j) _ _ w'' ((w.heap.size, w''.heap.size) :: I) (fun w' => F w' ∧ es[j].2.2 v w.heap.size w''.heap.size w') (by rw [List.length_eraseIdx_of_lt hj, hn]; rfl) (fun e he => (hE e (hsub e he)).away (Away.put (hds _ (List.getElem_mem hj)) v)) (fun e he => hst e (hsub e he)) ?_ (fun e he => hds e (hsub e he)) ?_ (Cont.pick hj hnd hc v _ _) (hSb w w'' hS hb) ?_ ?_ (fun w' hb' => ⟨hF w' ?_, hst _ (List.getElem_mem hj) v _ _ w'' w' hp hb'⟩)
    · exact hnd.sublist ((List.eraseIdx_sublist es j).map _)
    · rw [hm, Array.toList_setIfInBounds]
      exact hB'
    · exact List.pairwise_cons.2 ⟨fun iv hiv => Or.inr (hlt iv hiv), hI⟩
    · intro iv hiv
      rcases List.mem_cons.1 hiv with rfl | hiv
      · exact Nat.le_refl _
      · exact Nat.le_trans (hlt iv hiv) hb.size
    · exact hb.trans (hb'.mono hb.size)
/-- Several effects, in whatever order. -/
theorem reg_effs {o : List Nat} {n k fuel : Nat} {a : Act} {w : World} (ds : List Nat) (es : List (Nat × Nat × (Value → Nat → Nat → World → Prop))) (hSb : ∀ w w', S w → Below w.heap.size w w' → S w')
    (hE : ∀ e ∈ es, Eff P ops Q S ds a e.1 e.2.1 e.2.2) (hst : ∀ e ∈ es, ∀ v lo hi w w', e.2.2 v lo hi w → Below w.heap.size w w' → e.2.2 v lo hi w') (hnd : (es.map fun e => e.2.1).Nodup) (hds : ∀ e ∈ es, e.2.1 ∈ ds)
    (hB : effB (rtab .any ops).2 (dn o (k + es.length) n).toList es.length (dn o k n).toList (es.map (·.1)) = true) (hS : S w) (hc : Cont S (fun a w => wpAnyLast P .any ops Q S [] fuel (dn o (k + es.length) n) a w) es a [] (fun _ => True)) : wpAnyLast P .any ops Q S [] (fuel + es.length) (dn o k n) a w :=
  reg_effs_go hSb fuel _ es.length es _ a w [] (fun _ => True) rfl hE hst hnd hds hB hc hS List.Pairwise.nil (fun _ h => by cases h) (fun _ _ => trivial)
/-- Two effects. -/
theorem reg_effs2 {o : List Nat} {n k fuel : Nat} {a : Act} {w : World} {i1 N1 i2 N2 : Nat} (p1 p2 : Value → Nat → Nat → World → Prop) (hSb : ∀ w w', S w → Below w.heap.size w w' → S w') (hS : S w)
    (hB : effB (rtab .any ops).2 (dn o (k + 2) n).toList 2 (dn o k n).toList [i1, i2] = true) (hn : N1 ≠ N2)
    (h1 : Eff P ops Q S [N1, N2] a i1 N1 p1) (s1 : ∀ v lo hi w w', p1 v lo hi w → Below w.heap.size w w' → p1 v lo hi w')
    (h2 : Eff P ops Q S [N1, N2] a i2 N2 p2) (s2 : ∀ v lo hi w w', p2 v lo hi w → Below w.heap.size w w' → p2 v lo hi w')
    (hc : ∀ v1 lo1 hi1 v2 lo2 hi2 w', S w' → p1 v1 lo1 hi1 w' → p2 v2 lo2 hi2 w' → Disj (lo1, hi1) (lo2, hi2) → ∀ a', (a.put (some N1) v1).put (some N2) v2 = a' → wpAnyLast P .any ops Q S [] fuel (dn o (k + 2) n) a' w') : wpAnyLast P .any ops Q S [] (fuel + 2) (dn o k n) a w := by
  refine reg_effs [N1, N2] [(i1, N1, p1), (i2, N2, p2)] hSb ?_ ?_ (by simpa using hn) ?_ hB hS ?_
  · intro e he; simp at he; rcases he with rfl | rfl <;> assumption
  · intro e he; simp at he; rcases he with rfl | rfl <;> assumption
  · intro e he; simp at he; rcases he with rfl | rfl <;> simp
  · intro v1 lo1 hi1 v2 lo2 hi2 w' hS' hI hF
    simp only [List.pairwise_cons, List.mem_cons, List.not_mem_nil, or_false, forall_eq] at hI
    exact hc v1 lo1 hi1 v2 lo2 hi2 w' hS' hF.1.2 hF.2 hI.1.symm _ rfl
/-- Three effects. -/
theorem reg_effs3 {o : List Nat} {n k fuel : Nat} {a : Act} {w : World} {i1 N1 i2 N2 i3 N3 : Nat} (p1 p2 p3 : Value → Nat → Nat → World → Prop) (hSb : ∀ w w', S w → Below w.heap.size w w' → S w') (hS : S w)
    (hB : effB (rtab .any ops).2 (dn o (k + 3) n).toList 3 (dn o k n).toList [i1, i2, i3] = true) (hn : [N1, N2, N3].Nodup)
    (h1 : Eff P ops Q S [N1, N2, N3] a i1 N1 p1) (s1 : ∀ v lo hi w w', p1 v lo hi w → Below w.heap.size w w' → p1 v lo hi w')
    (h2 : Eff P ops Q S [N1, N2, N3] a i2 N2 p2) (s2 : ∀ v lo hi w w', p2 v lo hi w → Below w.heap.size w w' → p2 v lo hi w')
    (h3 : Eff P ops Q S [N1, N2, N3] a i3 N3 p3) (s3 : ∀ v lo hi w w', p3 v lo hi w → Below w.heap.size w w' → p3 v lo hi w')
    (hc : ∀ v1 lo1 hi1 v2 lo2 hi2 v3 lo3 hi3 w', S w' → p1 v1 lo1 hi1 w' → p2 v2 lo2 hi2 w' → p3 v3 lo3 hi3 w' → Disj (lo1, hi1) (lo2, hi2) → Disj (lo1, hi1) (lo3, hi3) → Disj (lo2, hi2) (lo3, hi3) →
      ∀ a', ((a.put (some N1) v1).put (some N2) v2).put (some N3) v3 = a' → wpAnyLast P .any ops Q S [] fuel (dn o (k + 3) n) a' w') : wpAnyLast P .any ops Q S [] (fuel + 3) (dn o k n) a w := by
  refine reg_effs [N1, N2, N3] [(i1, N1, p1), (i2, N2, p2), (i3, N3, p3)] hSb ?_ ?_ hn ?_ hB hS ?_
  · intro e he; simp at he; rcases he with rfl | rfl | rfl <;> assumption
  · intro e he; simp at he; rcases he with rfl | rfl | rfl <;> assumption
  · intro e he; simp at he; rcases he with rfl | rfl | rfl <;> simp
  · intro v1 lo1 hi1 v2 lo2 hi2 v3 lo3 hi3 w' hS' hI hF
    simp only [List.pairwise_cons, List.mem_cons, List.not_mem_nil, or_false, forall_eq_or_imp, forall_eq] at hI
    exact hc v1 lo1 hi1 v2 lo2 hi2 v3 lo3 hi3 w' hS' hF.1.1.2 hF.1.2 hF.2 hI.2.1.symm hI.1.2.symm hI.1.1.symm _ rfl
/-- Four effects. -/
theorem reg_effs4 {o : List Nat} {n k fuel : Nat} {a : Act} {w : World} {i1 N1 i2 N2 i3 N3 i4 N4 : Nat} (p1 p2 p3 p4 : Value → Nat → Nat → World → Prop) (hSb : ∀ w w', S w → Below w.heap.size w w' → S w') (hS : S w)
    (hB : effB (rtab .any ops).2 (dn o (k + 4) n).toList 4 (dn o k n).toList [i1, i2, i3, i4] = true) (hn : [N1, N2, N3, N4].Nodup)
    (h1 : Eff P ops Q S [N1, N2, N3, N4] a i1 N1 p1) (s1 : ∀ v lo hi w w', p1 v lo hi w → Below w.heap.size w w' → p1 v lo hi w')
    (h2 : Eff P ops Q S [N1, N2, N3, N4] a i2 N2 p2) (s2 : ∀ v lo hi w w', p2 v lo hi w → Below w.heap.size w w' → p2 v lo hi w')
    (h3 : Eff P ops Q S [N1, N2, N3, N4] a i3 N3 p3) (s3 : ∀ v lo hi w w', p3 v lo hi w → Below w.heap.size w w' → p3 v lo hi w')
    (h4 : Eff P ops Q S [N1, N2, N3, N4] a i4 N4 p4) (s4 : ∀ v lo hi w w', p4 v lo hi w → Below w.heap.size w w' → p4 v lo hi w')
    (hc : ∀ v1 lo1 hi1 v2 lo2 hi2 v3 lo3 hi3 v4 lo4 hi4 w', S w' → p1 v1 lo1 hi1 w' → p2 v2 lo2 hi2 w' → p3 v3 lo3 hi3 w' → p4 v4 lo4 hi4 w' → Disj (lo1, hi1) (lo2, hi2) → Disj (lo1, hi1) (lo3, hi3) → Disj (lo2, hi2) (lo3, hi3) → Disj (lo1, hi1) (lo4, hi4) → Disj (lo2, hi2) (lo4, hi4) → Disj (lo3, hi3) (lo4, hi4) →
      ∀ a', (((a.put (some N1) v1).put (some N2) v2).put (some N3) v3).put (some N4) v4 = a' → wpAnyLast P .any ops Q S [] fuel (dn o (k + 4) n) a' w') : wpAnyLast P .any ops Q S [] (fuel + 4) (dn o k n) a w := by
  refine reg_effs [N1, N2, N3, N4] [(i1, N1, p1), (i2, N2, p2), (i3, N3, p3), (i4, N4, p4)] hSb ?_ ?_ hn ?_ hB hS ?_
  · intro e he; simp at he; rcases he with rfl | rfl | rfl | rfl <;> assumption
  · intro e he; simp at he; rcases he with rfl | rfl | rfl | rfl <;> assumption
  · intro e he; simp at he; rcases he with rfl | rfl | rfl | rfl <;> simp
  · intro v1 lo1 hi1 v2 lo2 hi2 v3 lo3 hi3 v4 lo4 hi4 w' hS' hI hF
    simp only [List.pairwise_cons, List.mem_cons, List.not_mem_nil, or_false, forall_eq_or_imp, forall_eq] at hI
    exact hc v1 lo1 hi1 v2 lo2 hi2 v3 lo3 hi3 v4 lo4 hi4 w' hS' hF.1.1.1.2 hF.1.1.2 hF.1.2 hF.2 hI.2.2.1.symm hI.2.1.2.symm hI.2.1.1.symm hI.1.2.2.symm hI.1.2.1.symm hI.1.1.symm _ rfl
end
/-- A world with some cells of a block stored. -/
def setL (W : World) (g : Nat) : Nat → List Value → World
  | _, [] => W
  | i, v :: r => setL (W.setCell ⟨g, i, none⟩ v) g (i + 1) r
theorem setL_far {g k : Nat} (h : k ≠ g) : ∀ (vs : List Value) (W : World) (i : Nat), (setL W g i vs).heap[k]? = W.heap[k]?
  | [], _, _ => rfl
  | v :: r, W, i => (setL_far h r _ (i + 1)).trans (Below.heap_setCell W ⟨g, i, none⟩ v k h)
theorem setL_below {n g : Nat} {w : World} (hg : n ≤ g) : ∀ (vs : List Value) {W : World} (i : Nat), Below n w W → Below n w (setL W g i vs)
  | [], _, _, h => h
  | v :: r, W, i, h => setL_below hg r (i + 1) (h.setCell (p := ⟨g, i, none⟩) hg v)
theorem setL_at {g : Nat} {t : TypeId} : ∀ (vs us ws : List Value) {W : World} , us.length = vs.length → W.heap[g]? = some (.cells (ws ++ us).toArray t (0, 0)) → (setL W g ws.length vs).heap[g]? = some (.cells (ws ++ vs).toArray t (0, 0))
  | [], us, ws, W, hl, h => by
    have : us = [] := List.length_eq_zero_iff.1 hl
    subst this
    exact h
  | v :: r, us, ws, W, hl, h => by
    obtain ⟨u, us, rfl⟩ : ∃ u us', us = u :: us' := by cases us with | nil => simp at hl | cons u us' => exact ⟨u, us', rfl⟩
    have h' := blk_put h ws.length v rfl
    have e : (ws ++ u :: us).toArray.setIfInBounds ws.length v = ((ws ++ [v]) ++ us).toArray := by simp
    rw [e] at h'
    have h2 := setL_at r us (ws ++ [v]) (by simpa using hl) h'
    rw [List.length_append, List.append_assoc] at h2
    exact h2
/-- A whole block stored. -/
theorem setL_all {g : Nat} {t : TypeId} {cs : Array Value} {W : World} (h : W.heap[g]? = some (.cells cs t (0, 0))) (vs : List Value) (hl : cs.size = vs.length) : (setL W g 0 vs).heap[g]? = some (.cells vs.toArray t (0, 0)) :=
  setL_at vs cs.toList [] (by simpa using hl) (by simpa using h)
theorem setL_R {α : Type} {d : Kd α} {e : Nat} {W : World} {base g : Nat} {ok : Nat → Prop} {v : Value} {xs : List α} (h : d.R e W base ok v xs) (hg : ∀ k, ok k → k ≠ g) (i : Nat) (vs : List Value) : d.R e (setL W g i vs) base ok v xs :=
  Kd.R_step h (fun k ho _ => setL_far (hg k ho) vs W i)
theorem setL_blk {W : World} {g k : Nat} {o : Obj} (h : W.heap[k]? = some o) (hg : k ≠ g) (i : Nat) (vs : List Value) : (setL W g i vs).heap[k]? = some o := (setL_far hg vs W i).trans h
end Go.Proofs.YtppmcbkcohiodaaW.PrintLast
