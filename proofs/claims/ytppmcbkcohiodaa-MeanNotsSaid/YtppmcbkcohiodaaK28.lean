/- Texts of this claim, put together (wip/pack.py): RegTwo. -/
import Derived.Test.YtppmcbkcohiodaaK27
namespace Go.Proofs.YtppmcbkcohiodaaW.PrintLast
open Go.RowKit Go.Proofs.YtppmcbkcohiodaaW.PrintWords
set_option linter.unusedVariables false
set_option linter.unusedSimpArgs false
def bget (l : List Bool) (i : Nat) : Bool := l.getD i false
theorem bget_set {l : List Bool} {i : Nat} (hi : i < l.length) (j : Nat) : bget (l.set i true) j = if j = i then true else bget l j := by
  unfold bget
  by_cases e : j = i
  · subst e; simp [List.getD_eq_getElem?_getD, hi]
  · rw [if_neg e]; simp [List.getD_eq_getElem?_getD, List.getElem?_set_ne (Ne.symm e)]
def needB (T : List (List Nat × List Nat)) (i : Nat) (js : List Nat) : Bool := match T[i]? with
  | some r => js.all (r.1.contains ·)
  | none => false
theorem need_of {T : List (List Nat × List Nat)} {i : Nat} {js : List Nat} (h : needB T i js = true) {l : List Bool} (hi : i ∈ readyT T l) : ∀ j ∈ js, bget l j = true := by
  unfold needB at h
  have hr := (List.mem_filter.1 hi).2
  unfold readyAt at hr
  cases e : T[i]? with
  | none => rw [e] at h; cases h
  | some r =>
    rw [e] at h hr
    simp only [Bool.and_eq_true] at hr
    intro j hj
    have h1 := List.all_eq_true.1 h j hj
    exact List.all_eq_true.1 hr.2 j (List.contains_iff_mem.1 h1)
/-- What has been put, where it has come up. -/
def pcs : List (Bool × Nat × Value) → Act → Act
  | [], a => a
  | p :: r, a => pcs r (if p.1 = true then a.put (some p.2.1) p.2.2 else a)
theorem put_pcs {N : Nat} {v : Value} : ∀ (L : List (Bool × Nat × Value)) (a : Act), (∀ p ∈ L, p.2.1 ≠ N) → (pcs L a).put (some N) v = pcs L (a.put (some N) v)
  | [], a, _ => rfl
  | p :: r, a, h => by
    rw [pcs, pcs, put_pcs r _ (fun q hq => h q (List.mem_cons_of_mem _ hq))]
    congr 1
    by_cases hp : p.1 = true
    · rw [if_pos hp, if_pos hp]; exact putc a (h p List.mem_cons_self) _ _
    · rw [if_neg hp, if_neg hp]
theorem pcs_append : ∀ (L M : List (Bool × Nat × Value)) (a : Act), pcs (L ++ M) a = pcs M (pcs L a)
  | [], M, a => rfl
  | p :: r, M, a => by rw [List.cons_append, pcs, pcs]; exact pcs_append r M _
theorem set_pcs {N : Nat} {u v : Value} (L M : List (Bool × Nat × Value)) (a : Act) (h : ∀ p ∈ M, p.2.1 ≠ N) : (pcs (L ++ (false, N, u) :: M) a).put (some N) v = pcs (L ++ (true, N, v) :: M) a := by
  rw [pcs_append, pcs_append, pcs, pcs, put_pcs M _ h]
  rfl
theorem away_pcs {ds : List Nat} : ∀ (L : List (Bool × Nat × Value)) (a : Act), (∀ p ∈ L, p.2.1 ∈ ds) → Away ds a (pcs L a)
  | [], a, _ => Away.refl _ _
  | p :: r, a, h => by
    have ih := away_pcs r (if p.1 = true then a.put (some p.2.1) p.2.2 else a) (fun q hq => h q (List.mem_cons_of_mem _ hq))
    refine Away.trans ?_ ih
    by_cases hp : p.1 = true
    · rw [if_pos hp]; exact Away.put (h p List.mem_cons_self) _
    · rw [if_neg hp]; exact Away.refl _ _
theorem pcs_size : ∀ (L : List (Bool × Nat × Value)) (a : Act), (pcs L a).tmps.size = a.tmps.size
  | [], a => rfl
  | p :: r, a => by
    rw [pcs, pcs_size r]
    by_cases hp : p.1 = true
    · rw [if_pos hp]; simp [Act.put]
    · rw [if_neg hp]
theorem eval_pcs {N : Nat} {v : Value} (L M : List (Bool × Nat × Value)) (a : Act) (h : ∀ p ∈ M, p.2.1 ≠ N) (hN : N < a.tmps.size) : (pcs (L ++ (true, N, v) :: M) a).eval (.tmp N) = v := by
  rw [pcs_append, pcs, if_pos rfl]
  have h1 : ((pcs L a).put (some N) v).eval (.tmp N) = v := by
    have := pcs_size L a
    simp [Act.put, Act.eval, this, hN]
  have h2 := away_pcs (ds := M.map (·.2.1)) M ((pcs L a).put (some N) v) (fun p hp => List.mem_map.2 ⟨p, hp, rfl⟩)
  rw [h2 (.tmp N) (fun t ht => by cases ht; intro hm; obtain ⟨p, hp, e⟩ := List.mem_map.1 hm; exact h p hp e), h1]
section
variable {P : Program} {ops : Array Oper} {Q : Exit → Act → World → Prop}
variable (iS iB iX iT NS NB NX : Bool → Nat) (kk : Nat) (e : TypeId) (c : Bool → Array Value) (Z : Array Value) (v : Bool → Nat → Value) (vs : Bool → Nat → List Value) (w0 : World) (a0 : Act) (l0 : List Bool)
def halfL (l : List Bool) (gS gX : Bool → Nat) (h : Bool) : List (Bool × Nat × Value) :=
  [(bget l (iS h), NS h, .slice (some ⟨gS h, 0, none⟩) kk kk), (bget l (iB h), NB h, v h (gS h)), (bget l (iX h), NX h, .pointer (some ⟨gX h, 0, none⟩))]
structure Inv2 (l : List Bool) (a : Act) (W : World) (gS gX : Bool → Nat) : Prop where
  below : Below w0.heap.size w0 W
  s : ∀ h, bget l (iS h) = true → w0.heap.size ≤ gS h ∧ W.heap[gS h]? = some (.cells (c h) e (0, 0))
  x : ∀ h, bget l (iX h) = true → w0.heap.size ≤ gX h ∧ W.heap[gX h]? = some (.cells (if bget l (iT h) = true then (vs h (gS h)).toArray else Z) e (0, 0))
  ss : bget l (iS false) = true → bget l (iS true) = true → gS false ≠ gS true
  xx : bget l (iX false) = true → bget l (iX true) = true → gX false ≠ gX true
  sx : ∀ h h', bget l (iS h) = true → bget l (iX h') = true → gS h ≠ gX h'
  bs : ∀ h, bget l (iB h) = true → bget l (iS h) = true
  tb : ∀ h, bget l (iT h) = true → bget l (iB h) = true ∧ bget l (iX h) = true
  act : a = pcs (halfL iS iB iX NS NB NX kk v l gS gX false ++ halfL iS iB iX NS NB NX kk v l gS gX true) a0
  rest : ∀ j, bget l0 j = true → bget l j = true
/-- The numbers are unlike. -/
structure Num2 : Prop where
  d : ∀ h h', iS h ≠ iB h' ∧ iS h ≠ iX h' ∧ iS h ≠ iT h' ∧ iB h ≠ iX h' ∧ iB h ≠ iT h' ∧ iX h ≠ iT h'
  d2 : ∀ h, iS (!h) ≠ iS h ∧ iB (!h) ≠ iB h ∧ iX (!h) ≠ iX h ∧ iT (!h) ≠ iT h
  n : ∀ h h', NS h ≠ NB h' ∧ NS h ≠ NX h' ∧ NB h ≠ NX h'
  n2 : NS false ≠ NS true ∧ NB false ≠ NB true ∧ NX false ≠ NX true
theorem bne {h h' : Bool} (hn : h' ≠ h) : h' = !h := by cases h <;> cases h' <;> simp_all
variable {iS iB iX iT NS NB NX kk e c Z v vs w0 a0 l0}
theorem pcs_false {N : Nat} {u u' : Value} (L M : List (Bool × Nat × Value)) (a : Act) : pcs (L ++ (false, N, u) :: M) a = pcs (L ++ (false, N, u') :: M) a := by
  rw [pcs_append, pcs_append]; rfl
/-- The first row, or the second, is made. -/
theorem Inv2.stepS {l : List Bool} {a : Act} {W : World} {gS gX : Bool → Nat} (nm : Num2 iS iB iX iT NS NB NX) (I : Inv2 iS iB iX iT NS NB NX kk e c Z v vs w0 a0 l0 l a W gS gX) (h : Bool) (hi : iS h < l.length) (hf : bget l (iS h) = false) :
    Inv2 iS iB iX iT NS NB NX kk e c Z v vs w0 a0 l0 (l.set (iS h) true) (a.put (some (NS h)) (.slice (some ⟨W.heap.size, 0, none⟩) kk kk)) (W.alloc (.cells (c h) e)) (fun q => if q = h then W.heap.size else gS q) gX := by
  have hB : bget l (iB h) = false := by
    cases hb : bget l (iB h) with
    | false => rfl
    | true => rw [I.bs h hb] at hf; cases hf
  have hT : bget l (iT h) = false := by
    cases hb : bget l (iT h) with
    | false => rfl
    | true => rw [(I.tb h hb).1] at hB; cases hB
  have bS : ∀ q, bget (l.set (iS h) true) (iS q) = if q = h then true else bget l (iS q) := fun q => by
    rw [bget_set hi]
    by_cases e : q = h
    · rw [if_pos e, if_pos (by rw [e])]
    · rw [if_neg e, if_neg (by rw [bne e]; exact (nm.d2 h).1)]
  have bB : ∀ q, bget (l.set (iS h) true) (iB q) = bget l (iB q) := fun q => by rw [bget_set hi, if_neg (Ne.symm (nm.d h q).1)]
  have bX : ∀ q, bget (l.set (iS h) true) (iX q) = bget l (iX q) := fun q => by rw [bget_set hi, if_neg (Ne.symm (nm.d h q).2.1)]
  have bT : ∀ q, bget (l.set (iS h) true) (iT q) = bget l (iT q) := fun q => by rw [bget_set hi, if_neg (Ne.symm (nm.d h q).2.2.1)]
  have lt : ∀ {g : Nat} {o : Obj}, W.heap[g]? = some o → g < W.heap.size := fun h => blk_lt h
  have hne : ∀ {g : Nat} {o : Obj}, W.heap[g]? = some o → g ≠ W.heap.size := fun h => by have := blk_lt h; omega
  refine ⟨below_alloc I.below _, fun q hq => ?_, fun q hq => ?_, fun h1 h2 => ?_, fun h1 h2 => ?_, fun q q' h1 h2 => ?_, fun q h1 => ?_, fun q h1 => ?_, ?_, fun j hj => ?_⟩
  · rw [bS] at hq
    by_cases e : q = h
    · subst e; simp only [if_pos]; exact ⟨I.below.size, blk_new W _⟩
    · rw [if_neg e] at hq; simp only [if_neg e]; exact ⟨(I.s q hq).1, blk_alloc (I.s q hq).2 _⟩
  · rw [bX] at hq
    refine ⟨(I.x q hq).1, ?_⟩
    rw [bT]
    have h1 := blk_alloc (I.x q hq).2 (.cells (c h) e)
    by_cases e : q = h
    · subst e; rw [hT] at h1 ⊢; exact h1
    · simp only [if_neg e]; exact h1
  · rw [bS] at h1 h2
    cases h with
    | false => simp only [if_pos, Bool.true_eq_false, if_false] at h2 ⊢; exact Ne.symm (hne (I.s true h2).2)
    | true => simp only [if_pos, Bool.false_eq_true, if_false] at h1 ⊢; exact hne (I.s false h1).2
  · rw [bX] at h1 h2; exact I.xx h1 h2
  · rw [bS] at h1; rw [bX] at h2
    by_cases e : q = h
    · simp only [if_pos e]; exact Ne.symm (hne (I.x q' h2).2)
    · rw [if_neg e] at h1; simp only [if_neg e]; exact I.sx q q' h1 h2
  · rw [bB] at h1; rw [bS]
    by_cases e : q = h
    · rw [if_pos e]
    · rw [if_neg e]; exact I.bs q h1
  · rw [bT] at h1; rw [bB, bX]; exact I.tb q h1
  · rw [I.act]
    cases h with
    | false =>
      simp only [halfL, bS, bB, bX, if_pos, Bool.true_eq_false, if_false, hf, hB, List.cons_append, List.nil_append]
      refine (set_pcs [] _ a0 (by simp only [List.mem_cons, List.not_mem_nil, or_false, forall_eq_or_imp, forall_eq]; exact ⟨Ne.symm (nm.n _ _).1, Ne.symm (nm.n _ _).2.1, Ne.symm nm.n2.1, Ne.symm (nm.n _ _).1, Ne.symm (nm.n _ _).2.1⟩)).trans ?_
      exact pcs_false [(true, NS false, _)] _ a0
    | true =>
      simp only [halfL, bS, bB, bX, if_pos, Bool.false_eq_true, if_false, hf, hB, List.cons_append, List.nil_append]
      refine (set_pcs [_, _, _] _ a0 (by simp only [List.mem_cons, List.not_mem_nil, or_false, forall_eq_or_imp, forall_eq]; exact ⟨Ne.symm (nm.n _ _).1, Ne.symm (nm.n _ _).2.1⟩)).trans ?_
      exact pcs_false [_, _, _, (true, NS true, _)] _ a0
  · rw [bget_set hi]; split
    · rfl
    · exact I.rest j hj
/-- The first value, or the second, is built. -/
theorem Inv2.stepB {l : List Bool} {a : Act} {W : World} {gS gX : Bool → Nat} (nm : Num2 iS iB iX iT NS NB NX) (I : Inv2 iS iB iX iT NS NB NX kk e c Z v vs w0 a0 l0 l a W gS gX) (h : Bool) (hi : iB h < l.length) (hf : bget l (iB h) = false) (hS : bget l (iS h) = true) :
    Inv2 iS iB iX iT NS NB NX kk e c Z v vs w0 a0 l0 (l.set (iB h) true) (a.put (some (NB h)) (v h (gS h))) W gS gX := by
  have bB : ∀ q, bget (l.set (iB h) true) (iB q) = if q = h then true else bget l (iB q) := fun q => by
    rw [bget_set hi]
    by_cases e : q = h
    · rw [if_pos e, if_pos (by rw [e])]
    · rw [if_neg e, if_neg (by rw [bne e]; exact (nm.d2 h).2.1)]
  have bS : ∀ q, bget (l.set (iB h) true) (iS q) = bget l (iS q) := fun q => by rw [bget_set hi, if_neg (nm.d q h).1]
  have bX : ∀ q, bget (l.set (iB h) true) (iX q) = bget l (iX q) := fun q => by rw [bget_set hi, if_neg (Ne.symm (nm.d h q).2.2.2.1)]
  have bT : ∀ q, bget (l.set (iB h) true) (iT q) = bget l (iT q) := fun q => by rw [bget_set hi, if_neg (Ne.symm (nm.d h q).2.2.2.2.1)]
  refine ⟨I.below, fun q hq => I.s q (by rwa [bS] at hq), fun q hq => by rw [bT]; exact I.x q (by rwa [bX] at hq), fun h1 h2 => I.ss (by rwa [bS] at h1) (by rwa [bS] at h2), fun h1 h2 => I.xx (by rwa [bX] at h1) (by rwa [bX] at h2), fun q q' h1 h2 => I.sx q q' (by rwa [bS] at h1) (by rwa [bX] at h2), fun q h1 => ?_, fun q h1 => ?_, ?_, fun j hj => ?_⟩
  · rw [bS]; rw [bB] at h1
    by_cases e : q = h
    · rw [e]; exact hS
    · rw [if_neg e] at h1; exact I.bs q h1
  · rw [bT] at h1; rw [bB, bX]
    refine ⟨?_, (I.tb q h1).2⟩
    by_cases e : q = h
    · rw [if_pos e]
    · rw [if_neg e]; exact (I.tb q h1).1
  · rw [I.act]
    cases h with
    | false =>
      simp only [halfL, bS, bB, bX, if_pos, Bool.true_eq_false, if_false, hf, List.cons_append, List.nil_append]
      exact set_pcs [_] _ a0 (by simp only [List.mem_cons, List.not_mem_nil, or_false, forall_eq_or_imp, forall_eq]; exact ⟨Ne.symm (nm.n false false).2.2, (nm.n _ _).1, Ne.symm nm.n2.2.1, Ne.symm (nm.n false _).2.2⟩)
    | true =>
      simp only [halfL, bS, bB, bX, if_pos, Bool.false_eq_true, if_false, hf, List.cons_append, List.nil_append]
      exact set_pcs [_, _, _, _] _ a0 (by simp only [List.mem_cons, List.not_mem_nil, or_false, forall_eq_or_imp, forall_eq]; exact Ne.symm (nm.n true true).2.2)
  · rw [bget_set hi]; split
    · rfl
    · exact I.rest j hj
/-- The first box, or the second, is made. -/
theorem Inv2.stepX {l : List Bool} {a : Act} {W : World} {gS gX : Bool → Nat} (nm : Num2 iS iB iX iT NS NB NX) (I : Inv2 iS iB iX iT NS NB NX kk e c Z v vs w0 a0 l0 l a W gS gX) (h : Bool) (hi : iX h < l.length) (hf : bget l (iX h) = false) :
    Inv2 iS iB iX iT NS NB NX kk e c Z v vs w0 a0 l0 (l.set (iX h) true) (a.put (some (NX h)) (.pointer (some ⟨W.heap.size, 0, none⟩))) (W.alloc (.cells Z e)) gS (fun q => if q = h then W.heap.size else gX q) := by
  have hT : bget l (iT h) = false := by
    cases hb : bget l (iT h) with
    | false => rfl
    | true => rw [(I.tb h hb).2] at hf; cases hf
  have bX : ∀ q, bget (l.set (iX h) true) (iX q) = if q = h then true else bget l (iX q) := fun q => by
    rw [bget_set hi]
    by_cases e : q = h
    · rw [if_pos e, if_pos (by rw [e])]
    · rw [if_neg e, if_neg (by rw [bne e]; exact (nm.d2 h).2.2.1)]
  have bS : ∀ q, bget (l.set (iX h) true) (iS q) = bget l (iS q) := fun q => by rw [bget_set hi, if_neg (nm.d q h).2.1]
  have bB : ∀ q, bget (l.set (iX h) true) (iB q) = bget l (iB q) := fun q => by rw [bget_set hi, if_neg (nm.d q h).2.2.2.1]
  have bT : ∀ q, bget (l.set (iX h) true) (iT q) = bget l (iT q) := fun q => by rw [bget_set hi, if_neg (Ne.symm (nm.d h q).2.2.2.2.2)]
  have hne : ∀ {g : Nat} {o : Obj}, W.heap[g]? = some o → g ≠ W.heap.size := fun h => by have := blk_lt h; omega
  refine ⟨below_alloc I.below _, fun q hq => ?_, fun q hq => ?_, fun h1 h2 => I.ss (by rwa [bS] at h1) (by rwa [bS] at h2), fun h1 h2 => ?_, fun q q' h1 h2 => ?_, fun q h1 => ?_, fun q h1 => ?_, ?_, fun j hj => ?_⟩
  · rw [bS] at hq; exact ⟨(I.s q hq).1, blk_alloc (I.s q hq).2 _⟩
  · rw [bX] at hq; rw [bT]
    by_cases e : q = h
    · subst e; simp only [if_pos]; rw [hT]; exact ⟨I.below.size, blk_new W _⟩
    · rw [if_neg e] at hq; simp only [if_neg e]; exact ⟨(I.x q hq).1, blk_alloc (I.x q hq).2 _⟩
  · rw [bX] at h1 h2
    cases h with
    | false => simp only [if_pos, Bool.true_eq_false, if_false] at h2 ⊢; exact Ne.symm (hne (I.x true h2).2)
    | true => simp only [if_pos, Bool.false_eq_true, if_false] at h1 ⊢; exact hne (I.x false h1).2
  · rw [bS] at h1; rw [bX] at h2
    by_cases e : q' = h
    · simp only [if_pos e]; exact hne (I.s q h1).2
    · rw [if_neg e] at h2; simp only [if_neg e]; exact I.sx q q' h1 h2
  · rw [bB] at h1; rw [bS]; exact I.bs q h1
  · rw [bT] at h1; rw [bB, bX]
    refine ⟨(I.tb q h1).1, ?_⟩
    by_cases e : q = h
    · rw [if_pos e]
    · rw [if_neg e]; exact (I.tb q h1).2
  · rw [I.act]
    cases h with
    | false =>
      simp only [halfL, bS, bB, bX, if_pos, Bool.true_eq_false, if_false, hf, List.cons_append, List.nil_append]
      exact set_pcs [_, _] _ a0 (by simp only [List.mem_cons, List.not_mem_nil, or_false, forall_eq_or_imp, forall_eq]; exact ⟨(nm.n _ _).2.1, (nm.n true false).2.2, Ne.symm nm.n2.2.2⟩)
    | true =>
      simp only [halfL, bS, bB, bX, if_pos, Bool.false_eq_true, if_false, hf, List.cons_append, List.nil_append]
      exact set_pcs [_, _, _, _, _] [] a0 (by simp)
  · rw [bget_set hi]; split
    · rfl
    · exact I.rest j hj
/-- The first value, or the second, is laid into its box. -/
theorem Inv2.stepT {l : List Bool} {a : Act} {W : World} {gS gX : Bool → Nat} (nm : Num2 iS iB iX iT NS NB NX) (I : Inv2 iS iB iX iT NS NB NX kk e c Z v vs w0 a0 l0 l a W gS gX) (h : Bool) (hi : iT h < l.length) (hf : bget l (iT h) = false) (hB : bget l (iB h) = true) (hX : bget l (iX h) = true) (hz : ∀ g, Z.size = (vs h g).length) :
    Inv2 iS iB iX iT NS NB NX kk e c Z v vs w0 a0 l0 (l.set (iT h) true) a (setL W (gX h) 0 (vs h (gS h))) gS gX := by
  have bT : ∀ q, bget (l.set (iT h) true) (iT q) = if q = h then true else bget l (iT q) := fun q => by
    rw [bget_set hi]
    by_cases e : q = h
    · rw [if_pos e, if_pos (by rw [e])]
    · rw [if_neg e, if_neg (by rw [bne e]; exact (nm.d2 h).2.2.2)]
  have bS : ∀ q, bget (l.set (iT h) true) (iS q) = bget l (iS q) := fun q => by rw [bget_set hi, if_neg (nm.d q h).2.2.1]
  have bB : ∀ q, bget (l.set (iT h) true) (iB q) = bget l (iB q) := fun q => by rw [bget_set hi, if_neg (nm.d q h).2.2.2.2.1]
  have bX : ∀ q, bget (l.set (iT h) true) (iX q) = bget l (iX q) := fun q => by rw [bget_set hi, if_neg (nm.d q h).2.2.2.2.2]
  have hx := I.x h hX
  refine ⟨setL_below hx.1 _ _ I.below, fun q hq => ?_, fun q hq => ?_, fun h1 h2 => I.ss (by rwa [bS] at h1) (by rwa [bS] at h2), fun h1 h2 => I.xx (by rwa [bX] at h1) (by rwa [bX] at h2), fun q q' h1 h2 => I.sx q q' (by rwa [bS] at h1) (by rwa [bX] at h2), fun q h1 => ?_, fun q h1 => ?_, ?_, fun j hj => ?_⟩
  · rw [bS] at hq
    exact ⟨(I.s q hq).1, setL_blk (I.s q hq).2 (I.sx q h hq hX) _ _⟩
  · rw [bX] at hq; rw [bT]
    refine ⟨(I.x q hq).1, ?_⟩
    by_cases e : q = h
    · subst e
      rw [if_pos rfl, if_pos rfl]
      rw [hf] at hx
      exact setL_all hx.2 _ (hz _)
    · rw [if_neg e]
      refine setL_blk (I.x q hq).2 ?_ _ _
      cases h with
      | false => rw [bne e] at hq ⊢; exact Ne.symm (I.xx hX hq)
      | true => rw [bne e] at hq ⊢; exact I.xx hq hX
  · rw [bB] at h1; rw [bS]; exact I.bs q h1
  · rw [bB, bX]; rw [bT] at h1
    by_cases e : q = h
    · rw [e]; exact ⟨hB, hX⟩
    · rw [if_neg e] at h1; exact I.tb q h1
  · rw [I.act]
    simp only [halfL, bS, bB, bX]
  · rw [bget_set hi]; split
    · rfl
    · exact I.rest j hj
theorem Inv2.evS {l : List Bool} {a : Act} {W : World} {gS gX : Bool → Nat} (nm : Num2 iS iB iX iT NS NB NX) (I : Inv2 iS iB iX iT NS NB NX kk e c Z v vs w0 a0 l0 l a W gS gX) (h : Bool) (hb : bget l (iS h) = true) (hs : NS h < a0.tmps.size) : a.eval (.tmp (NS h)) = .slice (some ⟨gS h, 0, none⟩) kk kk := by
  rw [I.act]
  cases h with
  | false =>
    simp only [halfL, hb, List.cons_append, List.nil_append]
    exact eval_pcs [] _ a0 (by simp only [List.mem_cons, List.not_mem_nil, or_false, forall_eq_or_imp, forall_eq]; exact ⟨Ne.symm (nm.n _ _).1, Ne.symm (nm.n _ _).2.1, Ne.symm nm.n2.1, Ne.symm (nm.n _ _).1, Ne.symm (nm.n _ _).2.1⟩) hs
  | true =>
    simp only [halfL, hb, List.cons_append, List.nil_append]
    exact eval_pcs [_, _, _] _ a0 (by simp only [List.mem_cons, List.not_mem_nil, or_false, forall_eq_or_imp, forall_eq]; exact ⟨Ne.symm (nm.n _ _).1, Ne.symm (nm.n _ _).2.1⟩) hs
theorem Inv2.evB {l : List Bool} {a : Act} {W : World} {gS gX : Bool → Nat} (nm : Num2 iS iB iX iT NS NB NX) (I : Inv2 iS iB iX iT NS NB NX kk e c Z v vs w0 a0 l0 l a W gS gX) (h : Bool) (hb : bget l (iB h) = true) (hs : NB h < a0.tmps.size) : a.eval (.tmp (NB h)) = v h (gS h) := by
  rw [I.act]
  cases h with
  | false =>
    simp only [halfL, hb, List.cons_append, List.nil_append]
    exact eval_pcs [_] _ a0 (by simp only [List.mem_cons, List.not_mem_nil, or_false, forall_eq_or_imp, forall_eq]; exact ⟨Ne.symm (nm.n false false).2.2, (nm.n _ _).1, Ne.symm nm.n2.2.1, Ne.symm (nm.n false _).2.2⟩) hs
  | true =>
    simp only [halfL, hb, List.cons_append, List.nil_append]
    exact eval_pcs [_, _, _, _] _ a0 (by simp only [List.mem_cons, List.not_mem_nil, or_false, forall_eq_or_imp, forall_eq]; exact Ne.symm (nm.n true true).2.2) hs
theorem Inv2.evX {l : List Bool} {a : Act} {W : World} {gS gX : Bool → Nat} (nm : Num2 iS iB iX iT NS NB NX) (I : Inv2 iS iB iX iT NS NB NX kk e c Z v vs w0 a0 l0 l a W gS gX) (h : Bool) (hb : bget l (iX h) = true) (hs : NX h < a0.tmps.size) : a.eval (.tmp (NX h)) = .pointer (some ⟨gX h, 0, none⟩) := by
  rw [I.act]
  cases h with
  | false =>
    simp only [halfL, hb, List.cons_append, List.nil_append]
    exact eval_pcs [_, _] _ a0 (by simp only [List.mem_cons, List.not_mem_nil, or_false, forall_eq_or_imp, forall_eq]; exact ⟨(nm.n _ _).2.1, (nm.n true false).2.2, Ne.symm nm.n2.2.2⟩) hs
  | true =>
    simp only [halfL, hb, List.cons_append, List.nil_append]
    exact eval_pcs [_, _, _, _, _] [] a0 (by simp) hs
end
section
variable {P : Program} {ops : Array Oper} {Q : Exit → Act → World → Prop} {S : World → Prop}
theorem reg_lits (iS iB iX iT NS NB NX : Bool → Nat) (kk : Nat) (e : TypeId) (c : Bool → Array Value) (Z : Array Value) (v : Bool → Nat → Value) (vs : Bool → Nat → List Value) (w0 : World) {a0 : Act} {W0 : World} {n k fuel : Nat} {o : List Nat}
    (nm : Num2 iS iB iX iT NS NB NX) (he : endB (rtab .any ops).2 n = true) (hlen : (dn o k n).toList.length = n) (hc : (dn o k n).toList.count false ≤ fuel)
    (hnone : ∀ h, bget (dn o k n).toList (iS h) = false ∧ bget (dn o k n).toList (iB h) = false ∧ bget (dn o k n).toList (iX h) = false ∧ bget (dn o k n).toList (iT h) = false)
    (hcov : ∀ i, i < n → bget (dn o k n).toList i = false → ∃ h, i = iS h ∨ i = iB h ∨ i = iX h ∨ i = iT h)
    (hlt : ∀ h, iS h < n ∧ iB h < n ∧ iX h < n ∧ iT h < n) (hsz : ∀ h, NS h < a0.tmps.size ∧ NB h < a0.tmps.size ∧ NX h < a0.tmps.size)
    (need : ∀ h, needB (rtab .any ops).2 (iB h) [iS h] = true ∧ needB (rtab .any ops).2 (iT h) [iB h, iX h] = true)
    (oS oB oX oT : Bool → Oper) (pS : ∀ h, ops[iS h]? = some (oS h) ∧ (oS h).dst = some (NS h) ∧ (oS h).guard = none) (pB : ∀ h, ops[iB h]? = some (oB h) ∧ (oB h).dst = some (NB h) ∧ (oB h).guard = none)
    (pX : ∀ h, ops[iX h]? = some (oX h) ∧ (oX h).dst = some (NX h) ∧ (oX h).guard = none) (pT : ∀ h, ops[iT h]? = some (oT h) ∧ (oT h).dst = none ∧ (oT h).guard = none)
    (rS : ∀ h (W : World) (a' : Act), Away [NS false, NB false, NX false, NS true, NB true, NX true] a0 a' → (execOp a'.eval (oS h)).run P W = .ok (.value (.slice (some ⟨W.heap.size, 0, none⟩) kk kk)) (W.alloc (.cells (c h) e)))
    (rB : ∀ h (W : World) (a' : Act) g, a'.eval (.tmp (NS h)) = .slice (some ⟨g, 0, none⟩) kk kk → (execOp a'.eval (oB h)).run P W = .ok (.value (v h g)) W)
    (rX : ∀ h (W : World) (a' : Act), (execOp a'.eval (oX h)).run P W = .ok (.value (.pointer (some ⟨W.heap.size, 0, none⟩))) (W.alloc (.cells Z e)))
    (rT : ∀ h (W : World) (a' : Act) g gx, a'.eval (.tmp (NX h)) = .pointer (some ⟨gx, 0, none⟩) → a'.eval (.tmp (NB h)) = v h g → W.heap[gx]? = some (.cells Z e (0, 0)) → (execOp a'.eval (oT h)).run P W = .ok .skip (setL W gx 0 (vs h g)))
    (hz : ∀ h g, Z.size = (vs h g).length) (hS : ∀ W, Below w0.heap.size w0 W → S W) (hB : Below w0.heap.size w0 W0)
    (fin : ∀ (g1 x1 g2 x2 : Nat) (W : World), Below w0.heap.size w0 W → w0.heap.size ≤ g1 → w0.heap.size ≤ x1 → w0.heap.size ≤ g2 → w0.heap.size ≤ x2 → W.heap[g1]? = some (.cells (c false) e (0, 0)) → W.heap[g2]? = some (.cells (c true) e (0, 0)) → W.heap[x1]? = some (.cells (vs false g1).toArray e (0, 0)) → W.heap[x2]? = some (.cells (vs true g2).toArray e (0, 0)) →
      ∀ a', (((((a0.put (some (NS false)) (.slice (some ⟨g1, 0, none⟩) kk kk)).put (some (NB false)) (v false g1)).put (some (NX false)) (.pointer (some ⟨x1, 0, none⟩))).put (some (NS true)) (.slice (some ⟨g2, 0, none⟩) kk kk)).put (some (NB true)) (v true g2)).put (some (NX true)) (.pointer (some ⟨x2, 0, none⟩)) = a' → Q .normal a' W) :
    wpAnyLast P .any ops Q S [] fuel (dn o k n) a0 W0 := by
  have hb2 : ∀ (l : List Bool) i, i < l.length → l.getD i true = bget l i := fun l i hi => by unfold bget; simp [List.getD_eq_getElem?_getD, hi]
  have main := reg_inv (P := P) (ops := ops) (Q := Q) (S := S) (n := n) (I := fun l a W => ∃ gS gX, Inv2 iS iB iX iT NS NB NX kk e c Z v vs w0 a0 (dn o k n).toList l a W gS gX)
    (fun l a W ⟨gS, gX, I⟩ => hS W I.below) he
    (fun l a W i hl ⟨gS, gX, I⟩ hi => by
      have hf0 := (end_of he hl).2 i hi
      have hin : i < n := by
        refine Classical.byContradiction fun hn => ?_
        have : l.getD i true = true := by simp [List.getD_eq_getElem?_getD, show ¬ i < l.length by omega]
        rw [this] at hf0; cases hf0
      have hf : bget l i = false := by rw [← hb2 l i (by omega)]; exact hf0
      obtain ⟨h, hcase⟩ := hcov i hin (by
        cases hb : bget (dn o k n).toList i with
        | false => rfl
        | true => rw [I.rest i hb] at hf; cases hf)
      rcases hcase with rfl | rfl | rfl | rfl
      · refine ⟨oS h, (pS h).1, fun K hK => ?_⟩
        have haw : Away [NS false, NB false, NX false, NS true, NB true, NX true] a0 a := by rw [I.act]; exact away_pcs _ a0 (by intro p hp; simp only [halfL, List.cons_append, List.nil_append, List.mem_cons, List.not_mem_nil, or_false] at hp; rcases hp with rfl | rfl | rfl | rfl | rfl | rfl <;> simp)
        rw [(pS h).2.1]
        exact value_ (by unfold Region.wanted; rw [(pS h).2.2]) (pS h).2.1 (rS h W a haw) (hK _ _ ⟨_, _, I.stepS nm h (by omega) hf⟩)
      · have hs := need_of (need h).1 hi (iS h) (by simp)
        exact ⟨oB h, (pB h).1, fun K hK => by rw [(pB h).2.1]; exact value_ (by unfold Region.wanted; rw [(pB h).2.2]) (pB h).2.1 (rB h W a _ (I.evS nm h hs (hsz h).1)) (hK _ _ ⟨_, _, I.stepB nm h (by omega) hf hs⟩)⟩
      · exact ⟨oX h, (pX h).1, fun K hK => by rw [(pX h).2.1]; exact value_ (by unfold Region.wanted; rw [(pX h).2.2]) (pX h).2.1 (rX h W a) (hK _ _ ⟨_, _, I.stepX nm h (by omega) hf⟩)⟩
      · have hb := need_of (need h).2 hi (iB h) (by simp)
        have hx := need_of (need h).2 hi (iX h) (by simp)
        refine ⟨oT h, (pT h).1, fun K hK => ?_⟩
        rw [if_pos (by unfold Region.wanted; rw [(pT h).2.2])]
        unfold Oper.wp
        have hxx := (I.x h hx).2
        rw [hf] at hxx
        rw [rT h W a _ _ (I.evX nm h hx (hsz h).2.2) (I.evB nm h hb (hsz h).2.1) hxx]
        show K (a.put (oT h).dst undef) _
        rw [(pT h).2.1]
        exact hK _ _ ⟨_, _, I.stepT nm h (by omega) hf hb hx (hz h)⟩)
    (fun a W ⟨gS, gX, I⟩ => by
      have ht : ∀ i, i < n → bget (List.replicate n true) i = true := fun i hi => by unfold bget; simp [List.getD_eq_getElem?_getD, hi]
      have hact := I.act
      simp only [halfL, ht _ (hlt false).1, ht _ (hlt false).2.1, ht _ (hlt false).2.2.1, ht _ (hlt true).1, ht _ (hlt true).2.1, ht _ (hlt true).2.2.1, List.cons_append, List.nil_append, pcs, if_true] at hact
      have x1 := I.x false (ht _ (hlt false).2.2.1)
      have x2 := I.x true (ht _ (hlt true).2.2.1)
      rw [ht _ (hlt false).2.2.2, if_pos rfl] at x1
      rw [ht _ (hlt true).2.2.2, if_pos rfl] at x2
      have s1 := I.s false (ht _ (hlt false).1)
      have s2 := I.s true (ht _ (hlt true).1)
      exact fin _ _ _ _ W I.below s1.1 x1.1 s2.1 x2.1 s1.2 s2.2 x1.2 x2.2 a hact.symm)
    fuel (dn o k n).toList a0 W0 hlen hc ⟨fun _ => 0, fun _ => 0, {
      below := hB
      s := fun h hb => by rw [(hnone h).1] at hb; cases hb
      x := fun h hb => by rw [(hnone h).2.2.1] at hb; cases hb
      ss := fun hb => by rw [(hnone false).1] at hb; cases hb
      xx := fun hb => by rw [(hnone false).2.2.1] at hb; cases hb
      sx := fun h h' hb => by rw [(hnone h).1] at hb; cases hb
      bs := fun h hb => by rw [(hnone h).2.1] at hb; cases hb
      tb := fun h hb => by rw [(hnone h).2.2.2] at hb; cases hb
      act := by simp only [halfL, (hnone false).1, (hnone false).2.1, (hnone false).2.2.1, (hnone true).1, (hnone true).2.1, (hnone true).2.2.1, List.cons_append, List.nil_append, pcs]; simp
      rest := fun j hj => hj }⟩
  simpa using main
/-- The same with each number of its own. -/
theorem reg_lits2 (iS1 iS2 iB1 iB2 iX1 iX2 iT1 iT2 NS1 NS2 NB1 NB2 NX1 NX2 : Nat) (kk : Nat) (e : TypeId) (c1 c2 Z : Array Value) (v1 v2 : Nat → Value) (vs1 vs2 : Nat → List Value) (w0 : World) {a0 : Act} {W0 : World} {n k fuel : Nat} {o : List Nat} {oS1 oS2 oB1 oB2 oX1 oX2 oT1 oT2 : Oper}
    (nm : [iS1, iS2, iB1, iB2, iX1, iX2, iT1, iT2].Nodup ∧ [NS1, NS2, NB1, NB2, NX1, NX2].Nodup) (he : endB (rtab .any ops).2 n = true) (hlen : (dn o k n).toList.length = n) (hc : (dn o k n).toList.count false ≤ fuel)
    (hnone : ([iS1, iS2, iB1, iB2, iX1, iX2, iT1, iT2].all fun i => !(bget (dn o k n).toList i) && decide (i < n)) = true)
    (hcov : ((List.range n).all fun i => bget (dn o k n).toList i || [iS1, iS2, iB1, iB2, iX1, iX2, iT1, iT2].contains i) = true)
    (hsz : ([NS1, NS2, NB1, NB2, NX1, NX2].all fun i => decide (i < a0.tmps.size)) = true)
    (need : (needB (rtab .any ops).2 iB1 [iS1] && needB (rtab .any ops).2 iB2 [iS2] && needB (rtab .any ops).2 iT1 [iB1, iX1] && needB (rtab .any ops).2 iT2 [iB2, iX2]) = true)
    (pS1 : ops[iS1]? = some oS1) (dS1 : oS1.dst = some NS1) (gS1 : oS1.guard = none) (pS2 : ops[iS2]? = some oS2) (dS2 : oS2.dst = some NS2) (gS2 : oS2.guard = none) (pB1 : ops[iB1]? = some oB1) (dB1 : oB1.dst = some NB1) (gB1 : oB1.guard = none) (pB2 : ops[iB2]? = some oB2) (dB2 : oB2.dst = some NB2) (gB2 : oB2.guard = none) (pX1 : ops[iX1]? = some oX1) (dX1 : oX1.dst = some NX1) (gX1 : oX1.guard = none) (pX2 : ops[iX2]? = some oX2) (dX2 : oX2.dst = some NX2) (gX2 : oX2.guard = none) (pT1 : ops[iT1]? = some oT1) (dT1 : oT1.dst = none) (gT1 : oT1.guard = none) (pT2 : ops[iT2]? = some oT2) (dT2 : oT2.dst = none) (gT2 : oT2.guard = none)
    (rS1 : ∀ (W : World) (a' : Act), Away [NS1, NB1, NX1, NS2, NB2, NX2] a0 a' → (execOp a'.eval oS1).run P W = .ok (.value (.slice (some ⟨W.heap.size, 0, none⟩) kk kk)) (W.alloc (.cells c1 e)))
    (rS2 : ∀ (W : World) (a' : Act), Away [NS1, NB1, NX1, NS2, NB2, NX2] a0 a' → (execOp a'.eval oS2).run P W = .ok (.value (.slice (some ⟨W.heap.size, 0, none⟩) kk kk)) (W.alloc (.cells c2 e)))
    (rB1 : ∀ (W : World) (a' : Act) g, a'.eval (.tmp NS1) = .slice (some ⟨g, 0, none⟩) kk kk → (execOp a'.eval oB1).run P W = .ok (.value (v1 g)) W)
    (rB2 : ∀ (W : World) (a' : Act) g, a'.eval (.tmp NS2) = .slice (some ⟨g, 0, none⟩) kk kk → (execOp a'.eval oB2).run P W = .ok (.value (v2 g)) W)
    (rX1 : ∀ (W : World) (a' : Act), (execOp a'.eval oX1).run P W = .ok (.value (.pointer (some ⟨W.heap.size, 0, none⟩))) (W.alloc (.cells Z e)))
    (rX2 : ∀ (W : World) (a' : Act), (execOp a'.eval oX2).run P W = .ok (.value (.pointer (some ⟨W.heap.size, 0, none⟩))) (W.alloc (.cells Z e)))
    (rT1 : ∀ (W : World) (a' : Act) g gx, a'.eval (.tmp NX1) = .pointer (some ⟨gx, 0, none⟩) → a'.eval (.tmp NB1) = v1 g → W.heap[gx]? = some (.cells Z e (0, 0)) → (execOp a'.eval oT1).run P W = .ok .skip (setL W gx 0 (vs1 g)))
    (rT2 : ∀ (W : World) (a' : Act) g gx, a'.eval (.tmp NX2) = .pointer (some ⟨gx, 0, none⟩) → a'.eval (.tmp NB2) = v2 g → W.heap[gx]? = some (.cells Z e (0, 0)) → (execOp a'.eval oT2).run P W = .ok .skip (setL W gx 0 (vs2 g)))
    (hz : ∀ g, Z.size = (vs1 g).length ∧ Z.size = (vs2 g).length) (hS : ∀ W, Below w0.heap.size w0 W → S W) (hB : Below w0.heap.size w0 W0)
    (fin : ∀ (g1 x1 g2 x2 : Nat) (W : World), Below w0.heap.size w0 W → w0.heap.size ≤ g1 → w0.heap.size ≤ x1 → w0.heap.size ≤ g2 → w0.heap.size ≤ x2 → W.heap[g1]? = some (.cells c1 e (0, 0)) → W.heap[g2]? = some (.cells c2 e (0, 0)) → W.heap[x1]? = some (.cells (vs1 g1).toArray e (0, 0)) → W.heap[x2]? = some (.cells (vs2 g2).toArray e (0, 0)) →
      ∀ a', (((((a0.put (some NS1) (.slice (some ⟨g1, 0, none⟩) kk kk)).put (some NB1) (v1 g1)).put (some NX1) (.pointer (some ⟨x1, 0, none⟩))).put (some NS2) (.slice (some ⟨g2, 0, none⟩) kk kk)).put (some NB2) (v2 g2)).put (some NX2) (.pointer (some ⟨x2, 0, none⟩)) = a' → Q .normal a' W) :
    wpAnyLast P .any ops Q S [] fuel (dn o k n) a0 W0 := by
  obtain ⟨nm1, nm2⟩ := nm
  simp only [List.nodup_cons, List.mem_cons, List.not_mem_nil, or_false, not_or, List.nodup_nil, and_true, not_false_eq_true] at nm1 nm2
  simp only [List.all_cons, List.all_nil, Bool.and_true, Bool.and_eq_true, Bool.not_eq_true', decide_eq_true_eq] at hnone hsz need
  obtain ⟨⟨a1, a2, a3, a4, a5, a6, a7⟩, ⟨b1, b2, b3, b4, b5, b6⟩, ⟨c1', c2', c3, c4, c5⟩, ⟨d1, d2, d3, d4⟩, ⟨e1, e2, e3⟩, ⟨f1, f2⟩, g1⟩ := nm1
  obtain ⟨⟨A1, A2, A3, A4, A5⟩, ⟨B1, B2, B3, B4⟩, ⟨C1, C2, C3⟩, ⟨D1, D2⟩, E1⟩ := nm2
  obtain ⟨⟨n1, m1⟩, ⟨n2, m2⟩, ⟨n3, m3⟩, ⟨n4, m4⟩, ⟨n5, m5⟩, ⟨n6, m6⟩, ⟨n7, m7⟩, n8, m8⟩ := hnone
  obtain ⟨s1, s2, s3, s4, s5, s6⟩ := hsz
  obtain ⟨⟨⟨q1, q2⟩, q3⟩, q4⟩ := need
  refine reg_lits (fun h => cond h iS2 iS1) (fun h => cond h iB2 iB1) (fun h => cond h iX2 iX1) (fun h => cond h iT2 iT1) (fun h => cond h NS2 NS1) (fun h => cond h NB2 NB1) (fun h => cond h NX2 NX1) kk e (fun h => cond h c2 c1) Z (fun h g => cond h (v2 g) (v1 g)) (fun h g => cond h (vs2 g) (vs1 g)) w0 ⟨?_, ?_, ?_, ?_⟩ he hlen hc ?_ ?_ ?_ ?_ ?_ (fun h => cond h oS2 oS1) (fun h => cond h oB2 oB1) (fun h => cond h oX2 oX1) (fun h => cond h oT2 oT1) ?_ ?_ ?_ ?_ ?_ ?_ ?_ ?_ ?_ hS hB ?_
  · intro h h'; cases h <;> cases h' <;> simp only [cond] <;> (refine ⟨?_, ?_, ?_, ?_, ?_, ?_⟩ <;> (first | assumption | (apply Ne.symm; assumption)))
  · intro h; cases h <;> simp only [cond, Bool.not_true, Bool.not_false] <;> (refine ⟨?_, ?_, ?_, ?_⟩ <;> (first | assumption | (apply Ne.symm; assumption)))
  · intro h h'; cases h <;> cases h' <;> simp only [cond] <;> (refine ⟨?_, ?_, ?_⟩ <;> (first | assumption | (apply Ne.symm; assumption)))
  · exact ⟨A1, C1, E1⟩
  · intro h; cases h <;> exact ⟨by assumption, by assumption, by assumption, by assumption⟩
  · intro i hi hb
    have := List.all_eq_true.1 hcov i (List.mem_range.2 hi)
    rw [hb, Bool.false_or] at this
    have := List.contains_iff_mem.1 this
    simp only [List.mem_cons, List.not_mem_nil, or_false] at this
    rcases this with h | h | h | h | h | h | h | h
    · exact ⟨false, .inl h⟩
    · exact ⟨true, .inl h⟩
    · exact ⟨false, .inr (.inl h)⟩
    · exact ⟨true, .inr (.inl h)⟩
    · exact ⟨false, .inr (.inr (.inl h))⟩
    · exact ⟨true, .inr (.inr (.inl h))⟩
    · exact ⟨false, .inr (.inr (.inr h))⟩
    · exact ⟨true, .inr (.inr (.inr h))⟩
  · intro h; cases h <;> exact ⟨by assumption, by assumption, by assumption, by assumption⟩
  · intro h; cases h <;> exact ⟨by assumption, by assumption, by assumption⟩
  · intro h; cases h <;> exact ⟨by assumption, by assumption⟩
  · intro h; cases h
    · exact ⟨pS1, dS1, gS1⟩
    · exact ⟨pS2, dS2, gS2⟩
  · intro h; cases h
    · exact ⟨pB1, dB1, gB1⟩
    · exact ⟨pB2, dB2, gB2⟩
  · intro h; cases h
    · exact ⟨pX1, dX1, gX1⟩
    · exact ⟨pX2, dX2, gX2⟩
  · intro h; cases h
    · exact ⟨pT1, dT1, gT1⟩
    · exact ⟨pT2, dT2, gT2⟩
  · intro h; cases h
    · exact rS1
    · exact rS2
  · intro h; cases h
    · exact rB1
    · exact rB2
  · intro h; cases h
    · exact rX1
    · exact rX2
  · intro h; cases h
    · exact rT1
    · exact rT2
  · intro h g; cases h
    · exact (hz g).1
    · exact (hz g).2
  · exact fin
end
end Go.Proofs.YtppmcbkcohiodaaW.PrintLast
