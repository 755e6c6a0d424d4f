/- Texts of this claim, put together (wip/pack.py): SpanRdR, RegRows, SpanCuts, RegLay. -/
import Derived.Test.YtppmcbkcohiodaaK3
import Derived.Test.YtppmcbkcohiodaaK1
import Derived.Test.YtppmcbkcohiodaaK6
namespace Go.Proofs.Ytppmcbkcohiodaa.Spans
open Go.RowKit Go.Proofs.Ytppmcbkcohiodaa.PMeanTells
theorem rdR (l : List R) (i : Nat) (h : i < l.length) : rd_T55 l (i : Int) = l[i] := by unfold rd_T55; rw [Int.toNat_natCast, List.getD_eq_getElem?_getD, List.getElem?_eq_getElem h]; rfl
end Go.Proofs.Ytppmcbkcohiodaa.Spans
namespace Go.Proofs.YtppmcbkcohiodaaW.PrintLast
open Go.RowKit Go.Proofs.YtppmcbkcohiodaaW.PrintWords
section
variable {P : Program} {ops : Array Oper} {Q : Exit → Act → World → Prop} {S : World → Prop} {o : List Nat} {n fuel k : Nat} {a : Act} {W : World}
theorem reg_rows {α : Type} (d : Kd α) (Rr : α → List Value → Prop) (w0 : World) (base : Nat) {i : Nat} {N : Tmp} {oi : Oper} (_ho : o[k]? = some i) (hi : ops[i]? = some oi) (hN : oi.dst = some N)
    (hc : (readyT (rtab .any ops).2 (dn o k n).toList == [i] && (dn o k n).toList.set i true == (dn o (k + 1) n).toList) = true) (hw : Region.wanted oi (yielded ops a.tmps) = true) (s x : Operand) (t e : TypeId) (z : Value) (bytes : Nat)
    (ho : oi.op = .call { callee := .builtin .append, args := #[s, x], argTypes := #[t, t] })
    (ht : P.underlying t = some (.slice e)) (hinfo : (P.info? e).map (fun i => (i.zero, i.size, i.bytes)) = some (some z, d.sz, bytes)) (hz : z.cells.size = d.sz) (hs0 : 0 < d.sz) (hb0 : 0 < bytes)
    (v : Value) (xs ys : List α) (A : Option Addr) (m c : Nat) (ok okp : Nat → Prop) (hs : a.eval s = v) (hx : a.eval x = .slice A m c)
    (HO : d.R e W base ok v xs) (HR : ReadsRow Rr d.sz W A m ys) (hKM : ∀ x cs, Rr x cs → d.M W base okp x cs) (hokp : ∀ k, okp k → ok k ∧ some k ≠ v.ownBlock) (hfresh : ∀ k, W.heap.size ≤ k → ok k)
    (HB : Below base w0 W) (hbase : base ≤ W.heap.size) (hl : (xs.length + m) * bytes ≤ 140737488355328) (hS : ∀ w1, Below base w0 w1 → S w1)
    (h : ∀ v1 w1, d.R e w1 base ok v1 (xs ++ ys) → Below base w0 w1 → W.grownBy w1 v.ownBlock → (v1.ownBlock = v.ownBlock ∨ ∃ b, v1.ownBlock = some b ∧ W.heap.size ≤ b) → ∀ a', a.put (some N) v1 = a' → wpAnyLast P .any ops Q S [] fuel (dn o (k + 1) n) a' w1) : wpAnyLast P .any ops Q S [] (fuel + 1) (dn o k n) a W := by
  refine one_ (dn o (k + 1) n) hi rfl (one_of rfl hc) (by simp) (fun K hK => ?_)
  refine Kd.R_append_rows_step d base hw s x t e z bytes ho ht hinfo hz hs0 hb0 v xs ys A m c ok okp hs hx HO HR hKM hokp hfresh HB hbase hl (fun v1 w1 hr hb hg hat => ?_)
  rw [hN]
  exact hK _ _ (hS w1 hb) (fun _ => h v1 w1 hr hb hg hat _ rfl)
end
end Go.Proofs.YtppmcbkcohiodaaW.PrintLast
namespace Go.Proofs.Ytppmcbkcohiodaa.PMeanTells
open Go Go.RowKit Go.Proofs.YtppmcbkcohiodaaW.PrintWords Go.Proofs.YtppmcbkcohiodaaW.PrintLast Go.Proofs.Ytppmcbkcohiodaa.Spans Go.Proofs.Ytppmcbkcohiodaa.Base
set_option maxHeartbeats 2000000
set_option maxRecDepth 100000
set_option linter.unusedVariables false
set_option linter.unusedSimpArgs false
/-- An empty row of ranges, made. -/
theorem empty_R (w : World) : Kd.R k55 55 (w.alloc (.cells #[] 55)) w.heap.size (fun _ => True) (.slice (some ⟨w.heap.size, 0, none⟩) 0 0) [] :=
  ⟨fun _ _ => trivial, [], ⟨rfl, .inr ⟨w.heap.size, 0, #[], rfl, Nat.le_refl _, blk_new w _, Nat.le_refl _, by unfold maxLen; omega, rfl, rfl⟩⟩, Reps.none _ _⟩
theorem cutR (A : Option Addr) (l : List R) (c m : Nat) (hm : m ≤ l.length) (hc : l.length ≤ c) :
    ∃ A' : Option Addr, (∀ W : World, (Instr.slice 22 (.slice A l.length c) (some (.int .i64 (m : Int))) none none).run Try.prog W = .ok (.slice A' (l.length - m) (c - m)) W) ∧ ∀ w : World, Kd.C k55 w A l.length l → Kd.C k55 w A' (l.length - m) (l.drop m) := by
  obtain ⟨i, hi, hz⟩ := Option.map_eq_some_iff.1 info55
  simp only [Prod.mk.injEq] at hz
  refine ⟨if c = m then A else A.map (·.add (m * k55.sz)), fun W => ?_, fun w h => by have := Kd.C_drop h hm hc; rwa [List.length_drop] at this⟩
  have h := cut_from (P := Try.prog) 22 55 .i64 Try.underlying22 hi 2 hz.2.1 A l.length c (m : Int) (by omega) (by omega) W
  rw [Int.toNat_natCast] at h
  exact h
theorem toR (A : Option Addr) (l : List R) (c m : Nat) (hm : m ≤ l.length) (hc : l.length ≤ c) :
    (∀ W : World, (Instr.slice 22 (.slice A l.length c) none (some (.int .i64 (m : Int))) none).run Try.prog W = .ok (.slice A m c) W) ∧ ∀ w : World, Kd.C k55 w A l.length l → Kd.C k55 w A m (l.take m) := by
  obtain ⟨i, hi, hz⟩ := Option.map_eq_some_iff.1 info55
  refine ⟨fun W => ?_, fun w h => by have := Kd.C_take h hm; rwa [List.length_take, Nat.min_eq_left hm] at this⟩
  have h := cut_to (P := Try.prog) 22 55 .i64 Try.underlying22 hi A l.length c (m : Int) (by omega) (by omega) hc W
  rw [Int.toNat_natCast] at h
  exact h
theorem fit_of {l : List R} (h : ∀ x ∈ l, (Lit.int .i64 x.f0).wf = true ∧ (Lit.int .i64 x.f1).wf = true) : Fit l := fun x hx => ⟨wf64 (h x hx).1, wf64 (h x hx).2⟩
theorem has_turned (l : List R) (k : Nat) (n : Int) : hasB (l.drop k ++ l.take k) n = hasB l n := by
  rw [hasB_append, Bool.or_comm, ← hasB_append, List.take_append_drop]
end Go.Proofs.Ytppmcbkcohiodaa.PMeanTells
namespace Go.Proofs.YtppmcbkcohiodaaW.PrintLast
open Go.RowKit Go.Proofs.YtppmcbkcohiodaaW.PrintWords
set_option linter.unusedVariables false
section
variable {P : Program} {ops : Array Oper} {Q : Exit → Act → World → Prop} {S : World → Prop} {a : Act} {W : World}
/-- Which may come up when: i, then j; k whenever. -/
def layB (T : List (List Nat × List Nat)) (l lf : List Bool) (i j k : Nat) : Bool :=
  readyT T l == [i, k] && readyT T (l.set i true) == [j, k] && readyT T ((l.set i true).set j true) == [k] && readyT T ((l.set i true).set k true) == [j] && readyT T (l.set k true) == [i] && readyT T ((l.set k true).set i true) == [j] &&
  ((l.set i true).set j true).set k true == lf && ((l.set i true).set k true).set j true == lf && ((l.set k true).set i true).set j true == lf
theorem ready_of {l : Array Bool} {rs : List Nat} (h : readyT (rtab .any ops).2 l.toList = rs) : Region.ready .any ops l = rs := by rw [ready_eq]; exact h
theorem reg_lay {α : Type} (d : Kd α) (Rr : α → List Value → Prop) (w0 : World) {o : List Nat} {n fuel kk : Nat} {i j k Ni Nj Nk : Nat} {oi oj ok_ : Oper}
    (hB : layB (rtab .any ops).2 (dn o kk n).toList (dn o (kk + 3) n).toList i j k = true) (hi : ops[i]? = some oi) (hj : ops[j]? = some oj) (hk : ops[k]? = some ok_) (hNi : oi.dst = some Ni) (hNj : oj.dst = some Nj) (hNk : ok_.dst = some Nk) (hn1 : Ni ≠ Nj) (hn2 : Ni ≠ Nk) (hn3 : Nj ≠ Nk)
    (gi : oi.guard = none) (gj : oj.guard = none) (gk : ok_.guard = none) (x : Operand) (t e : TypeId) (z : Value) (bytes : Nat) (p : α) (cs : List Value)
    (ri : ∀ (W : World) (a' : Act), Away [Ni, Nj, Nk] a a' → (execOp a'.eval oi).run P W = .ok (.value (.slice (some ⟨W.heap.size, 0, none⟩) 0 0)) (W.alloc (.cells #[] e)))
    (rk : ∀ (W : World) (a' : Act), Away [Ni, Nj, Nk] a a' → (execOp a'.eval ok_).run P W = .ok (.value (.slice (some ⟨W.heap.size, 0, none⟩) 1 1)) (W.alloc (.cells cs.toArray e)))
    (ho : oj.op = .call { callee := .builtin .append, args := #[.tmp Ni, x], argTypes := #[t, t] }) (hxo : offB [Ni, Nj, Nk] x = true) (hsz : Ni < a.tmps.size)
    (ht : P.underlying t = some (.slice e)) (hinfo : (P.info? e).map (fun i => (i.zero, i.size, i.bytes)) = some (some z, d.sz, bytes)) (hz : z.cells.size = d.sz) (hs0 : 0 < d.sz) (hb0 : 0 < bytes)
    (ys : List α) (A : Option Addr) (m c : Nat) (hx : a.eval x = .slice A m c) (HR : ∀ W', Below w0.heap.size w0 W' → ReadsRow (Rr) d.sz W' A m ys) (hKM : ∀ W' okp x cs, Below w0.heap.size w0 W' → Rr x cs → d.M W' w0.heap.size okp x cs)
    (HB : Below w0.heap.size w0 W) (hl : m * bytes ≤ 140737488355328) (hS : ∀ w1, Below w0.heap.size w0 w1 → S w1)
    (h : ∀ v0 v1 g w1, d.R e w1 w0.heap.size (fun q => q ≠ g) v1 ys → Below w0.heap.size w0 w1 → w0.heap.size ≤ g → w1.heap[g]? = some (.cells cs.toArray e (0, 0)) →
      ∀ a', ((a.put (some Ni) v0).put (some Nj) v1).put (some Nk) (.slice (some ⟨g, 0, none⟩) 1 1) = a' → wpAnyLast P .any ops Q S [] fuel (dn o (kk + 3) n) a' w1) : wpAnyLast P .any ops Q S [] (fuel + 3) (dn o kk n) a W := by
  have hR0 : ∀ (W : World), w0.heap.size ≤ W.heap.size → d.R e (W.alloc (.cells #[] e)) w0.heap.size (fun q => W.heap.size ≤ q) (.slice (some ⟨W.heap.size, 0, none⟩) 0 0) [] := fun W hb =>
    ⟨fun q hq => (by injection hq with hq; exact Nat.le_of_eq hq), [], ⟨by simp, .inr ⟨W.heap.size, 0, #[], rfl, hb, blk_new W _, Nat.le_refl _, by unfold maxLen; omega, by simp, by simp⟩⟩, Reps.none _ _⟩
  have hat : ∀ (b : Act) (v : Value), Ni < b.tmps.size → (b.put (some Ni) v).eval (.tmp Ni) = v := fun b v hb => by simp [Act.put, Act.eval, hb]
  have hat2 : ∀ (b : Act) (v u : Value), Ni < b.tmps.size → ((b.put (some Ni) v).put (some Nk) u).eval (.tmp Ni) = v := fun b v u hb => by rw [putc _ hn2]; exact hat _ v (by simpa [Act.put] using hb)
  have haw1 : ∀ v, Away [Ni, Nj, Nk] a (a.put (some Ni) v) := fun v => Away.put (by simp) v
  have haw2 : ∀ v, Away [Ni, Nj, Nk] a (a.put (some Nk) v) := fun v => Away.put (by simp) v
  have haw12 : ∀ v u, Away [Ni, Nj, Nk] a ((a.put (some Ni) v).put (some Nk) u) := fun v u => (haw1 v).trans (Away.put (by simp) u)
  have haw123 : ∀ v u, Away [Ni, Nj, Nk] a ((a.put (some Ni) v).put (some Nj) u) := fun v u => (haw1 v).trans (Away.put (by simp) u)
  have hax : ∀ a', Away [Ni, Nj, Nk] a a' → a'.eval x = .slice A m c := fun a' ha => (ha x (fun q hq => by subst hq; simpa [offB] using hxo)).trans hx
  have hwi : ∀ a' : Act, Region.wanted oi (yielded ops a'.tmps) = true := fun a' => by unfold Region.wanted; rw [gi]
  have hwj : ∀ a' : Act, Region.wanted oj (yielded ops a'.tmps) = true := fun a' => by unfold Region.wanted; rw [gj]
  have hwk : ∀ a' : Act, Region.wanted ok_ (yielded ops a'.tmps) = true := fun a' => by unfold Region.wanted; rw [gk]
  simp only [layB, Bool.and_eq_true, beq_iff_eq] at hB
  obtain ⟨⟨⟨⟨⟨⟨⟨⟨b1, b2⟩, b3⟩, b4⟩, b5⟩, b6⟩, b7⟩, b8⟩, b9⟩ := hB
  have f7 : (((dn o kk n).setIfInBounds i true).setIfInBounds j true).setIfInBounds k true = dn o (kk + 3) n := by apply Array.toList_inj.1; simpa using b7
  have f8 : (((dn o kk n).setIfInBounds i true).setIfInBounds k true).setIfInBounds j true = dn o (kk + 3) n := by apply Array.toList_inj.1; simpa using b8
  have f9 : (((dn o kk n).setIfInBounds k true).setIfInBounds i true).setIfInBounds j true = dn o (kk + 3) n := by apply Array.toList_inj.1; simpa using b9
  -- the appending, wherever
  have app : ∀ (l : Array Bool) (a' : Act) (W1 : World) (v0 : Value) (bl : Nat), Region.ready .any ops l = [j] → a'.eval (.tmp Ni) = v0 → a'.eval x = .slice A m c → Below w0.heap.size w0 W1 → d.R e W1 w0.heap.size (fun q => bl ≤ q) v0 [] → True → True := fun _ _ _ _ _ _ _ _ _ _ _ => trivial
  clear app
  refine wpAnyLast_ready (ready_of b1) (by simp) (AllReadyL.cons hi (by simp) (fun K hK => ?_) (AllReadyL.cons hk (by simp) (fun K hK => ?_) AllReadyL.nil))
  · -- i first
    rw [hNi]
    refine value_ (hwi a) hNi (ri W a (Away.refl _ _)) (hK _ _ (hS _ (below_alloc HB _)) (fun _ => ?_))
    have HB1 := below_alloc HB (.cells #[] e)
    have HR1 := hR0 W HB.size
    refine wpAnyLast_ready (ready_of (by simpa using b2)) (by simp) (AllReadyL.cons hj (by simp) (fun K hK => ?_) (AllReadyL.cons hk (by simp) (fun K hK => ?_) AllReadyL.nil))
    · -- then j, then k
      refine Kd.R_append_rows_step d w0.heap.size (hwj _) (.tmp Ni) x t e z bytes ho ht hinfo hz hs0 hb0 _ [] ys A m c (fun q => W.heap.size ≤ q) (fun q => W.heap.size ≤ q ∧ some q ≠ (Value.slice (some ⟨W.heap.size, 0, none⟩) 0 0).ownBlock) (hat a _ hsz) (hax _ (haw1 _)) HR1 (HR _ HB1) (fun x cs hx => hKM _ _ x cs HB1 hx) (fun q hq => hq) (fun q hq => by simp at hq; omega) HB1 HB1.size (by simpa using hl) (fun v1 w1 hr hb hg _ => ?_)
      rw [hNj]
      refine hK _ _ (hS _ hb) (fun _ => ?_)
      refine wpAnyLast_ready (ready_of (by simpa using b3)) (by simp) (AllReadyL.cons hk (by simp) (fun K hK => ?_) AllReadyL.nil)
      rw [hNk]
      refine value_ (hwk _) hNk (rk w1 _ (haw123 _ _)) (hK _ _ (hS _ (below_alloc hb _)) (fun _ => ?_))
      rw [f7]
      have hr' := Kd.R_bound hr
      rw [List.nil_append] at hr'
      exact h _ v1 w1.heap.size _ (Kd.R_mono (Kd.R_below hr' (below_alloc (Below.refl _ _) _)) (fun q hq => by have := hq.2.2.1; omega)) (below_alloc hb _) hb.size (blk_new w1 _) _ rfl
    · -- then k, then j
      rw [hNk]
      refine value_ (hwk _) hNk (rk _ _ (haw1 _)) (hK _ _ (hS _ (below_alloc HB1 _)) (fun _ => ?_))
      have HB2 := below_alloc HB1 (.cells cs.toArray e)
      have HR2 := Kd.R_below (Kd.R_bound HR1) (below_alloc (Below.refl _ (W.alloc (.cells #[] e))) (.cells cs.toArray e))
      have HK2 := blk_new (W.alloc (.cells #[] e)) (.cells cs.toArray e)
      refine wpAnyLast_ready (ready_of (by simpa using b4)) (by simp) (AllReadyL.cons hj (by simp) (fun K hK => ?_) AllReadyL.nil)
      refine Kd.R_append_rows_step d w0.heap.size (hwj _) (.tmp Ni) x t e z bytes ho ht hinfo hz hs0 hb0 (.slice (some ⟨W.heap.size, 0, none⟩) 0 0) [] ys A m c (fun q => q ≠ (W.alloc (.cells #[] e)).heap.size) (fun q => q ≠ (W.alloc (.cells #[] e)).heap.size ∧ some q ≠ (Value.slice (some ⟨W.heap.size, 0, none⟩) 0 0).ownBlock) (hat2 a _ _ hsz) (hax _ (haw12 _ _)) (Kd.R_mono HR2 (fun q hq => by have := hq.2.2.1; omega)) (HR _ HB2) (fun x cs hx => hKM _ _ x cs HB2 hx) (fun q hq => hq) (fun q hq => by simp at hq ⊢; omega) HB2 HB2.size (by simpa using hl) (fun v1 w1 hr hb hg _ => ?_)
      rw [hNj]
      refine hK _ _ (hS _ hb) (fun _ => ?_)
      rw [f8]
      rw [List.nil_append] at hr
      exact h _ v1 (W.alloc (.cells #[] e)).heap.size w1 hr hb HB1.size (blk_grown HK2 hg (by simp [Value.ownBlock])) _ (putc _ hn3 _ _)
  · -- k first
    rw [hNk]
    refine value_ (hwk a) hNk (rk W a (Away.refl _ _)) (hK _ _ (hS _ (below_alloc HB _)) (fun _ => ?_))
    have HB1 := below_alloc HB (.cells cs.toArray e)
    have HK1 := blk_new W (.cells cs.toArray e)
    refine wpAnyLast_ready (ready_of (by simpa using b5)) (by simp) (AllReadyL.cons hi (by simp) (fun K hK => ?_) AllReadyL.nil)
    rw [hNi]
    refine value_ (hwi _) hNi (ri _ _ (haw2 _)) (hK _ _ (hS _ (below_alloc HB1 _)) (fun _ => ?_))
    have HB2 := below_alloc HB1 (.cells #[] e)
    have HR2 := hR0 (W.alloc (.cells cs.toArray e)) HB1.size
    have HK2 := blk_alloc HK1 (.cells #[] e)
    refine wpAnyLast_ready (ready_of (by simpa using b6)) (by simp) (AllReadyL.cons hj (by simp) (fun K hK => ?_) AllReadyL.nil)
    refine Kd.R_append_rows_step d w0.heap.size (hwj _) (.tmp Ni) x t e z bytes ho ht hinfo hz hs0 hb0 (.slice (some ⟨(W.alloc (.cells cs.toArray e)).heap.size, 0, none⟩) 0 0) [] ys A m c (fun q => q ≠ W.heap.size) (fun q => q ≠ W.heap.size ∧ some q ≠ (Value.slice (some ⟨(W.alloc (.cells cs.toArray e)).heap.size, 0, none⟩) 0 0).ownBlock) (hat _ _ (by simpa [Act.put] using hsz)) (hax _ ((haw2 _).trans (Away.put (by simp) _))) (Kd.R_mono HR2 (fun q hq => by simp at hq; omega)) (HR _ HB2) (fun x cs hx => hKM _ _ x cs HB2 hx) (fun q hq => hq) (fun q hq => by simp at hq ⊢; omega) HB2 HB2.size (by simpa using hl) (fun v1 w1 hr hb hg _ => ?_)
    rw [hNj]
    refine hK _ _ (hS _ hb) (fun _ => ?_)
    rw [f9]
    rw [List.nil_append] at hr
    refine h (.slice (some ⟨(W.alloc (.cells cs.toArray e)).heap.size, 0, none⟩) 0 0) v1 W.heap.size w1 hr hb HB.size (blk_grown HK2 hg (by simp [Value.ownBlock])) _ ?_
    rw [putc _ hn3, putc _ hn2]
end
end Go.Proofs.YtppmcbkcohiodaaW.PrintLast
