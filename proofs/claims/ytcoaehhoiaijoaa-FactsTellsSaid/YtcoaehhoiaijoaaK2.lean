/- Texts of this claim, put together (wip/pack.py): Reals. -/
import Derived.Test.YtcoaehhoiaijoaaK1
import Derived.Maps.AppendAt
namespace Go.Proofs.Ytcoaehhoiaijoaa.Range
open Go Go.RowKit Go.Shelf Go.Proofs.YtcoaehhoiaijoaaW.PrintWords Go.Proofs.Ytcoaehhoiaijoaa.Fl
attribute [local go_sem] Oper.semAt_some
set_option maxHeartbeats 8000000
set_option maxRecDepth 100000
set_option linter.unusedVariables false
/-- The four numbers of round k. -/
def chunk (l : List Int) (k : Nat) : List Int := (l.drop (4 * k)).take 4
def vals (l : List Int) (k : Nat) : List Nat := (List.range k).map fun j => (ofF (chunk l j)).1
def okUpto (l : List Int) (k : Nat) : Prop := ∀ j, j < k → (ofF (chunk l j)).2 = true
def fls (xs : List Nat) : List Value := xs.map (Value.float .f64)
theorem chunk_length (l : List Int) (k : Nat) (h : 4 * k + 4 ≤ l.length) : (chunk l k).length = 4 := by
  unfold chunk; rw [List.length_take, List.length_drop]; omega
theorem vals_succ (l : List Int) (k : Nat) : fls (vals l (k + 1)) = fls (vals l k) ++ [.float .f64 (ofF (chunk l k)).1] := by
  unfold fls vals; rw [List.range_succ]; simp
theorem okUpto_succ {l : List Int} {k : Nat} (h : okUpto l k) (h1 : (ofF (chunk l k)).2 = true) : okUpto l (k + 1) := fun j hj => by
  by_cases e : j = k
  · rw [e]; exact h1
  · exact h j (by omega)
theorem add_add' (a : Addr) (i j : Nat) : (a.add i).add j = a.add (i + j) := by
  unfold Addr.add
  by_cases h1 : i = 0 <;> by_cases h2 : j = 0 <;> simp [h1, h2, Nat.add_assoc]
theorem chunk_C {W : World} {ad : Addr} {l : List Int} (h : Kd.C (Kd.int .i64) W (some ad) l.length l) (k : Nat) (hk : 4 * k + 4 ≤ l.length) : Kd.C (Kd.int .i64) W (some (ad.add (4 * k))) (chunk l k).length (chunk l k) := by
  refine ⟨rfl, by rw [chunk_length l k hk]; omega, fun _ => ⟨_, rfl, fun j p hp => ?_⟩⟩
  obtain ⟨ad', e, hc⟩ := h.2.2 (by omega)
  cases e
  have hj : j < 4 := by rw [← chunk_length l k hk]; exact (List.getElem?_eq_some_iff.1 hp).1
  have hp' : l[4 * k + j]? = some p := by
    unfold chunk at hp
    rw [List.getElem?_take, if_pos hj, List.getElem?_drop] at hp
    exact hp
  obtain ⟨c, h1, h2, h3⟩ := hc _ _ hp'
  refine ⟨c, h1, h2, fun i u hu => ?_⟩
  have := h3 i u hu
  rw [add_add', show 4 * k + (j * (Kd.int .i64).sz + i) = (4 * k + j) * (Kd.int .i64).sz + i from by rw [Nat.add_mul]; show 4 * k + (j * 1 + i) = 4 * k * 1 + j * 1 + i; omega]
  exact this
/-- Behind i floats, k rounds of numbers being taken away. -/
structure J (n0 : Nat) (w0 : World) (ad : Addr) (c0 : Nat) (l : List Int) (i k : Nat) (W : World) : Prop where
  out : ∃ v, Boxed W (n0 + 2) 55 v ∧ W.ownsRow n0 37 1 v i (fls (vals l i))
  left : ∃ A r c, Boxed W (n0 + 3) 22 (.slice A r c) ∧ Left ad l.length c0 (n0 + 3) k A r c
  r1 : Boxed W n0 55 (.slice none 0 0)
  r2 : Boxed W (n0 + 1) 4 (.bool false)
  ok : okUpto l i
  below : Below n0 w0 W
theorem J.kept {n0 : Nat} {w0 : World} {ad : Addr} {c0 : Nat} {l : List Int} {i k : Nat} {W W' : World} {row : Option Nat} (h : J n0 w0 ad c0 l i k W) (hg : W.grownBy W' row) (hr : ∀ r, row = some r → n0 ≤ r ∧ ∃ o : Obj, W.heap[r]? = some o ∧ o.isCells = false) : J n0 w0 ad c0 l i k W' := by
  have hne : ∀ {B t v}, Boxed W B t v → some B ≠ row := fun {B t v} hb e => by
    obtain ⟨_, o, ho, hc⟩ := hr B e.symm
    rw [show W.heap[B]? = _ from hb] at ho; cases ho; cases hc
  obtain ⟨v, hv, hrow⟩ := h.out
  obtain ⟨A, r, c, hb, hl⟩ := h.left
  refine ⟨⟨v, hv.kept hg (hne hv), hrow.kept hg ?_⟩, ⟨A, r, c, hb.kept hg (hne hb), hl⟩, h.r1.kept hg (hne h.r1), h.r2.kept hg (hne h.r2), h.ok, h.below.trans ⟨hg.os, hg.tape, hg.output, hg.size, fun b hb => hg.block b (by have := h.r1.lt; omega) (fun e => by have := (hr b e.symm).1; omega)⟩⟩
  rcases hrow.2 with ⟨rfl, _⟩ | ⟨g, cap, cur, rfl, _, hgb, _⟩
  · exact .inl rfl
  · refine .inr (fun e => ?_)
    obtain ⟨_, o, ho, hc⟩ := hr g (by rw [← e]; rfl)
    rw [hgb] at ho; cases ho; cases hc
theorem J.put {n0 : Nat} {w0 : World} {ad : Addr} {c0 : Nat} {l : List Int} {i k : Nat} {W : World} (h : J n0 w0 ad c0 l i k W) (b : Nat) (o : Obj) (hb : n0 ≤ b) (ho : ∃ o', W.heap[b]? = some o' ∧ o'.isCells = false) : J n0 w0 ad c0 l i k (W.putObj b o) :=
  h.kept (grownBy_putObj' W b o) (fun r e => by cases e; exact ⟨hb, ho⟩)
theorem J.alloc {n0 : Nat} {w0 : World} {ad : Addr} {c0 : Nat} {l : List Int} {i k : Nat} {W : World} (h : J n0 w0 ad c0 l i k W) (o : Obj) : J n0 w0 ad c0 l i k (W.alloc o) :=
  h.kept (World.grownBy_alloc W o none) (fun r e => by cases e)
theorem J.grow {n0 : Nat} {w0 : World} {ad : Addr} {c0 : Nat} {l : List Int} {i k : Nat} {W W' : World} (h : J n0 w0 ad c0 l i k W) (hb : Below W.heap.size W W') : J n0 w0 ad c0 l i k W' :=
  h.kept (row := none) ⟨hb.os, hb.tape, hb.output, hb.size, fun k hk _ => hb.block k hk⟩ (fun r e => by cases e)
theorem J.took {n0 : Nat} {w0 : World} {ad : Addr} {c0 : Nat} {l : List Int} {i k k' : Nat} {W : World} {A : Option Addr} {r c : Nat} (h : J n0 w0 ad c0 l i k W) (hl : Left ad l.length c0 (n0 + 3) k' A r c) : J n0 w0 ad c0 l i k' (W.setCell ⟨n0 + 3, 0, none⟩ (.slice A r c)) := by
  obtain ⟨v, hv, hrow⟩ := h.out
  obtain ⟨A', r', c', hb, _⟩ := h.left
  have hg := grownBy_setCell' W (n0 + 3) (.slice A r c)
  refine ⟨⟨v, hv.other (by omega) _, hrow.kept hg ?_⟩, ⟨A, r, c, hb.set _, hl⟩, h.r1.other (by omega) _, h.r2.other (by omega) _, h.ok, h.below.trans ((Below.refl n0 W).setCell (p := ⟨n0 + 3, 0, none⟩) (by show n0 ≤ n0 + 3; omega) _)⟩
  have := hb.not_row (by decide) hrow
  exact .inr (fun e => this e.symm)
/-- A round has returned. -/
structure Jx (n0 : Nat) (w0 : World) (l : List Int) (k : Nat) (W : World) : Prop where
  r1 : Boxed W n0 55 (.slice none 0 0)
  r2 : Boxed W (n0 + 1) 4 (.bool false)
  no : k < l.length / 4 ∧ (ofF (chunk l k)).2 = false
  below : Below n0 w0 W
theorem Jx.put {n0 : Nat} {w0 : World} {l : List Int} {k : Nat} {W : World} (h : Jx n0 w0 l k W) (b : Nat) (o : Obj) (hb : n0 ≤ b) (ho : ∃ o', W.heap[b]? = some o' ∧ o'.isCells = false) : Jx n0 w0 l k (W.putObj b o) := by
  have hg := grownBy_putObj' W b o
  have hne : ∀ {B t v}, Boxed W B t v → some B ≠ some b := fun {B t v} hb e => by
    obtain ⟨o, ho, hc⟩ := ho
    have e' : B = b := by injection e
    have hb' : W.heap[B]? = _ := hb
    rw [e', ho] at hb'; cases hb'; cases hc
  exact ⟨h.r1.kept hg (hne h.r1), h.r2.kept hg (hne h.r2), h.no, h.below.trans ⟨hg.os, hg.tape, hg.output, hg.size, fun k hk => hg.block k (by have := h.r1.lt; omega) (fun e => by cases e; omega)⟩⟩
end Go.Proofs.Ytcoaehhoiaijoaa.Range
