/- Texts of this claim, put together (wip/pack.py): Raw, RegInv. -/
import Derived.Test.YtppmcbkcohiodaaK24
import Derived.Test.YtppmcbkcohiodaaK7
import Derived.Test.YtppmcbkcohiodaaK1
namespace Go.Proofs.YtppmcbkcohiodaaW.PrintWords
open Go.RowKit
set_option linter.unusedVariables false
/-- An element's cells, as they stand. -/
def Kd.rawc (n : Nat) : Kd (List Value) where
  sz := n
  E := []
  K := fun _ x cs => cs = x ∧ x.length = n ∧ ∀ u ∈ x, u.oneCell' = true
  M := fun _ _ _ x cs => cs = x ∧ x.length = n ∧ ∀ u ∈ x, u.oneCell' = true
  K_len := fun h => by rw [h.1]; exact h.2.1
  K_one := fun h u hu => h.2.2 u (h.1 ▸ hu)
  K_below := fun _ h => h
  K_of_M := fun h => h
  M_mono := fun _ h => h
  M_bound := fun h => h
  M_move := fun _ h => h
  M_lower := fun _ h => h
/-- Elements and their cells. -/
def Linked {α : Type} (d : Kd α) (w : World) (xs : List α) (rs : List (List Value)) : Prop := rs.length = xs.length ∧ ∀ (j : Nat) x r, xs[j]? = some x → rs[j]? = some r → d.K w x r
theorem Linked.below {α : Type} {d : Kd α} {w w' : World} {xs : List α} {rs : List (List Value)} (h : Linked d w xs rs) (hb : Below w.heap.size w w') : Linked d w' xs rs := ⟨h.1, fun j x r hx hr => d.K_below hb (h.2 j x r hx hr)⟩
theorem Linked.append {α : Type} {d : Kd α} {w : World} {xs ys : List α} {rs ss : List (List Value)} (h : Linked d w xs rs) (h' : Linked d w ys ss) : Linked d w (xs ++ ys) (rs ++ ss) := by
  refine ⟨by rw [List.length_append, List.length_append, h.1, h'.1], fun j x r hx hr => ?_⟩
  by_cases hj : j < xs.length
  · rw [List.getElem?_append_left hj] at hx
    rw [List.getElem?_append_left (by rw [h.1]; exact hj)] at hr
    exact h.2 j x r hx hr
  · rw [List.getElem?_append_right (by omega)] at hx
    rw [List.getElem?_append_right (by rw [h.1]; omega), h.1] at hr
    exact h'.2 _ x r hx hr
theorem Linked.drop {α : Type} {d : Kd α} {w : World} {xs : List α} {rs : List (List Value)} (h : Linked d w xs rs) (k : Nat) : Linked d w (xs.drop k) (rs.drop k) := by
  refine ⟨by rw [List.length_drop, List.length_drop, h.1], fun j x r hx hr => ?_⟩
  rw [List.getElem?_drop] at hx hr
  exact h.2 _ x r hx hr
theorem Linked.take {α : Type} {d : Kd α} {w : World} {xs : List α} {rs : List (List Value)} (h : Linked d w xs rs) (k : Nat) : Linked d w (xs.take k) (rs.take k) := by
  refine ⟨by rw [List.length_take, List.length_take, h.1], fun j x r hx hr => ?_⟩
  rw [List.getElem?_take] at hx hr
  by_cases hj : j < k
  · rw [if_pos hj] at hx hr; exact h.2 _ x r hx hr
  · rw [if_neg hj] at hx; cases hx
theorem Linked.one {α : Type} {d : Kd α} {w : World} {x : α} {r : List Value} (h : d.K w x r) : Linked d w [x] [r] := by
  refine ⟨rfl, fun j y s hy hs => ?_⟩
  match j, hy, hs with
  | 0, hy, hs => cases hy; cases hs; exact h
theorem Linked.nil {α : Type} {d : Kd α} {w : World} : Linked d w ([] : List α) [] := ⟨rfl, fun j y s hy hs => by simp at hy⟩
theorem rawc_of_C {α : Type} {d : Kd α} {w : World} {A : Option Addr} {n : Nat} {xs : List α} (h : Kd.C d w A n xs) : ∃ rs, Kd.C (Kd.rawc d.sz) w A n rs ∧ Linked d w xs rs := by
  by_cases hn : 0 < n
  · obtain ⟨ad, e, hc⟩ := h.2.2 hn
    have key : ∀ m, m ≤ xs.length → ∃ rs : List (List Value), rs.length = m ∧ ∀ (j : Nat) x r, xs[j]? = some x → rs[j]? = some r → (r.length = d.sz ∧ d.K w x r ∧ ∀ (i : Nat) u, r[i]? = some u → w.cell? (ad.add (j * d.sz + i)) = some u) := by
      intro m
      induction m with
      | zero => intro _; exact ⟨[], rfl, fun j x r _ hr => by simp at hr⟩
      | succ m ih =>
        intro hm
        obtain ⟨rs, h1, h2⟩ := ih (by omega)
        obtain ⟨c, c1, c2, c3⟩ := hc m (xs[m]) (List.getElem?_eq_getElem (by omega))
        refine ⟨rs ++ [c], by rw [List.length_append, h1]; rfl, fun j x r hx hr => ?_⟩
        by_cases hj : j < rs.length
        · rw [List.getElem?_append_left hj] at hr; exact h2 j x r hx hr
        · have hlt := (List.getElem?_eq_some_iff.1 hr).1
          rw [List.length_append, List.length_singleton] at hlt
          obtain rfl : j = m := by omega
          rw [List.getElem?_append_right (by omega), h1, Nat.sub_self] at hr
          cases hr
          rw [List.getElem?_eq_getElem (by omega)] at hx
          cases hx
          exact ⟨c1, c2, c3⟩
    obtain ⟨rs, h1, h2⟩ := key xs.length (Nat.le_refl _)
    refine ⟨rs, ⟨by rw [h1]; exact h.1, h.2.1, fun _ => ⟨ad, e, fun j r hr => ?_⟩⟩, h1, fun j x r hx hr => (h2 j x r hx hr).2.1⟩
    have hj : j < xs.length := by have := (List.getElem?_eq_some_iff.1 hr).1; omega
    obtain ⟨q1, q2, q3⟩ := h2 j _ r (List.getElem?_eq_getElem hj) hr
    exact ⟨r, q1, ⟨rfl, q1, fun u hu => d.K_one q2 u hu⟩, q3⟩
  · obtain rfl : n = 0 := by omega
    have hx : xs = [] := List.length_eq_zero_iff.1 h.1
    subst hx
    exact ⟨[], ⟨rfl, by decide, fun h => absurd h (by omega)⟩, Linked.nil⟩
theorem C_of_rawc {α : Type} {d : Kd α} {w : World} {A : Option Addr} {n : Nat} {xs : List α} {rs : List (List Value)} (h : Kd.C (Kd.rawc d.sz) w A n rs) (hl : Linked d w xs rs) : Kd.C d w A n xs := by
  refine ⟨by rw [← hl.1]; exact h.1, h.2.1, fun hn => ?_⟩
  obtain ⟨ad, e, hc⟩ := h.2.2 hn
  refine ⟨ad, e, fun j x hx => ?_⟩
  have hj : j < rs.length := by rw [hl.1]; exact (List.getElem?_eq_some_iff.1 hx).1
  obtain ⟨c, c1, ⟨rfl, _, _⟩, c3⟩ := hc j _ (List.getElem?_eq_getElem hj)
  exact ⟨_, c1, hl.2 j x _ hx (List.getElem?_eq_getElem hj), c3⟩
theorem rawc_KM {n : Nat} {w w' : World} {base : Nat} {ok : Nat → Prop} {x cs : List Value} (h : (Kd.rawc n).K w x cs) : (Kd.rawc n).M w' base ok x cs := h
end Go.Proofs.YtppmcbkcohiodaaW.PrintWords
namespace Go.Proofs.YtppmcbkcohiodaaW.PrintLast
open Go.RowKit Go.Proofs.YtppmcbkcohiodaaW.PrintWords
set_option linter.unusedVariables false
/-- All rows of so many Bools. -/
def listsB : Nat → List (List Bool)
  | 0 => [[]]
  | n + 1 => (listsB n).flatMap fun l => [false :: l, true :: l]
theorem mem_listsB : ∀ (l : List Bool), l ∈ listsB l.length
  | [] => List.mem_cons_self
  | b :: l => by
    rw [List.length_cons, listsB, List.mem_flatMap]
    exact ⟨l, mem_listsB l, by cases b <;> simp⟩
/-- Nothing is ready where all has come up, and only there; what is ready has not come up. -/
def endB (T : List (List Nat × List Nat)) (n : Nat) : Bool := (listsB n).all fun l => (!(readyT T l == []) || l == List.replicate n true) && (readyT T l).all (fun i => !(l.getD i true))
/-- What is ready has these behind it. -/
def predB (T : List (List Nat × List Nat)) (n i : Nat) (js : List Nat) : Bool := (listsB n).all fun l => !((readyT T l).contains i) || (js.all fun j => l.getD j false)
theorem end_of {T : List (List Nat × List Nat)} {n : Nat} (h : endB T n = true) {l : List Bool} (hl : l.length = n) : (readyT T l = [] → l = List.replicate n true) ∧ ∀ i ∈ readyT T l, l.getD i true = false := by
  have := List.all_eq_true.1 h l (hl ▸ mem_listsB l)
  rw [Bool.and_eq_true, Bool.or_eq_true, Bool.not_eq_true', List.all_eq_true] at this
  refine ⟨fun e => ?_, fun i hi => by simpa using this.2 i hi⟩
  rcases this.1 with h1 | h1
  · rw [e] at h1; cases h1
  · exact eq_of_beq h1
theorem pred_of {T : List (List Nat × List Nat)} {n i : Nat} {js : List Nat} (h : predB T n i js = true) {l : List Bool} (hl : l.length = n) (hi : i ∈ readyT T l) : ∀ j ∈ js, l.getD j false = true := by
  have := List.all_eq_true.1 h l (hl ▸ mem_listsB l)
  rw [Bool.or_eq_true, Bool.not_eq_true'] at this
  rcases this with h1 | h1
  · rw [List.contains_iff_mem.2 hi] at h1; cases h1
  · exact List.all_eq_true.1 h1
theorem count_set : ∀ (l : List Bool) (i : Nat), l.getD i true = false → (l.set i true).count false + 1 = l.count false
  | [], i, h => by simp at h
  | b :: l, 0, h => by
    have : b = false := by simpa using h
    subst this
    simp
  | b :: l, i + 1, h => by
    have ih := count_set l i (by simpa using h)
    cases b <;> simp [List.set_cons_succ] <;> omega
section
variable {P : Program} {ops : Array Oper} {Q : Exit → Act → World → Prop} {S : World → Prop}
theorem reg_inv {n : Nat} {I : List Bool → Act → World → Prop} (hS : ∀ l a W, I l a W → S W) (he : endB (rtab .any ops).2 n = true)
    (hstep : ∀ (l : List Bool) (a : Act) (W : World) (i : Nat), l.length = n → I l a W → i ∈ readyT (rtab .any ops).2 l → ∃ oi, ops[i]? = some oi ∧ ∀ K : Act → World → Prop, (∀ a' W', I (l.set i true) a' W' → K a' W') → if Region.wanted oi (yielded ops a.tmps) = true then Oper.wp P oi a W K Q else K (a.put oi.dst undef) W)
    (hdone : ∀ a W, I (List.replicate n true) a W → Q .normal a W) :
    ∀ (fuel : Nat) (l : List Bool) (a : Act) (W : World), l.length = n → l.count false ≤ fuel → I l a W → wpAnyLast P .any ops Q S [] fuel l.toArray a W
  | 0, l, a, W, hl, hc, hI => by
    have e : l = List.replicate n true := by
      refine List.eq_replicate_iff.2 ⟨hl, fun b hb => ?_⟩
      cases b with
      | true => rfl
      | false => exact absurd (List.count_pos_iff.2 hb) (by omega)
    have hr : readyT (rtab .any ops).2 l = [] := by
      refine List.eq_nil_iff_forall_not_mem.2 (fun i hi => ?_)
      have h1 := (end_of he hl).2 i hi
      rw [e] at h1
      by_cases hin : i < n
      · simp [List.getD_eq_getElem?_getD, hin] at h1
      · simp [List.getD_eq_getElem?_getD, hin] at h1
    refine ⟨by rw [ready_eq]; exact hr, hdone a W (e ▸ hI)⟩
  | fuel + 1, l, a, W, hl, hc, hI => by
    refine ⟨fun h => ?_, fun i hi => ?_⟩
    · rw [ready_eq] at h
      exact hdone a W ((end_of he hl).1 h ▸ hI)
    · rw [ready_eq] at hi
      obtain ⟨oi, ho, hK⟩ := hstep l a W i hl hI hi
      have hf := (end_of he hl).2 i hi
      refine wpOp_step ho (fun K' hK' => hK K' (fun a' W' hI' => hK' a' W' ⟨fun _ _ => hS _ _ _ hI', ?_⟩))
      have := reg_inv hS he hstep hdone fuel (l.set i true) a' W' (by rw [List.length_set]; exact hl) (by have := count_set l i hf; omega) hI'
      simpa using this
end
end Go.Proofs.YtppmcbkcohiodaaW.PrintLast
