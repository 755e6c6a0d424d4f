/- Texts of this claim, put together (wip/pack.py): SpanPure, Range, Float, RealWalk5. -/
import Derived.Test.YtppmcbkcohiodaaK0
import Derived.Test.YtppmcbkcohiodaaK2
import Derived.RangeFuncNested
import Derived.RangeFuncBound
import Derived.RangeFuncCalls
import Derived.RangeFuncLeaves
import Derived.Shelf.Abstract
import Derived.Shelf.RegionOpen
import Derived.WalkKit
import Derived.OwnWalkIn
import Derived.TacticsInMore
import Derived.LoopNIn
import Derived.LoopIn
import Derived.Test.YtppmcbkcohiodaaWMore
import Derived.Test.YtppmcbkcohiodaaProg
import Derived.Laws.Cover2
import Derived.Laws.FloatArith
namespace Go.Proofs.Ytppmcbkcohiodaa.Spans
open Go.RowKit Go.Proofs.Ytppmcbkcohiodaa.PMeanTells Go.Proofs.YtppmcbkcohiodaaW.PrintWords Go.Proofs.Ytppmcbkcohiodaa.Base
set_option linter.unusedVariables false
abbrev R := S55
def inB (r : R) (n : Int) : Bool := decide (r.f0 ≤ n) && decide (n ≤ r.f1)
def hasB (l : List R) (n : Int) : Bool := l.any fun r => inB r n
/-- In order. -/
def Rt (l : List R) : Prop := l.Pairwise (fun a b => a.f1 + 1 < b.f0) ∧ ∀ x ∈ l, x.f0 ≤ x.f1
/-- Of Go's numbers. -/
def Fit (l : List R) : Prop := ∀ x ∈ l, (-9223372036854775808 ≤ x.f0 ∧ x.f0 ≤ 9223372036854775807) ∧ (-9223372036854775808 ≤ x.f1 ∧ x.f1 ≤ 9223372036854775807)
theorem inB_iff (r : R) (n : Int) : inB r n = true ↔ r.f0 ≤ n ∧ n ≤ r.f1 := by simp [inB]
theorem hasB_iff (l : List R) (n : Int) : hasB l n = true ↔ ∃ r ∈ l, r.f0 ≤ n ∧ n ≤ r.f1 := by simp [hasB, inB]
theorem hasB_cons (r : R) (l : List R) (n : Int) : hasB (r :: l) n = (inB r n || hasB l n) := by simp [hasB]
theorem hasB_append (l m : List R) (n : Int) : hasB (l ++ m) n = (hasB l n || hasB m n) := by simp [hasB]
theorem hasB_nil (n : Int) : hasB [] n = false := rfl
theorem Rt.tail {r : R} {l : List R} (h : Rt (r :: l)) : Rt l := ⟨(List.pairwise_cons.1 h.1).2, fun x hx => h.2 x (List.mem_cons_of_mem _ hx)⟩
theorem Rt.sub {l m : List R} (h : Rt m) (hs : l.Sublist m) : Rt l := ⟨h.1.sublist hs, fun x hx => h.2 x (hs.subset hx)⟩
theorem Rt.after {r : R} {l : List R} (h : Rt (r :: l)) (n : Int) (hn : hasB l n = true) : r.f1 + 1 < n := by
  obtain ⟨x, hx, h0, _⟩ := (hasB_iff l n).1 hn
  have := (List.pairwise_cons.1 h.1).1 x hx
  omega
/-- What is in order is told by its numbers. -/
theorem uniq : ∀ {l m : List R}, Rt l → Rt m → (∀ n, hasB l n = hasB m n) → l = m
  | [], [], _, _, _ => rfl
  | [], s :: m, _, hm, h => by
    have := h s.f0
    rw [hasB_nil, hasB_cons, show inB s s.f0 = true from (inB_iff _ _).2 ⟨Int.le_refl _, hm.2 s List.mem_cons_self⟩] at this
    simp at this
  | r :: l, [], hl, _, h => by
    have := h r.f0
    rw [hasB_nil, hasB_cons, show inB r r.f0 = true from (inB_iff _ _).2 ⟨Int.le_refl _, hl.2 r List.mem_cons_self⟩] at this
    simp at this
  | r :: l, s :: m, hl, hm, h => by
    have hr := hl.2 r List.mem_cons_self
    have hs := hm.2 s List.mem_cons_self
    have one : ∀ {r s : R} {l m : List R}, Rt (r :: l) → Rt (s :: m) → (∀ n, hasB (r :: l) n = hasB (s :: m) n) → s.f0 ≤ r.f0 := by
      intro r s l m hl hm h
      have hr := hl.2 r List.mem_cons_self
      have h1 := h r.f0
      rw [hasB_cons, show inB r r.f0 = true from (inB_iff _ _).2 ⟨Int.le_refl _, hr⟩, Bool.true_or] at h1
      rw [hasB_cons, Eq.comm, Bool.or_eq_true] at h1
      rcases h1 with h1 | h1
      · exact ((inB_iff _ _).1 h1).1
      · have := hm.after _ h1
        have := hm.2 s List.mem_cons_self
        omega
    have e0 : r.f0 = s.f0 := by
      have := one hl hm h
      have := one hm hl (fun n => (h n).symm)
      omega
    have two : ∀ {r s : R} {l m : List R}, Rt (r :: l) → Rt (s :: m) → (∀ n, hasB (r :: l) n = hasB (s :: m) n) → r.f0 = s.f0 → r.f1 ≤ s.f1 := by
      intro r s l m hl hm h e0
      apply Classical.byContradiction
      intro hlt
      have hs := hm.2 s List.mem_cons_self
      have h1 := h (s.f1 + 1)
      rw [hasB_cons, show inB r (s.f1 + 1) = true from (inB_iff _ _).2 ⟨by omega, by omega⟩, Bool.true_or] at h1
      rw [hasB_cons, Eq.comm, Bool.or_eq_true] at h1
      rcases h1 with h1 | h1
      · have := ((inB_iff _ _).1 h1).2
        omega
      · have := hm.after _ h1
        omega
    have e1 : r.f1 = s.f1 := by
      have := two hl hm h e0
      have := two hm hl (fun n => (h n).symm) e0.symm
      omega
    have e : r = s := by cases r; cases s; simp_all
    subst e
    have et : l = m := uniq hl.tail hm.tail (fun n => by
      have h1 := h n
      rw [hasB_cons, hasB_cons] at h1
      by_cases hn : n ≤ r.f1
      · have a : hasB l n = false := by
          cases hh : hasB l n with
          | false => rfl
          | true => have := hl.after n hh; omega
        have b : hasB m n = false := by
          cases hh : hasB m n with
          | false => rfl
          | true => have := hm.after n hh; omega
        rw [a, b]
      · have c : inB r n = false := by
          cases hh : inB r n with
          | false => rfl
          | true => have := ((inB_iff _ _).1 hh).2; omega
        rw [c, Bool.false_or, Bool.false_or] at h1
        exact h1)
    rw [et]
/-- A stepR of putting sorted ranges in order. -/
def stepR (out : List R) (r : R) : List R := match out.getLast? with
  | none => [r]
  | some q => if r.f0 ≤ q.f1 ∨ wrap64 (r.f0 - 1) = q.f1 then out.dropLast ++ [⟨q.f0, max q.f1 r.f1⟩] else out ++ [r]
theorem stepR_nil (r : R) : stepR [] r = [r] := rfl
theorem stepR_snoc (init : List R) (q r : R) : stepR (init ++ [q]) r = if r.f0 ≤ q.f1 ∨ wrap64 (r.f0 - 1) = q.f1 then init ++ [⟨q.f0, max q.f1 r.f1⟩] else init ++ [q] ++ [r] := by
  simp [stepR]
/-- Out is in order, has the numbers of what went in, and whatever comes next begins no earlier. -/
structure Inv (out : List R) (k : Nat) (has : Int → Bool) (low : Int → Prop) : Prop where
  rt : Rt out
  fit : Fit out
  len : out.length ≤ k
  has : ∀ n, hasB out n = has n
  low : ∀ q ∈ out, low q.f0
theorem wrap_pred {a b : Int} (ha : -9223372036854775808 ≤ a ∧ a ≤ 9223372036854775807) (hb : -9223372036854775808 ≤ b) (h : b < a) : wrap64 (a - 1) = a - 1 := w64 (by omega) (by omega)
theorem stepR_inv {out : List R} {k : Nat} {has : Int → Bool} {r : R} (h : Inv out k has (· ≤ r.f0)) (hr : r.f0 ≤ r.f1) (hf : Fit [r]) : Inv (stepR out r) (k + 1) (fun n => has n || inB r n) (· ≤ r.f0) := by
  obtain ⟨⟨f1, f2⟩, f3, f4⟩ := hf r List.mem_cons_self
  rcases List.eq_nil_or_concat out with rfl | ⟨init, q, rfl⟩
  · rw [stepR_nil]
    exact ⟨⟨List.pairwise_singleton _ _, fun x hx => by rw [List.mem_singleton.1 hx]; exact hr⟩, hf, by simp, fun n => by rw [← h.has n, hasB_cons, hasB_nil, Bool.or_false, Bool.false_or], fun x hx => by rw [List.mem_singleton.1 hx]; exact Int.le_refl _⟩
  · simp only [List.concat_eq_append] at h ⊢
    have hq := h.rt.2 q (by simp)
    have hql := h.low q (by simp)
    obtain ⟨⟨g1, g2⟩, g3, g4⟩ := h.fit q (by simp)
    have hpw := List.pairwise_append.1 h.rt.1
    have hm : ∀ n, has n = (hasB init n || inB q n) := fun n => by rw [← h.has n, hasB_append, hasB_cons, hasB_nil, Bool.or_false]
    have hlen : init.length + 1 ≤ k := by simpa using h.len
    rw [stepR_snoc]
    split
    · rename_i hc
      have hc' : r.f0 ≤ q.f1 + 1 := by
        rcases hc with hc | hc
        · omega
        · by_cases hlt : q.f1 < r.f0
          · rw [wrap_pred ⟨f1, f2⟩ g3 hlt] at hc; omega
          · omega
      refine ⟨⟨List.pairwise_append.2 ⟨hpw.1, List.pairwise_singleton _ _, fun a ha b hb => ?_⟩, fun x hx => ?_⟩, fun x hx => ?_, by simp; omega, fun n => ?_, fun x hx => ?_⟩
      · rw [List.mem_singleton.1 hb]
        exact hpw.2.2 a ha q (by simp)
      · rcases List.mem_append.1 hx with hx | hx
        · exact h.rt.2 x (List.mem_append_left _ hx)
        · rw [List.mem_singleton.1 hx]; show q.f0 ≤ max q.f1 r.f1; omega
      · rcases List.mem_append.1 hx with hx | hx
        · exact h.fit x (List.mem_append_left _ hx)
        · rw [List.mem_singleton.1 hx]; exact ⟨⟨g1, g2⟩, by show _ ≤ max q.f1 r.f1 ∧ max q.f1 r.f1 ≤ _; omega⟩
      · rw [hm n, hasB_append, hasB_cons, hasB_nil, Bool.or_false, Bool.or_assoc]
        congr 1
        rw [Bool.eq_iff_iff, Bool.or_eq_true, inB_iff, inB_iff, inB_iff]
        show q.f0 ≤ n ∧ n ≤ max q.f1 r.f1 ↔ _
        omega
      · rcases List.mem_append.1 hx with hx | hx
        · exact h.low x (List.mem_append_left _ hx)
        · rw [List.mem_singleton.1 hx]; exact hql
    · rename_i hc
      have hc1 : ¬ r.f0 ≤ q.f1 := fun e => hc (.inl e)
      have hc2 : q.f1 + 1 < r.f0 := by
        have : wrap64 (r.f0 - 1) ≠ q.f1 := fun e => hc (.inr e)
        rw [wrap_pred ⟨f1, f2⟩ g3 (by omega)] at this
        omega
      refine ⟨⟨List.pairwise_append.2 ⟨h.rt.1, List.pairwise_singleton _ _, fun a ha b hb => ?_⟩, fun x hx => ?_⟩, fun x hx => ?_, by simp; omega, fun n => ?_, fun x hx => ?_⟩
      · rw [List.mem_singleton.1 hb]
        rcases List.mem_append.1 ha with ha | ha
        · have := hpw.2.2 a ha q (by simp)
          omega
        · rw [List.mem_singleton.1 ha]; exact hc2
      · rcases List.mem_append.1 hx with hx | hx
        · exact h.rt.2 x hx
        · rw [List.mem_singleton.1 hx]; exact hr
      · rcases List.mem_append.1 hx with hx | hx
        · exact h.fit x hx
        · exact hf x hx
      · rw [hm n, hasB_append, hasB_cons, hasB_nil, Bool.or_false, hasB_append, hasB_cons, hasB_nil, Bool.or_false]
      · rcases List.mem_append.1 hx with hx | hx
        · exact h.low x hx
        · rw [List.mem_singleton.1 hx]; exact Int.le_refl _
/-- All of sorted ranges. -/
theorem fold_inv : ∀ (s : List R) {out : List R} {k : Nat} {has : Int → Bool}, s.Pairwise (fun a b => a.f0 ≤ b.f0) → (∀ x ∈ s, x.f0 ≤ x.f1) → Fit s → (∀ r ∈ s, ∀ q ∈ out, q.f0 ≤ r.f0) → Inv out k has (fun _ => True) →
    Inv (s.foldl stepR out) (k + s.length) (fun n => has n || hasB s n) (fun _ => True)
  | [], out, k, has, _, _, _, _, h => by simpa [hasB_nil] using h
  | r :: s, out, k, has, hp, ho, hf, hl, h => by
    obtain ⟨hp1, hp2⟩ := List.pairwise_cons.1 hp
    have h1 : Inv out k has (· ≤ r.f0) := ⟨h.rt, h.fit, h.len, h.has, fun q hq => hl r List.mem_cons_self q hq⟩
    have h2 := stepR_inv h1 (ho r List.mem_cons_self) (fun x hx => hf x (by rw [List.mem_singleton.1 hx]; exact List.mem_cons_self))
    have h3 := fold_inv s hp2 (fun x hx => ho x (List.mem_cons_of_mem _ hx)) (fun x hx => hf x (List.mem_cons_of_mem _ hx)) (fun x hx q hq => Int.le_trans (h2.low q hq) (hp1 x hx)) (⟨h2.rt, h2.fit, h2.len, h2.has, fun _ _ => trivial⟩ : Inv (stepR out r) (k + 1) _ (fun _ => True))
    rw [List.foldl_cons, List.length_cons]
    exact ⟨h3.rt, h3.fit, by have := h3.len; omega, fun n => by rw [h3.has n, hasB_cons, Bool.or_assoc], fun _ _ => trivial⟩
/-- What putting in order tells. -/
structure NormOf (l out : List R) : Prop where
  rt : Rt out
  fit : Fit out
  len : out.length ≤ l.length
  has : ∀ n, hasB out n = hasB l n
theorem NormOf.uniq {l m a b : List R} (h1 : NormOf l a) (h2 : NormOf m b) (h : ∀ n, hasB l n = hasB m n) : a = b := Spans.uniq h1.rt h2.rt (fun n => by rw [h1.has, h2.has, h])
theorem has_filter (l : List R) (n : Int) : hasB (l.filter fun r => !decide (r.f0 > r.f1)) n = hasB l n := by
  rw [Bool.eq_iff_iff, hasB_iff, hasB_iff]
  constructor
  · rintro ⟨r, hr, h⟩; exact ⟨r, (List.mem_filter.1 hr).1, h⟩
  · rintro ⟨r, hr, h⟩; exact ⟨r, List.mem_filter.2 ⟨hr, by simp; omega⟩, h⟩
theorem has_perm {l m : List R} (h : l.Perm m) (n : Int) : hasB l n = hasB m n := by
  rw [Bool.eq_iff_iff, hasB_iff, hasB_iff]
  constructor
  · rintro ⟨r, hr, h'⟩; exact ⟨r, h.mem_iff.1 hr, h'⟩
  · rintro ⟨r, hr, h'⟩; exact ⟨r, h.mem_iff.2 hr, h'⟩
/-- The program's way: struck, sorted, put together. -/
theorem norm_of {l s : List R} (hf : Fit l) (hp : s.Perm (l.filter fun r => !decide (r.f0 > r.f1))) (hs : s.Pairwise (fun a b => a.f0 ≤ b.f0)) : NormOf l (s.foldl stepR []) := by
  have hm : ∀ x ∈ s, x ∈ l ∧ x.f0 ≤ x.f1 := fun x hx => by
    have := List.mem_filter.1 (hp.mem_iff.1 hx)
    exact ⟨this.1, by simpa using this.2⟩
  have h := fold_inv s (out := []) (k := 0) (has := fun _ => false) hs (fun x hx => (hm x hx).2) (fun x hx => hf x (hm x hx).1) (fun _ _ q hq => by cases hq) ⟨⟨List.Pairwise.nil, (fun x hx => by cases hx)⟩, (fun x hx => by cases hx), Nat.le_refl _, fun n => rfl, fun _ _ => trivial⟩
  refine ⟨h.rt, h.fit, ?_, fun n => ?_⟩
  · have h1 := h.len
    have h2 := hp.length_eq
    have h3 := List.length_filter_le (fun r : R => !decide (r.f0 > r.f1)) l
    omega
  · rw [h.has n, Bool.false_or, has_perm hp, has_filter]
/-- The document's way: a range among others. -/
def apartB (x r : R) : Bool := (decide (x.f1 < r.f0) && decide (wrap64 (x.f1 + 1) < r.f0)) || (decide (r.f1 < x.f0) && decide (wrap64 (r.f1 + 1) < x.f0))
theorem apartB_iff {x r : R} (hx : Fit [x]) (hr : Fit [r]) : apartB x r = true ↔ x.f1 + 1 < r.f0 ∨ r.f1 + 1 < x.f0 := by
  obtain ⟨⟨a1, a2⟩, a3, a4⟩ := hx x List.mem_cons_self
  obtain ⟨⟨b1, b2⟩, b3, b4⟩ := hr r List.mem_cons_self
  unfold apartB
  by_cases h1 : x.f1 < r.f0
  · rw [show wrap64 (x.f1 + 1) = x.f1 + 1 from w64 (by omega) (by omega)]
    by_cases h2 : r.f1 < x.f0
    · rw [show wrap64 (r.f1 + 1) = r.f1 + 1 from w64 (by omega) (by omega)]
      simp; omega
    · simp; omega
  · by_cases h2 : r.f1 < x.f0
    · rw [show wrap64 (r.f1 + 1) = r.f1 + 1 from w64 (by omega) (by omega)]
      simp; omega
    · simp; omega
def takeIn (p : List R × R) (x : R) : List R × R := if apartB x p.2 = true then (p.1 ++ [x], p.2) else (p.1, ⟨min p.2.f0 x.f0, max p.2.f1 x.f1⟩)
def lay (out : List R) (r : R) : List R := (out.takeWhile fun q => decide (q.f0 < r.f0)) ++ [r] ++ (out.dropWhile fun q => decide (q.f0 < r.f0))
def intoF (l : List R) (r : R) : List R := lay (l.foldl takeIn ([], r)).1 (l.foldl takeIn ([], r)).2
structure Inv2 (l : List R) (r0 : R) (k : Nat) (p : List R × R) (rest : List R) : Prop where
  rt : Rt (p.1 ++ rest)
  apart : ∀ x ∈ p.1, x.f1 + 1 < p.2.f0 ∨ p.2.f1 + 1 < x.f0
  one : p.2.f0 ≤ p.2.f1
  fit : Fit (p.1 ++ [p.2])
  fitr : Fit rest
  len : p.1.length ≤ k
  has : ∀ n, (hasB p.1 n || inB p.2 n || hasB rest n) = (hasB l n || inB r0 n)
theorem takeIn_inv {l : List R} {r0 : R} {k : Nat} {p : List R × R} {x : R} {rest : List R} (h : Inv2 l r0 k p (x :: rest)) : Inv2 l r0 (k + 1) (takeIn p x) rest := by
  obtain ⟨out, r⟩ := p
  obtain ⟨hrt, hap, hone, hfit, hfr, hlen, hhas⟩ := h
  simp only at hrt hap hone hfit hlen hhas
  have hpw := List.pairwise_append.1 hrt.1
  have hx1 := hrt.2 x (by simp)
  have hfx : Fit [x] := fun y hy => hfr y (by rw [List.mem_singleton.1 hy]; exact List.mem_cons_self)
  have hfrr : Fit [r] := fun y hy => hfit y (List.mem_append_right _ hy)
  have hsub : (out ++ rest).Sublist (out ++ x :: rest) := (List.Sublist.refl out).append (List.sublist_cons_self x rest)
  unfold takeIn
  simp only
  split
  · rename_i hc
    rw [apartB_iff hfx hfrr] at hc
    refine ⟨by simpa using hrt, fun y hy => ?_, hone, fun y hy => ?_, fun y hy => hfr y (List.mem_cons_of_mem _ hy), by simp; omega, fun n => ?_⟩
    · rcases List.mem_append.1 hy with hy | hy
      · exact hap y hy
      · rw [List.mem_singleton.1 hy]; exact hc
    · simp only [List.mem_append, List.mem_singleton] at hy
      rcases hy with (hy | hy) | hy
      · exact hfit y (by simp [hy])
      · rw [hy]; exact hfx x List.mem_cons_self
      · rw [hy]; exact hfrr r List.mem_cons_self
    · rw [← hhas n, hasB_append, hasB_cons, hasB_nil, hasB_cons, Bool.or_false]
      cases hasB out n <;> cases inB x n <;> cases inB r n <;> rfl
  · rename_i hc
    rw [apartB_iff hfx hfrr] at hc
    have hc1 : ¬ x.f1 + 1 < r.f0 := fun e => hc (.inl e)
    have hc2 : ¬ r.f1 + 1 < x.f0 := fun e => hc (.inr e)
    obtain ⟨⟨a1, a2⟩, a3, a4⟩ := hfx x List.mem_cons_self
    obtain ⟨⟨b1, b2⟩, b3, b4⟩ := hfrr r List.mem_cons_self
    refine ⟨hrt.sub hsub, fun y hy => ?_, ?_, fun y hy => ?_, fun y hy => hfr y (List.mem_cons_of_mem _ hy), (by show out.length ≤ k + 1; omega), fun n => ?_⟩
    · have h1 := hpw.2.2 y hy x (by simp)
      have h2 := hrt.2 y (by simp [hy])
      show y.f1 + 1 < min r.f0 x.f0 ∨ max r.f1 x.f1 + 1 < y.f0
      rcases hap y hy with h3 | h3 <;> omega
    · show min r.f0 x.f0 ≤ max r.f1 x.f1
      omega
    · simp only [List.mem_append, List.mem_singleton] at hy
      rcases hy with hy | hy
      · exact hfit y (by simp [hy])
      · rw [hy]; show (_ ≤ min r.f0 x.f0 ∧ min r.f0 x.f0 ≤ _) ∧ (_ ≤ max r.f1 x.f1 ∧ max r.f1 x.f1 ≤ _); omega
    · rw [← hhas n, hasB_cons]
      have : inB ⟨min r.f0 x.f0, max r.f1 x.f1⟩ n = (inB r n || inB x n) := by
        rw [Bool.eq_iff_iff, Bool.or_eq_true, inB_iff, inB_iff, inB_iff]
        show min r.f0 x.f0 ≤ n ∧ n ≤ max r.f1 x.f1 ↔ _
        omega
      rw [this]
      cases hasB out n <;> cases inB x n <;> cases inB r n <;> rfl
theorem takeIn_fold {l : List R} {r0 : R} : ∀ (rest : List R) {k : Nat} {p : List R × R}, Inv2 l r0 k p rest → Inv2 l r0 (k + rest.length) (rest.foldl takeIn p) []
  | [], _, _, h => h
  | x :: rest, k, p, h => by
    have := takeIn_fold rest (takeIn_inv h)
    rw [List.foldl_cons, List.length_cons, show k + (rest.length + 1) = k + 1 + rest.length from by omega]
    exact this
theorem lay_rt {out : List R} {r : R} (h : Rt out) (ha : ∀ x ∈ out, x.f1 + 1 < r.f0 ∨ r.f1 + 1 < x.f0) (hr : r.f0 ≤ r.f1) : Rt (lay out r) := by
  have hsplit := List.takeWhile_append_dropWhile (p := fun q : R => decide (q.f0 < r.f0)) (l := out)
  have ht : ∀ x ∈ out.takeWhile (fun q => decide (q.f0 < r.f0)), x ∈ out ∧ x.f0 < r.f0 := fun x hx => ⟨(List.takeWhile_prefix _).subset hx, by simpa using List.all_eq_true.1 (List.all_takeWhile (p := fun q : R => decide (q.f0 < r.f0)) (l := out)) x hx⟩
  have hd : ∀ x ∈ out.dropWhile (fun q => decide (q.f0 < r.f0)), x ∈ out ∧ r.f0 ≤ x.f0 := by
    intro x hx
    have hm := (List.dropWhile_suffix (fun q : R => decide (q.f0 < r.f0)) (l := out)).subset hx
    refine ⟨hm, ?_⟩
    cases hdw : out.dropWhile (fun q => decide (q.f0 < r.f0)) with
    | nil => rw [hdw] at hx; cases hx
    | cons y t =>
      have hy : ¬ y.f0 < r.f0 := by
        have := List.head?_dropWhile_not (fun q : R => decide (q.f0 < r.f0)) out
        rw [hdw] at this
        simpa using this
      rw [hdw] at hx
      rcases List.mem_cons.1 hx with rfl | hx
      · omega
      · have hp := (h.1.sublist (List.dropWhile_sublist (fun q : R => decide (q.f0 < r.f0))))
        rw [hdw] at hp
        have h1 := (List.pairwise_cons.1 hp).1 x hx
        have hyo : y ∈ out := (List.dropWhile_suffix (fun q : R => decide (q.f0 < r.f0)) (l := out)).subset (by rw [hdw]; exact List.mem_cons_self)
        have := h.2 y hyo
        omega
  have hpw : (out.takeWhile (fun q => decide (q.f0 < r.f0)) ++ out.dropWhile (fun q => decide (q.f0 < r.f0))).Pairwise (fun a b : R => a.f1 + 1 < b.f0) := by rw [hsplit]; exact h.1
  have hpa := List.pairwise_append.1 hpw
  unfold lay
  refine ⟨List.pairwise_append.2 ⟨List.pairwise_append.2 ⟨hpa.1, List.pairwise_singleton _ _, fun a hA b hB => ?_⟩, hpa.2.1, fun a hA b hB => ?_⟩, fun x hx => ?_⟩
  · rw [List.mem_singleton.1 hB]
    have h1 := ht a hA
    have h2 := h.2 a h1.1
    rcases ha a h1.1 with h3 | h3 <;> omega
  · rcases List.mem_append.1 hA with hA | hA
    · exact hpa.2.2 a hA b hB
    · rw [List.mem_singleton.1 hA]
      have h1 := hd b hB
      have h2 := h.2 b h1.1
      rcases ha b h1.1 with h3 | h3 <;> omega
  · simp only [List.mem_append, List.mem_singleton] at hx
    rcases hx with (hx | hx) | hx
    · exact h.2 x (ht x hx).1
    · rw [hx]; exact hr
    · exact h.2 x (hd x hx).1
theorem lay_has (out : List R) (r : R) (n : Int) : hasB (lay out r) n = (hasB out n || inB r n) := by
  have e : hasB out n = (hasB (out.takeWhile fun q => decide (q.f0 < r.f0)) n || hasB (out.dropWhile fun q => decide (q.f0 < r.f0)) n) := by
    rw [← hasB_append, List.takeWhile_append_dropWhile]
  unfold lay
  rw [e, hasB_append, hasB_append, hasB_cons, hasB_nil, Bool.or_false]
  cases hasB (out.takeWhile fun q => decide (q.f0 < r.f0)) n <;> cases inB r n <;> cases hasB (out.dropWhile fun q => decide (q.f0 < r.f0)) n <;> rfl
theorem lay_length (out : List R) (r : R) : (lay out r).length = out.length + 1 := by
  have := congrArg List.length (List.takeWhile_append_dropWhile (p := fun q : R => decide (q.f0 < r.f0)) (l := out))
  rw [List.length_append] at this
  unfold lay
  simp only [List.length_append, List.length_cons, List.length_nil]
  omega
theorem lay_fit {out : List R} {r : R} (h : Fit (out ++ [r])) : Fit (lay out r) := by
  intro x hx
  unfold lay at hx
  simp only [List.mem_append, List.mem_singleton] at hx
  rcases hx with (hx | hx) | hx
  · exact h x (List.mem_append_left _ ((List.takeWhile_prefix _).subset hx))
  · exact h x (by simp [hx])
  · exact h x (List.mem_append_left _ ((List.dropWhile_suffix _).subset hx))
structure Into (l : List R) (r : R) (out : List R) : Prop where
  rt : Rt out
  fit : Fit out
  len : out.length ≤ l.length + 1
  has : ∀ n, hasB out n = (hasB l n || inB r n)
theorem intoF_told {l : List R} {r : R} (h : Rt l) (hf : Fit l) (hr : r.f0 ≤ r.f1) (hfr : Fit [r]) : Into l r (intoF l r) := by
  have h0 : Inv2 l r 0 ([], r) l := ⟨by simpa using h, (fun x hx => by cases hx), hr, by simpa using hfr, hf, Nat.le_refl _, fun n => by rw [hasB_nil, Bool.false_or, Bool.or_comm]⟩
  have h1 := takeIn_fold l h0
  unfold intoF
  generalize l.foldl takeIn ([], r) = p at h1 ⊢
  refine ⟨lay_rt (by simpa using h1.rt) h1.apart h1.one, lay_fit h1.fit, by rw [lay_length]; have := h1.len; omega, fun n => ?_⟩
  rw [lay_has, ← h1.has n, hasB_nil, Bool.or_false]
def refStep (out : List R) (r : R) : List R := if r.f0 ≤ r.f1 then intoF out r else out
theorem refNorm_fold : ∀ (s : List R) {out : List R} {k : Nat} {has : Int → Bool}, Fit s → Inv out k has (fun _ => True) → Inv (s.foldl refStep out) (k + s.length) (fun n => has n || hasB s n) (fun _ => True)
  | [], out, k, has, _, h => by simpa [hasB_nil] using h
  | r :: s, out, k, has, hf, h => by
    have h2 : Inv (refStep out r) (k + 1) (fun n => has n || inB r n) (fun _ => True) := by
      unfold refStep
      split
      · rename_i hr
        have := intoF_told h.rt h.fit hr (fun x hx => hf x (by rw [List.mem_singleton.1 hx]; exact List.mem_cons_self))
        exact ⟨this.rt, this.fit, by have := this.len; have := h.len; omega, fun n => by rw [this.has, h.has], fun _ _ => trivial⟩
      · rename_i hr
        exact ⟨h.rt, h.fit, by have := h.len; omega, fun n => by
          have : inB r n = false := by
            cases hh : inB r n with
            | false => rfl
            | true => have := (inB_iff _ _).1 hh; omega
          rw [this, Bool.or_false, h.has], fun _ _ => trivial⟩
    have h3 := refNorm_fold s (fun x hx => hf x (List.mem_cons_of_mem _ hx)) h2
    rw [List.foldl_cons, List.length_cons]
    exact ⟨h3.rt, h3.fit, by have := h3.len; omega, fun n => by rw [h3.has n, hasB_cons, Bool.or_assoc], fun _ _ => trivial⟩
theorem refNorm_of {l : List R} (hf : Fit l) : NormOf l (l.foldl refStep []) := by
  have h := refNorm_fold l (out := []) (k := 0) (has := fun _ => false) hf ⟨⟨List.Pairwise.nil, (fun x hx => by cases hx)⟩, (fun x hx => by cases hx), Nat.le_refl _, fun n => rfl, fun _ _ => trivial⟩
  exact ⟨h.rt, h.fit, by have := h.len; omega, fun n => by rw [h.has n, Bool.false_or]⟩
/-- A range is covered by what is in order just if one of these has it whole. -/
def coversB (out : List R) (r : R) : Bool := out.any fun x => decide (x.f0 ≤ r.f0) && decide (r.f1 ≤ x.f1)
theorem covers_iff {out : List R} (h : Rt out) {r : R} (hr : r.f0 ≤ r.f1) : coversB out r = true ↔ ∀ n, r.f0 ≤ n → n ≤ r.f1 → hasB out n = true := by
  constructor
  · intro hc n h1 h2
    obtain ⟨x, hx, h3⟩ := List.any_eq_true.1 hc
    simp only [Bool.and_eq_true, decide_eq_true_eq] at h3
    exact (hasB_iff _ _).2 ⟨x, hx, by omega, by omega⟩
  · intro hc
    obtain ⟨x, hx, h1, h2⟩ := (hasB_iff _ _).1 (hc r.f0 (Int.le_refl _) hr)
    refine List.any_eq_true.2 ⟨x, hx, ?_⟩
    simp only [Bool.and_eq_true, decide_eq_true_eq]
    refine ⟨h1, ?_⟩
    apply Classical.byContradiction
    intro hlt
    obtain ⟨y, hy, h3, h4⟩ := (hasB_iff _ _).1 (hc (x.f1 + 1) (by omega) (by omega))
    have key : ∀ {l : List R}, Rt l → ∀ a ∈ l, ∀ b ∈ l, b.f0 ≤ a.f1 + 1 ∧ a.f1 + 1 ≤ b.f1 → False := by
      intro l
      induction l with
      | nil => intro _ a ha; cases ha
      | cons c l ih =>
        intro hl a ha b hb hab
        have hc1 := (List.pairwise_cons.1 hl.1).1
        have hcc := hl.2 c List.mem_cons_self
        rcases List.mem_cons.1 ha with ea | ha
        · rw [ea] at hab
          rcases List.mem_cons.1 hb with eb | hb
          · rw [eb] at hab; omega
          · have := hc1 b hb; have := hl.2 b (List.mem_cons_of_mem _ hb); omega
        · rcases List.mem_cons.1 hb with eb | hb
          · rw [eb] at hab; have := hc1 a ha; have := hl.2 a (List.mem_cons_of_mem _ ha); omega
          · exact ih hl.tail a ha b hb hab
    exact key h x hx y hy ⟨h3, h4⟩
end Go.Proofs.Ytppmcbkcohiodaa.Spans
namespace Go.Proofs.Ytppmcbkcohiodaa.Range
open Go Go.RowKit
/-- What a round leaves: it goes on, or it returns. -/
def roundEnds (W : World) (A B : World → Prop) : Exit → Act → World → Prop
  | .normal, _, W' => KeepsOthers W W' ∧ A W'
  | .ret, _, W' => KeepsOthers W W' ∧ B W'
  | _, _, _ => False
/-- The rounds are numbered: I k holds ahead of round k, I' k behind it, Ix k behind a round that has returned. The iterator's word (hiter) is given for whatever else (Rec) its own cell does not touch. -/
theorem range_steps {F : Fence} {n : Nat} {P : Program} {g : Operand} {ps : Array Tmp} {assign body : Code} {Q : Exit → Act → World → Prop} {a : Act} {w : World}
    (hro : F.round = none) (h1 : 1 ≤ n) {gf : Nat} {lb : Array Value} (hg : a.eval g = .func (.func gf) #[] lb) (hFg : F.fn gf) (eg : ∀ args w, (callFunc gf args).run P w = .ok (.enter gf args) w)
    (encs : Nat → Array Value) (hps : ∀ k, (encs k).size = ps.size) (bc m : Nat) (hbc : bc < w.heap.size) (I I' Ix : Nat → World → Prop)
    (hput : ∀ k W l o, w.heap.size ≤ l → (∃ o', W.heap[l]? = some o' ∧ o'.isCells = false) → I k W → I k (W.putObj l o)) (hput' : ∀ k W l o, w.heap.size ≤ l → (∃ o', W.heap[l]? = some o' ∧ o'.isCells = false) → I' k W → I' k (W.putObj l o))
    (hputx : ∀ k W l o, w.heap.size ≤ l → (∃ o', W.heap[l]? = some o' ∧ o'.isCells = false) → Ix k W → Ix k (W.putObj l o)) (halloc : ∀ k W o, I k W → I k (W.alloc o)) (h0 : I 0 w) (a₁ : Nat → Act)
    (hassign : ∀ (l k : Nat) (W : World) (K : Act → World → Prop), K (a₁ k) W → assign.wpIn (F.inRound l) (n - 1 - 1) P (Exit.then K (fun _ _ _ => False)) { tmps := (ps.zip (encs k)).foldl (fun t (p, v) => t.setIfInBounds p v) a.tmps, defers := [] } W)
    (hbody : ∀ (l k : Nat) (W : World), I k W → k < m → body.wpIn (F.inRound l) (n - 1 - 1) P (roundEnds W (I' k) (Ix k)) (a₁ k) W)
    (hiter : ∀ (l : Nat) (Rec RecX : World → Prop) (W : World), (∀ W' v, Rec W' → Rec (W'.setCell ⟨bc, 0, none⟩ v)) →
      (∀ k W1, I k W1 → Rec W1 → k < m → YieldAt F (n - 1 - 1) P l (encs k) W1 fun e W' => (e = .returned (.bool true) ∧ I' k W' ∧ Rec W') ∨ (e = .returned (.bool false) ∧ Ix k W' ∧ RecX W')) →
      I 0 W → Rec W → CallsIn F (n - 1) P gf (#[.func (.yield l) #[] #[]] ++ lb) W fun e W' => (∃ v, e = .returned v) ∧ ((I m W' ∧ Rec W') ∨ (∃ k, Ix k W' ∧ RecX W')))
    (hdone : ∀ (D : Nat) (W : World), w.heap.size ≤ D → I m W → W.heap[D]? = some (.deferred (some [])) → Q .normal { a with defers := { target := .collected D, args := #[] } :: a.defers } W)
    (hstop : ∀ (D k : Nat) (W : World), w.heap.size ≤ D → Ix k W → W.heap[D]? = some (.deferred (some [])) → Code.ret.wpIn F n P Q { a with defers := { target := .collected D, args := #[] } :: a.defers } W) :
    (Code.rangeFunc g ps assign body).wpIn F n P Q a w := by
  refine wpIn_rangeFunc ?_
  intro fn hfn
  rw [hro]
  -- the loop's record, by its state
  let R : LoopState → Option Code → Loop := fun st pe => { state := st, pending := pe, fn := fn, tmps := a.tmps, params := ps, assign := assign, body := body, defers := w.heap.size }
  let W1 : World := (w.alloc (.deferred (some []))).alloc (.loop (R .ready none))
  have eL : W1.heap[w.heap.size + 1]? = some (.loop (R .ready none)) := by
    have h := World.alloc_heap_new (w.alloc (.deferred (some []))) (.loop (R .ready none))
    rwa [World.size_alloc] at h
  have eK : W1.heap[w.heap.size]? = some (.deferred (some [])) := (Below.heap_alloc _ _ _ (by simp)).trans (World.alloc_heap_new w _)
  have other : ∀ (W : World) (v : Value) (q : Nat), bc < q → (W.setCell ⟨bc, 0, none⟩ v).heap[q]? = W.heap[q]? := fun W v q h => Below.heap_setCell W ⟨bc, 0, none⟩ v q (by show q ≠ bc; omega)
  refine ⟨w.heap.size + 1, [{ target := .collected w.heap.size, args := #[] }], W1, { target := .fn (.func gf) lb, args := #[.func (.yield (w.heap.size + 1)) #[] #[]] }, W1, gf, #[.func (.yield (w.heap.size + 1)) #[] #[]] ++ lb, W1, run_enterLoop_outer _ _ _ _ _, ?_, ?_, ?_, fun _ => h1, ?_⟩
  · simp only [resolve, hg]
    simp [go_sem]
  · intro f' hf'
    simp [Target.leads] at hf'
    subst hf'
    exact hFg
  · simp [invoke, go_sem, eg]
  · refine (hiter (w.heap.size + 1) (fun W => W.heap[w.heap.size + 1]? = some (.loop (R .ready none)) ∧ W.heap[w.heap.size]? = some (.deferred (some [])))
      (fun W => W.heap[w.heap.size + 1]? = some (.loop (R .done (some .ret))) ∧ W.heap[w.heap.size]? = some (.deferred (some []))) W1
      (fun W' v h => ⟨(other W' v _ (by omega)).trans h.1, (other W' v _ hbc).trans h.2⟩) ?_ (halloc _ _ _ (halloc _ _ _ h0)) ⟨eL, eK⟩).mono ?_
    · rintro k W hi ⟨hl, hk⟩ hlt
      have hsz : w.heap.size + 1 < W.heap.size := (Array.getElem?_eq_some_iff.1 hl).1
      have b1 : (W.putObj (w.heap.size + 1) (.loop (R .busy none))).heap[w.heap.size + 1]? = some (.loop (R .busy none)) := World.putObj_heap_same hsz
      have b2 : (W.putObj (w.heap.size + 1) (.loop (R .busy none))).heap[w.heap.size]? = some (.deferred (some [])) := (World.putObj_heap_other (by omega)).trans hk
      refine ⟨fn, _, assign, body, run_yield hl (by exact hps k), roundIn_of_wpIn hfn (hassign _ k W _ ⟨_, run_beginRound hl rfl, ?_⟩)⟩
      refine wpIn_mono (hbody _ k _ (hput _ _ _ _ (by omega) ⟨_, hl, rfl⟩ hi) hlt) ?_
      rintro e a3 W3 hp
      cases e with
      | normal =>
        obtain ⟨hk3, hi3⟩ := hp
        have c1 := hk3.same _ _ b1 rfl
        have c2 := hk3.same _ _ b2 rfl
        exact ⟨_, _, run_endRound none c1, .inl ⟨rfl, hput' _ _ _ _ (by omega) ⟨_, c1, rfl⟩ hi3, World.putObj_heap_same (Array.getElem?_eq_some_iff.1 c1).1, (World.putObj_heap_other (by omega)).trans c2⟩⟩
      | ret =>
        obtain ⟨hk3, hi3⟩ := hp
        have c1 := hk3.same _ _ b1 rfl
        have c2 := hk3.same _ _ b2 rfl
        exact ⟨_, _, run_endRound (some .ret) c1, .inr ⟨rfl, hputx _ _ _ _ (by omega) ⟨_, c1, rfl⟩ hi3, World.putObj_heap_same (Array.getElem?_eq_some_iff.1 c1).1, (World.putObj_heap_other (by omega)).trans c2⟩⟩
      | exit id => exact hp.elim
      | goto t => exact hp.elim
      | panic ch => exact hp.elim
      | outgrown => exact hp.elim
    · rintro e W2 ⟨⟨v, rfl⟩, (⟨hi, hl, hk⟩ | ⟨k, hi, hl, hk⟩)⟩
      · exact ⟨none, _, run_endLoop hl (by simp [R]), hdone _ _ (Nat.le_refl _) (hput _ _ _ _ (by omega) ⟨_, hl, rfl⟩ hi) ((World.putObj_heap_other (by omega)).trans hk)⟩
      · exact ⟨some .ret, _, run_endLoop hl (by simp [R]), hstop _ k _ (Nat.le_refl _) (hputx _ _ _ _ (by omega) ⟨_, hl, rfl⟩ hi) ((World.putObj_heap_other (by omega)).trans hk)⟩
end Go.Proofs.Ytppmcbkcohiodaa.Range
namespace Go.Proofs.Ytppmcbkcohiodaa.Fl
open Go Go.RowKit

def ord (a b : Nat) : Option Ordering := FloatKind.f64.format.order a b
def eqF (a b : Nat) : Bool := ord a b == some .eq
def ltF (a b : Nat) : Bool := ord a b == some .lt
def leF (a b : Nat) : Bool := ord a b == some .lt || ord a b == some .eq
theorem f_eql (t : TypeId) (a b : Nat) : binOp .eql t (.float .f64 a) (.float .f64 b) = pure (.bool (eqF a b)) := binOp_float_cmp_eql t .f64 a b
theorem f_neq (t : TypeId) (a b : Nat) : binOp .neq t (.float .f64 a) (.float .f64 b) = pure (.bool (!eqF a b)) := binOp_float_cmp_neq t .f64 a b
theorem f_lss (t : TypeId) (a b : Nat) : binOp .lss t (.float .f64 a) (.float .f64 b) = pure (.bool (ltF a b)) := binOp_float_cmp_lss t .f64 a b
theorem f_leq (t : TypeId) (a b : Nat) : binOp .leq t (.float .f64 a) (.float .f64 b) = pure (.bool (leF a b)) := binOp_float_cmp_leq t .f64 a b
end Go.Proofs.Ytppmcbkcohiodaa.Fl
namespace Go.Proofs.Ytppmcbkcohiodaa.Fl
open Go Go.RowKit Go.Proofs.YtppmcbkcohiodaaW.PrintWords Go.Proofs.Ytppmcbkcohiodaa.Base
attribute [-go_sem] binOp_float_cmp_eql binOp_float_cmp_neq binOp_float_cmp_lss binOp_float_cmp_leq
attribute [local go_sem] f_eql f_neq f_lss f_leq
theorem frombits_run (n : Int) (w : World) : (callFunc 88 #[.int .u64 n]).run Try.prog w = .ok (.value (.float .f64 n.toNat)) w := by
  rw [run_callFunc_extern Try.func88 (by kernel_rfl) (by kernel_rfl) (by kernel_rfl) (e := Extern.MathFloatBits.float64frombits) (by rfl)]
  rfl
attribute [local go_sem] frombits_run
set_option maxHeartbeats 4000000
set_option maxRecDepth 100000
theorem within_calls (x lo hi : Nat) (w : World) : Calls Try.prog 58 #[.float .f64 x, .float .f64 lo, .float .f64 hi] w fun e w' => e = .returned (.bool (leF lo x && leF x hi)) ∧ Below w.heap.size w w' := by
  cases h : leF lo x
  · go_enter Try.func58, Try.ntmps58
    go_wp2
    go_ret
    exact ⟨rfl, Below.refl _ _⟩
  · go_enter Try.func58, Try.ntmps58
    go_wp2
    go_ret
    exact ⟨by rw [Bool.true_and]; rfl, Below.refl _ _⟩
def sameF (a b : Nat) : Bool := if eqF a a && eqF b b then a == b else !eqF a a && !eqF b b
end Go.Proofs.Ytppmcbkcohiodaa.Fl
