/- Texts of this claim, put together (wip/pack.py): MeanTold, MeanFirstG, MeanAwake. -/
import Derived.Test.YtppmcbkcohiodaaK24
import Derived.Test.YtppmcbkcohiodaaK25
import Derived.Test.YtppmcbkcohiodaaK18
import Derived.Test.YtppmcbkcohiodaaK2
namespace Go.Proofs.Ytppmcbkcohiodaa.PMeanTells
open Go Go.RowKit Go.Proofs.YtppmcbkcohiodaaW.PrintWords Go.Proofs.Ytppmcbkcohiodaa.Loops Go.Proofs.Ytppmcbkcohiodaa.Base Go.Proofs.Ytppmcbkcohiodaa.Fl Go.Proofs.Ytppmcbkcohiodaa.Spans
set_option linter.unusedVariables false
/-- The document's Holds tells b of an expression. -/
def Told (c u f : Int) (sp : List S55) (vs rs : List Int) (x : S26) (b : Bool) : Prop := ∃ K, hP K c u f sp vs rs x = some b
/-- Facts of few numbers. -/
structure FewF (sp : List S55) (vs rs : List Int) : Prop where
  s : sp.length ≤ 20
  v : vs.length ≤ 300
  r : rs.length ≤ 300
section
variable {c u f : Int} {sp : List S55} {vs rs : List Int}
theorem hP_step (x : S26) (k : Nat) : LeO (hP k c u f sp vs rs x) (hP (k + 1) c u f sp vs rs x) := fun r h => hP_mono (Nat.le_succ k) h
theorem Told.det {x : S26} {b b' : Bool} (h : Told c u f sp vs rs x b) (h' : Told c u f sp vs rs x b') : b = b' := by
  obtain ⟨K, e⟩ := h
  obtain ⟨K', e'⟩ := h'
  exact one_det (F := fun k => hP k c u f sp vs rs x) (hP_step x) e e'
theorem told_atom (hf : FewF sp vs rs) {x : S26} (h0 : x.f0 = 1) (hfit : Fit x.f2) (hl : x.f2.length ≤ 1000000) : Told c u f sp vs rs x (atomB x.f1 x.f2 x.f3 x.f4 c u f sp vs rs) := by
  refine ⟨1, ?_⟩
  unfold hP
  rw [gatewardenref15_Holds.f, if_pos h0]
  unfold gatewardenref15_atom.f atomP
  have := hf.s; have := hf.v; have := hf.r
  rw [if_pos ⟨⟨(fitD_iff _).2 hfit, hl⟩, by omega, by omega, by omega⟩]
  rfl
theorem told_else {x : S26} (h1 : x.f0 ≠ 1) (h2 : x.f0 ≠ 2) (h3 : x.f0 ≠ 3) (h4 : x.f0 ≠ 4) : Told c u f sp vs rs x true := by
  refine ⟨1, ?_⟩
  unfold hP
  rw [gatewardenref15_Holds.f, if_neg h1, if_neg h2, if_neg h3, if_neg h4]
theorem told_not {x y : S26} {t : List S26} {b : Bool} (h0 : x.f0 = 2) (h5 : x.f5 = y :: t) (hy : Told c u f sp vs rs y b) : Told c u f sp vs rs x (!b) := by
  obtain ⟨K, hK⟩ := hy
  refine ⟨K + 1, ?_⟩
  unfold hP at hK ⊢
  have hr : rd_T26 x.f5 0 = y := by rw [h5]; rfl
  rw [gatewardenref15_Holds.f, if_neg (by omega), if_pos h0, if_pos (by rw [h5, List.length_cons]; omega), hr, hK]
  rfl
theorem told_all {v : S26 → Bool} (l : List S26) (h : ∀ y ∈ l, Told c u f sp vs rs y (v y)) : ∃ K, ∀ j : Nat, j < l.length → hP K c u f sp vs rs (rd_T26 l (j : Int)) = some (v (rd_T26 l (j : Int))) := by
  obtain ⟨K, w, hw⟩ := gather (p := fun k i => hP k c u f sp vs rs (rd_T26 l i)) (fun i k => hP_step _ k) (Q := fun j b => b = v (rd_T26 l (j : Int))) l.length (fun j hj => by
    obtain ⟨k, hk⟩ := h _ (List.getElem_mem hj)
    rw [rdE l j hj]
    exact ⟨k, _, hk, rfl⟩)
  exact ⟨K, fun j hj => by rw [(hw j hj).1, (hw j hj).2]⟩
theorem told_and {x : S26} {v : S26 → Bool} (h0 : x.f0 = 3) (hl : x.f5.length ≤ 1000000000) (h : ∀ y ∈ x.f5, Told c u f sp vs rs y (v y)) : Told c u f sp vs rs x (x.f5.all v) := by
  obtain ⟨K, hK⟩ := told_all x.f5 h
  have hlp := loop_all (n := x.f5.length) hl (L := fun k i => gatewardenref15_Holds.l0 k i x.f0 x.f1 x.f2 x.f3 x.f4 x.f5 c u f sp vs rs) (p := fun k i => hP k c u f sp vs rs (rd_T26 x.f5 i)) (e := some true) (fun k i => by rw [gatewardenref15_Holds.l0]; rfl) (fun i k => hP_step _ k) (v := fun j => v (rd_T26 x.f5 (j : Int))) hK x.f5.length 0 (by omega)
  have e : (List.range' 0 x.f5.length).all (fun j : Nat => v (rd_T26 x.f5 (j : Int))) = x.f5.all v := all_range z26 v x.f5
  rw [e] at hlp
  refine ⟨K + x.f5.length + 2, ?_⟩
  unfold hP
  rw [gatewardenref15_Holds.f, if_neg (by omega), if_neg (by omega), if_pos h0]
  refine hlp.trans ?_
  cases x.f5.all v <;> rfl
theorem told_or {x : S26} {v : S26 → Bool} (h0 : x.f0 = 4) (hl : x.f5.length ≤ 1000000000) (h : ∀ y ∈ x.f5, Told c u f sp vs rs y (v y)) : Told c u f sp vs rs x (x.f5.any v) := by
  obtain ⟨K, hK⟩ := told_all x.f5 h
  have hlp := loop_any (n := x.f5.length) hl (L := fun k i => gatewardenref15_Holds.l1 k i x.f0 x.f1 x.f2 x.f3 x.f4 x.f5 c u f sp vs rs) (p := fun k i => hP k c u f sp vs rs (rd_T26 x.f5 i)) (fun k i => by rw [gatewardenref15_Holds.l1]; rfl) (fun i k => hP_step _ k) (v := fun j => v (rd_T26 x.f5 (j : Int))) hK x.f5.length 0 (by omega)
  have e : (List.range' 0 x.f5.length).any (fun j : Nat => v (rd_T26 x.f5 (j : Int))) = x.f5.any v := any_range z26 v x.f5
  rw [e] at hlp
  refine ⟨K + x.f5.length + 2, ?_⟩
  unfold hP
  rw [gatewardenref15_Holds.f, if_neg (by omega), if_neg (by omega), if_neg (by omega), if_pos h0]
  exact hlp
/-- What an expression holds for, wherever that is told. -/
noncomputable def val (c u f : Int) (sp : List S55) (vs rs : List Int) (x : S26) : Bool := @decide (Told c u f sp vs rs x true) (Classical.propDecidable _)
theorem val_told {x : S26} (h : ∃ b, Told c u f sp vs rs x b) : Told c u f sp vs rs x (val c u f sp vs rs x) := by
  obtain ⟨b, hb⟩ := h
  unfold val
  by_cases ht : Told c u f sp vs rs x true
  · rw [@decide_eq_true _ (Classical.propDecidable _) ht]; exact ht
  · rw [@decide_eq_false _ (Classical.propDecidable _) ht]
    cases b with
    | true => exact absurd hb ht
    | false => exact hb
theorem told_right (hf : FewF sp vs rs) : ∀ x : S26, Sm x → Rgt x → ∃ b, Told c u f sp vs rs x b := by
  refine S26.ind (fun x ih => ?_)
  intro hs hr
  have hsm := hs.of
  cases hr with
  | atom _ h0 ha =>
    refine ⟨_, told_atom hf h0 (fun r hr => ?_) (by omega)⟩
    by_cases h6 : x.f1 = 6
    · rw [(ha.six h6).1] at hr; cases hr
    · have := ha.num h6 r hr
      exact ⟨by omega, by omega⟩
  | all _ h0 _ _ _ _ _ => exact ⟨_, told_else (by omega) (by omega) (by omega) (by omega)⟩
  | inner _ h0 _ _ _ _ _ hs2 =>
    have hin : ∀ y ∈ x.f5, Told c u f sp vs rs y (val c u f sp vs rs y) := fun y hy => val_told (ih y hy (hsm.2.2 y hy) (hs2 y hy))
    rcases h0 with ⟨h0, hl⟩ | ⟨h0 | h0, hl⟩
    · obtain ⟨y, hy⟩ : ∃ y, x.f5 = [y] := List.length_eq_one_iff.1 hl
      exact ⟨_, told_not h0 hy (hin y (by rw [hy]; exact List.mem_cons_self))⟩
    · exact ⟨_, told_and h0 (by omega) hin⟩
    · exact ⟨_, told_or h0 (by omega) hin⟩
theorem idxO_told {α : Type} {p : α → Option Bool} {v : α → Bool} : ∀ (l : List α) (i : Nat), (∀ x ∈ l, p x = some (v x)) → idxO p l i = some (idxR v l i)
  | [], _, _ => rfl
  | x :: t, i, h => by
    rw [idxO, idxR, h x List.mem_cons_self, Option.bind_some]
    cases v x with
    | true => rfl
    | false => exact idxO_told t (i + 1) (fun y hy => h y (List.mem_cons_of_mem _ hy))
theorem idxN_R {α : Type} (d : α) (v : α → Bool) (l : List α) : ∀ (m i : Nat), i + m = l.length → idxN (fun j => v (l.getD j d)) m i = idxR v (l.drop i) i
  | 0, i, h => by rw [List.drop_of_length_le (by omega)]; rfl
  | m + 1, i, h => by
    rw [List.drop_eq_getElem_cons (show i < l.length by omega), idxN, idxR, idxN_R d v l m (i + 1) (by omega)]
    simp only [List.getD_eq_getElem?_getD, List.getElem?_eq_getElem (show i < l.length by omega), Option.getD_some]
theorem told_rules {v : S39 → Bool} (l : List S39) (h : ∀ r ∈ l, Told c u f sp vs rs r.f1 (v r)) : ∃ K, ∀ j : Nat, j < l.length → hP K c u f sp vs rs (rd_T39 l (j : Int)).f1 = some (v (rd_T39 l (j : Int))) := by
  obtain ⟨K, w, hw⟩ := gather (p := fun k i => hP k c u f sp vs rs (rd_T39 l i).f1) (fun i k => hP_step _ k) (Q := fun j b => b = v (rd_T39 l (j : Int))) l.length (fun j hj => by
    obtain ⟨k, hk⟩ := h _ (List.getElem_mem hj)
    rw [rdU l j hj]
    exact ⟨k, _, hk, rfl⟩)
  exact ⟨K, fun j hj => by rw [(hw j hj).1, (hw j hj).2]⟩
theorem first_told {v : S39 → Bool} {l : List S39} (hl : l.length ≤ 1000000000) (h : ∀ r ∈ l, Told c u f sp vs rs r.f1 (v r)) : ∃ K, idxO (fun r : S39 => hP K c u f sp vs rs r.f1) l 0 = some (idxR v l 0) ∧ ∃ K', gatewardenref15_First.f K' l c u f sp vs rs = some (idxR v l 0) := by
  obtain ⟨K, hK⟩ := told_rules l h
  refine ⟨K, idxO_told l 0 (fun r hr => ?_), K + l.length + 1, ?_⟩
  · obtain ⟨j, hj, rfl⟩ := List.getElem_of_mem hr
    have := hK j hj
    rwa [rdU l j hj] at this
  · have hlp := loop_idx (n := l.length) hl (L := fun k i => gatewardenref15_First.l0 k l i c u f sp vs rs) (p := fun k i => hP k c u f sp vs rs (rd_T39 l i).f1) (fun k i => by rw [gatewardenref15_First.l0]; rfl) (fun i k => hP_step _ k) (v := fun j => v (rd_T39 l (j : Int))) hK l.length 0 (by omega)
    have e : idxN (fun j : Nat => v (rd_T39 l (j : Int))) l.length 0 = idxR v (l.drop 0) 0 := idxN_R z39 v l l.length 0 (by omega)
    rw [e, List.drop_zero] at hlp
    exact hlp
end
theorem few_eq (c u f : Int) (sp : List S55) (vs rs : List Int) : ∃ b, gatewardenlaw15_few.f c u f sp vs rs = some b ∧ (b = true → FewF sp vs rs) := by
  unfold gatewardenlaw15_few.f
  by_cases h1 : (sp.length : Int) ≤ 20
  · rw [if_pos h1]
    by_cases h2 : (vs.length : Int) ≤ 300
    · rw [if_pos h2]
      exact ⟨_, rfl, fun h => ⟨by omega, by omega, by have := of_decide_eq_true h; omega⟩⟩
    · rw [if_neg h2]; exact ⟨_, rfl, fun h => by cases h⟩
  · rw [if_neg h1]; exact ⟨_, rfl, fun h => by cases h⟩
theorem Few_told (l : List S39) (n : Int) (hn : n ≤ 1000) : ∃ k b, gatewardenref11_Few.f k l n = some b ∧ (b = true → (l.length : Int) ≤ n ∧ ∀ r ∈ l, Sm r.f1) := by
  by_cases h1 : (l.length : Int) > n
  · exact ⟨0, false, by rw [gatewardenref11_Few.f, if_pos h1], fun h => by cases h⟩
  obtain ⟨K, v, hv⟩ := gather (p := fun k i => smF k (rd_T39 l i).f1 4) (fun i k => smF_mono _ _ k) (Q := fun j b => b = true → Sm (rd_T39 l (j : Int)).f1) l.length (fun j hj => by
    rw [rdU l j hj]
    exact small_told _ 4 (by omega) (by omega))
  have hl := loop_all (n := l.length) (by omega) (L := fun k i => gatewardenref11_Few.l0 k l i) (p := fun k i => smF k (rd_T39 l i).f1 4) (e := some true) (fun k i => by rw [gatewardenref11_Few.l0]) (fun i k => smF_mono _ _ k) (fun j hj => (hv j hj).1) l.length 0 (by omega)
  refine ⟨K + l.length + 1, (List.range' 0 l.length).all v, ?_, fun h => ⟨by omega, fun r hr => ?_⟩⟩
  · rw [gatewardenref11_Few.f, if_neg h1]
    refine hl.trans ?_
    cases (List.range' 0 l.length).all v <;> rfl
  · obtain ⟨j, hj, rfl⟩ := List.getElem_of_mem hr
    have := (hv j hj).2 (List.all_eq_true.1 h j (by simp [List.mem_range'_1, hj]))
    rwa [rdU l j hj] at this
end Go.Proofs.Ytppmcbkcohiodaa.PMeanTells
namespace Go.Proofs.Ytppmcbkcohiodaa.PMeanTells
open Go Go.RowKit Go.Proofs.YtppmcbkcohiodaaW.PrintWords Go.Proofs.Ytppmcbkcohiodaa.Loops Go.Proofs.Ytppmcbkcohiodaa.Base
set_option linter.unusedVariables false
theorem first_idx {c u f : Int} {sp : List S55} {vs rs : List Int} (K : Nat) (l : List S39) (hl : l.length ≤ 1000000) (r : Int) : ∀ (k i : Nat), k ≤ K → i ≤ l.length → gatewardenref15_First.l0 k l (i : Int) c u f sp vs rs = some r → idxO (fun x : S39 => hP K c u f sp vs rs x.f1) (l.drop i) i = some r
  | 0, i, _, _, h => by simp [gatewardenref15_First.l0] at h
  | k + 1, i, hk, hi, h => by
    rw [gatewardenref15_First.l0] at h
    by_cases hlt : i < l.length
    · rw [if_pos (by omega), if_pos (by omega), rdU l i hlt] at h
      obtain ⟨b, hb, h⟩ := Option.bind_eq_some_iff.1 h
      rw [List.drop_eq_getElem_cons hlt, idxO]
      have hb' : hP K c u f sp vs rs (l[i]).f1 = some b := hP_mono (K := k) (by omega) hb
      rw [hb', Option.bind_some]
      cases b with
      | true => rw [if_pos rfl] at h ⊢; exact h
      | false =>
        rw [if_neg (by decide), w64 (by omega) (by omega)] at h
        rw [if_neg (by decide)]
        exact first_idx K l hl r k (i + 1) (by omega) (by omega) h
    · rw [if_neg (by omega)] at h
      rw [List.drop_of_length_le (by omega)]
      exact h
def mean_Holds.f (k : Nat) (a0_0 : Int) (a0_1 : Int) (l0_2 : List (S55)) (a0_3 : Nat) (a0_4 : Nat) (l0_5 : List (S26)) (a1_0 : Int) (a1_1 : Int) (a1_2 : Int) (l1_3 : List (S55)) (l1_4 : List Int) (l1_5 : List Int) : Option Bool := gatewardenref15_Holds.f k a0_0 a0_1 l0_2 a0_3 a0_4 l0_5 a1_0 a1_1 a1_2 l1_3 l1_4 l1_5
theorem mean_Holds.mono : ∀ a0 a1 a2 a3 a4 a5 a6 a7 a8 a9 a10 a11 k, LeO (mean_Holds.f k a0 a1 a2 a3 a4 a5 a6 a7 a8 a9 a10 a11) (mean_Holds.f (k + 1) a0 a1 a2 a3 a4 a5 a6 a7 a8 a9 a10 a11) := fun a0 a1 a2 a3 a4 a5 a6 a7 a8 a9 a10 a11 k => gatewardenref15_Holds.mono a0 a1 a2 a3 a4 a5 a6 a7 a8 a9 a10 a11 k
theorem mean_Holds.calls (k : Nat) (a0_0 : Int) (a0_1 : Int) (A0_2 : Option Addr) (c0_2 : Nat) (l0_2 : List (S55)) (a0_3 : Nat) (a0_4 : Nat) (A0_5 : Option Addr) (c0_5 : Nat) (l0_5 : List (S26)) (a1_0 : Int) (a1_1 : Int) (a1_2 : Int) (A1_3 : Option Addr) (c1_3 : Nat) (l1_3 : List (S55)) (A1_4 : Option Addr) (c1_4 : Nat) (l1_4 : List Int) (A1_5 : Option Addr) (c1_5 : Nat) (l1_5 : List Int) (r : Bool) (w : World) (hr0_2 : Kd.C k55 w A0_2 l0_2.length l0_2) (hc0_2 : l0_2.length ≤ c0_2) (hr0_5 : Kd.C k26 w A0_5 l0_5.length l0_5) (hc0_5 : l0_5.length ≤ c0_5) (hr1_3 : Kd.C k55 w A1_3 l1_3.length l1_3) (hc1_3 : l1_3.length ≤ c1_3) (hr1_4 : Kd.C (Kd.int .i64) w A1_4 l1_4.length l1_4) (hc1_4 : l1_4.length ≤ c1_4) (hr1_5 : Kd.C (Kd.int .i64) w A1_5 l1_5.length l1_5) (hc1_5 : l1_5.length ≤ c1_5) (h : mean_Holds.f k a0_0 a0_1 l0_2 a0_3 a0_4 l0_5 a1_0 a1_1 a1_2 l1_3 l1_4 l1_5 = some r) :
    Calls Try.prog 14 #[.agg #[.int .i64 a0_0, .int .i64 a0_1, .slice A0_2 l0_2.length c0_2, .float .f64 a0_3, .float .f64 a0_4, .slice A0_5 l0_5.length c0_5], .agg #[.int .i64 a1_0, .int .i64 a1_1, .int .i64 a1_2, .slice A1_3 l1_3.length c1_3, .slice A1_4 l1_4.length c1_4, .slice A1_5 l1_5.length c1_5]] w fun e w' => e = .returned (.bool r) ∧ Below w.heap.size w w' :=
  holds_at k a0_0 a0_1 A0_2 c0_2 l0_2 a0_3 a0_4 A0_5 c0_5 l0_5 a1_0 a1_1 a1_2 A1_3 c1_3 l1_3 A1_4 c1_4 l1_4 A1_5 c1_5 l1_5 r w hr0_2 hc0_2 hr0_5 hc0_5 ⟨hr1_3, hc1_3, hr1_4, hc1_4, hr1_5, hc1_5⟩ h
def mean_First.f (k : Nat) (l0 : List (S39)) (a1_0 : Int) (a1_1 : Int) (a1_2 : Int) (l1_3 : List (S55)) (l1_4 : List Int) (l1_5 : List Int) : Option Int := if l0.length ≤ 1000000 then gatewardenref15_First.f k l0 a1_0 a1_1 a1_2 l1_3 l1_4 l1_5 else none
theorem mean_First.mono : ∀ a0 a1 a2 a3 a4 a5 a6 k, LeO (mean_First.f k a0 a1 a2 a3 a4 a5 a6) (mean_First.f (k + 1) a0 a1 a2 a3 a4 a5 a6) := by
  intro a0 a1 a2 a3 a4 a5 a6 k r h
  unfold mean_First.f at h ⊢
  by_cases hl : a0.length ≤ 1000000
  · rw [if_pos hl] at h ⊢; exact gatewardenref15_First.mono _ _ _ _ _ _ _ _ r h
  · rw [if_neg hl] at h; cases h
theorem mean_First.calls (k : Nat) (A0 : Option Addr) (c0 : Nat) (l0 : List (S39)) (a1_0 : Int) (a1_1 : Int) (a1_2 : Int) (A1_3 : Option Addr) (c1_3 : Nat) (l1_3 : List (S55)) (A1_4 : Option Addr) (c1_4 : Nat) (l1_4 : List Int) (A1_5 : Option Addr) (c1_5 : Nat) (l1_5 : List Int) (r : Int) (w : World) (hr0 : Kd.C k39 w A0 l0.length l0) (hc0 : l0.length ≤ c0) (hr1_3 : Kd.C k55 w A1_3 l1_3.length l1_3) (hc1_3 : l1_3.length ≤ c1_3) (hr1_4 : Kd.C (Kd.int .i64) w A1_4 l1_4.length l1_4) (hc1_4 : l1_4.length ≤ c1_4) (hr1_5 : Kd.C (Kd.int .i64) w A1_5 l1_5.length l1_5) (hc1_5 : l1_5.length ≤ c1_5) (h : mean_First.f k l0 a1_0 a1_1 a1_2 l1_3 l1_4 l1_5 = some r) :
    Calls Try.prog 16 #[.slice A0 l0.length c0, .agg #[.int .i64 a1_0, .int .i64 a1_1, .int .i64 a1_2, .slice A1_3 l1_3.length c1_3, .slice A1_4 l1_4.length c1_4, .slice A1_5 l1_5.length c1_5]] w fun e w' => e = .returned (.int .i64 r) ∧ Below w.heap.size w w' := by
  unfold mean_First.f at h
  by_cases hl : l0.length ≤ 1000000
  · rw [if_pos hl] at h
    exact first_calls k A0 c0 l0 a1_0 a1_1 a1_2 A1_3 c1_3 l1_3 A1_4 c1_4 l1_4 A1_5 c1_5 l1_5 r w hr0 (by omega) ⟨hr1_3, hc1_3, hr1_4, hc1_4, hr1_5, hc1_5⟩ (first_idx k l0 hl r k 0 (Nat.le_refl _) (Nat.zero_le _) h)
  · rw [if_neg hl] at h; cases h
end Go.Proofs.Ytppmcbkcohiodaa.PMeanTells
namespace Go.Proofs.Ytppmcbkcohiodaa.PMeanTells
open Go Go.RowKit Go.Proofs.YtppmcbkcohiodaaW.PrintWords Go.Proofs.YtppmcbkcohiodaaW.PrintLast Go.Proofs.YtppmcbkcohiodaaW.PrintMore
set_option maxHeartbeats 4000000
set_option maxRecDepth 100000
set_option linter.unusedVariables false
set_option linter.unusedSimpArgs false
theorem run_store_float {P : Program} {w : World} (a : Addr) (m : Mode) (k : FloatKind) (n : Nat) : (store a (.float k n) m).run P w = stored P w a (.float k n) m := run_store P w a _ m rfl
attribute [local go_sem] run_store_float
/-- A row of one range, made. -/
theorem row1 {w : World} {g : Nat} {a b : Int} (h : w.heap[g]? = some (.cells #[.int .i64 a, .int .i64 b] 55 (0, 0))) : Kd.C k55 w (some ⟨g, 0, none⟩) 1 [⟨a, b⟩] := by
  refine ⟨rfl, by decide, fun _ => ⟨_, rfl, fun j p hp => ?_⟩⟩
  match j, hp with
  | 0, hp =>
    cases hp
    refine ⟨[.int .i64 a, .int .i64 b], rfl, k55_mk w ⟨a, b⟩, fun i u hu => ?_⟩
    match i, hu with
    | 0, hu => cases hu; exact blk_cell h 0
    | 1, hu => cases hu; exact blk_cell h 1
/-- A row of two rules, made. -/
theorem rowU {w : World} {g b : Nat} {p q : Int} (h : w.heap[g]? = some (.cells #[.bool false, .int .i64 1, .int .i64 4, .slice (some ⟨b, 0, none⟩) 1 1, .float .f64 0, .float .f64 0, .slice none 0 0, .int .i64 0, .int .i64 0, .int .i64 0, .int .i64 0, .bool false, .int .i64 0, .int .i64 0, .slice none 0 0, .float .f64 0, .float .f64 0, .slice none 0 0, .int .i64 0, .int .i64 0, .int .i64 0, .int .i64 0] 39 (0, 0))) (hc : w.heap[b]? = some (.cells #[.int .i64 p, .int .i64 q] 55 (0, 0))) : Kd.C k39 w (some ⟨g, 0, none⟩) 2 [(⟨false, ⟨1, 4, [⟨p, q⟩], 0, 0, []⟩, ⟨0, 0, 0⟩, 0⟩ : S39), ⟨false, ⟨0, 0, [], 0, 0, []⟩, ⟨0, 0, 0⟩, 0⟩] := by
  refine ⟨rfl, by decide, fun _ => ⟨_, rfl, fun j p hp => ?_⟩⟩
  match j, hp with
  | 0, hp =>
    cases hp
    refine ⟨[.bool false, .int .i64 1, .int .i64 4, .slice (some ⟨b, 0, none⟩) 1 1, .float .f64 0, .float .f64 0, .slice none 0 0, .int .i64 0, .int .i64 0, .int .i64 0, .int .i64 0], rfl, k39_mk w (⟨false, ⟨1, 4, [⟨_, _⟩], 0, 0, []⟩, ⟨0, 0, 0⟩, 0⟩ : S39) (Nat.le_refl _) (row1 hc) (Nat.le_refl _) (Kd.C_nil _ _), fun i u hu => ?_⟩
    match i, hu with
    | 0, hu => cases hu; exact blk_cell h 0
    | 1, hu => cases hu; exact blk_cell h 1
    | 2, hu => cases hu; exact blk_cell h 2
    | 3, hu => cases hu; exact blk_cell h 3
    | 4, hu => cases hu; exact blk_cell h 4
    | 5, hu => cases hu; exact blk_cell h 5
    | 6, hu => cases hu; exact blk_cell h 6
    | 7, hu => cases hu; exact blk_cell h 7
    | 8, hu => cases hu; exact blk_cell h 8
    | 9, hu => cases hu; exact blk_cell h 9
    | 10, hu => cases hu; exact blk_cell h 10
  | 1, hp =>
    cases hp
    refine ⟨[.bool false, .int .i64 0, .int .i64 0, .slice none 0 0, .float .f64 0, .float .f64 0, .slice none 0 0, .int .i64 0, .int .i64 0, .int .i64 0, .int .i64 0], rfl, k39_mk w (⟨false, ⟨0, 0, [], 0, 0, []⟩, ⟨0, 0, 0⟩, 0⟩ : S39) (Nat.le_refl _) (Kd.C_nil _ _) (Nat.le_refl _) (Kd.C_nil _ _), fun i u hu => ?_⟩
    match i, hu with
    | 0, hu => cases hu; exact blk_cell h 11
    | 1, hu => cases hu; exact blk_cell h 12
    | 2, hu => cases hu; exact blk_cell h 13
    | 3, hu => cases hu; exact blk_cell h 14
    | 4, hu => cases hu; exact blk_cell h 15
    | 5, hu => cases hu; exact blk_cell h 16
    | 6, hu => cases hu; exact blk_cell h 17
    | 7, hu => cases hu; exact blk_cell h 18
    | 8, hu => cases hu; exact blk_cell h 19
    | 9, hu => cases hu; exact blk_cell h 20
    | 10, hu => cases hu; exact blk_cell h 21
theorem awake15 (w : World) : Calls Try.prog 13 #[] w fun e w' => e = .returned (.bool true) ∧ Below w.heap.size w w' := by
  obtain ⟨T, hT⟩ : ∃ T : Ending → World → Prop, T = fun e w' => e = .returned (.bool true) ∧ Below w.heap.size w w' := ⟨_, rfl⟩
  have HT := Aside0.mk hT
  rw [← hT]
  clear hT
  go_enter Try.func13, Try.ntmps13
  go_upto_region 2 with (fail)
  have sz1 : (w.alloc (.cells #[.int .i64 0, .int .i64 9] 55)).heap.size = w.heap.size + 1 := new_size _ _
  have nb : ((w.alloc (.cells #[.int .i64 0, .int .i64 9] 55)).alloc (.cells #[.int .i64 1, .int .i64 4, .slice (some ⟨w.heap.size, 0, none⟩) 1 1, .float .f64 0, .float .f64 0, .slice none 0 0] 26)).heap[w.heap.size + 1]? = some (.cells #[.int .i64 1, .int .i64 4, .slice (some ⟨w.heap.size, 0, none⟩) 1 1, .float .f64 0, .float .f64 0, .slice none 0 0] 26 (0, 0)) := by rw [← sz1]; exact new_at _ _
  have na : ((w.alloc (.cells #[.int .i64 0, .int .i64 9] 55)).alloc (.cells #[.int .i64 1, .int .i64 4, .slice (some ⟨w.heap.size, 0, none⟩) 1 1, .float .f64 0, .float .f64 0, .slice none 0 0] 26)).heap[w.heap.size]? = some (.cells #[.int .i64 0, .int .i64 9] 55 (0, 0)) := blk_alloc (new_at _ _) _
  have hz : ((w.alloc (.cells #[.int .i64 0, .int .i64 9] 55)).alloc (.cells #[.int .i64 1, .int .i64 4, .slice (some ⟨w.heap.size, 0, none⟩) 1 1, .float .f64 0, .float .f64 0, .slice none 0 0] 26)).heap.size = w.heap.size + 2 := by rw [new_size, sz1]
  have hb := below_alloc (below_alloc (Below.refl w.heap.size w) (.cells #[.int .i64 0, .int .i64 9] 55)) (.cells #[.int .i64 1, .int .i64 4, .slice (some ⟨w.heap.size, 0, none⟩) 1 1, .float .f64 0, .float .f64 0, .slice none 0 0] 26)
  clear sz1
  generalize ((w.alloc (.cells #[.int .i64 0, .int .i64 9] 55)).alloc (.cells #[.int .i64 1, .int .i64 4, .slice (some ⟨w.heap.size, 0, none⟩) 1 1, .float .f64 0, .float .f64 0, .slice none 0 0] 26)) = W1 at nb na hz hb  ⊢
  have N1 := Aside0.mk na
  have N2 := Aside0.mk nb
  have B1 := Aside0.mk hb
  have S1 := Aside0.mk hz
  clear na nb hb hz
  go_upto_region 3 with (fail)
  have sz1 : (W1.alloc (.cells #[.int .i64 3, .int .i64 9] 55)).heap.size = W1.heap.size + 1 := new_size _ _
  have nb : ((W1.alloc (.cells #[.int .i64 3, .int .i64 9] 55)).alloc (.cells #[.int .i64 0, .int .i64 0, .int .i64 0, .slice (some ⟨W1.heap.size, 0, none⟩) 1 1, .slice none 0 0, .slice none 0 0] 30)).heap[W1.heap.size + 1]? = some (.cells #[.int .i64 0, .int .i64 0, .int .i64 0, .slice (some ⟨W1.heap.size, 0, none⟩) 1 1, .slice none 0 0, .slice none 0 0] 30 (0, 0)) := by rw [← sz1]; exact new_at _ _
  have na : ((W1.alloc (.cells #[.int .i64 3, .int .i64 9] 55)).alloc (.cells #[.int .i64 0, .int .i64 0, .int .i64 0, .slice (some ⟨W1.heap.size, 0, none⟩) 1 1, .slice none 0 0, .slice none 0 0] 30)).heap[W1.heap.size]? = some (.cells #[.int .i64 3, .int .i64 9] 55 (0, 0)) := blk_alloc (new_at _ _) _
  have hz : ((W1.alloc (.cells #[.int .i64 3, .int .i64 9] 55)).alloc (.cells #[.int .i64 0, .int .i64 0, .int .i64 0, .slice (some ⟨W1.heap.size, 0, none⟩) 1 1, .slice none 0 0, .slice none 0 0] 30)).heap.size = W1.heap.size + 2 := by rw [new_size, sz1]
  have hb := below_alloc (below_alloc B1.out (.cells #[.int .i64 3, .int .i64 9] 55)) (.cells #[.int .i64 0, .int .i64 0, .int .i64 0, .slice (some ⟨W1.heap.size, 0, none⟩) 1 1, .slice none 0 0, .slice none 0 0] 30)
  have o0 : ((W1.alloc (.cells #[.int .i64 3, .int .i64 9] 55)).alloc (.cells #[.int .i64 0, .int .i64 0, .int .i64 0, .slice (some ⟨W1.heap.size, 0, none⟩) 1 1, .slice none 0 0, .slice none 0 0] 30)).heap[w.heap.size]? = some (.cells #[.int .i64 0, .int .i64 9] 55 (0, 0)) := blk_alloc (blk_alloc N1.out _) _
  have o1 : ((W1.alloc (.cells #[.int .i64 3, .int .i64 9] 55)).alloc (.cells #[.int .i64 0, .int .i64 0, .int .i64 0, .slice (some ⟨W1.heap.size, 0, none⟩) 1 1, .slice none 0 0, .slice none 0 0] 30)).heap[w.heap.size + 1]? = some (.cells #[.int .i64 1, .int .i64 4, .slice (some ⟨w.heap.size, 0, none⟩) 1 1, .float .f64 0, .float .f64 0, .slice none 0 0] 26 (0, 0)) := blk_alloc (blk_alloc N2.out _) _
  clear sz1
  generalize ((W1.alloc (.cells #[.int .i64 3, .int .i64 9] 55)).alloc (.cells #[.int .i64 0, .int .i64 0, .int .i64 0, .slice (some ⟨W1.heap.size, 0, none⟩) 1 1, .slice none 0 0, .slice none 0 0] 30)) = W2 at nb na hz hb o0 o1 ⊢
  rw [S1.out] at na nb hz ⊢
  have N1 := Aside0.mk o0
  have N2 := Aside0.mk o1
  have N3 := Aside0.mk na
  have N4 := Aside0.mk nb
  have B2 := Aside0.mk hb
  have S2 := Aside0.mk hz
  clear na nb hb hz o0 o1 S1 B1
  go_upto_region 4 with (fail)
  have sz1 : (W2.alloc (.cells #[.int .i64 3, .int .i64 10] 55)).heap.size = W2.heap.size + 1 := new_size _ _
  have nb : ((W2.alloc (.cells #[.int .i64 3, .int .i64 10] 55)).alloc (.cells #[.int .i64 0, .int .i64 0, .int .i64 0, .slice (some ⟨W2.heap.size, 0, none⟩) 1 1, .slice none 0 0, .slice none 0 0] 30)).heap[W2.heap.size + 1]? = some (.cells #[.int .i64 0, .int .i64 0, .int .i64 0, .slice (some ⟨W2.heap.size, 0, none⟩) 1 1, .slice none 0 0, .slice none 0 0] 30 (0, 0)) := by rw [← sz1]; exact new_at _ _
  have na : ((W2.alloc (.cells #[.int .i64 3, .int .i64 10] 55)).alloc (.cells #[.int .i64 0, .int .i64 0, .int .i64 0, .slice (some ⟨W2.heap.size, 0, none⟩) 1 1, .slice none 0 0, .slice none 0 0] 30)).heap[W2.heap.size]? = some (.cells #[.int .i64 3, .int .i64 10] 55 (0, 0)) := blk_alloc (new_at _ _) _
  have hz : ((W2.alloc (.cells #[.int .i64 3, .int .i64 10] 55)).alloc (.cells #[.int .i64 0, .int .i64 0, .int .i64 0, .slice (some ⟨W2.heap.size, 0, none⟩) 1 1, .slice none 0 0, .slice none 0 0] 30)).heap.size = W2.heap.size + 2 := by rw [new_size, sz1]
  have hb := below_alloc (below_alloc B2.out (.cells #[.int .i64 3, .int .i64 10] 55)) (.cells #[.int .i64 0, .int .i64 0, .int .i64 0, .slice (some ⟨W2.heap.size, 0, none⟩) 1 1, .slice none 0 0, .slice none 0 0] 30)
  have o0 : ((W2.alloc (.cells #[.int .i64 3, .int .i64 10] 55)).alloc (.cells #[.int .i64 0, .int .i64 0, .int .i64 0, .slice (some ⟨W2.heap.size, 0, none⟩) 1 1, .slice none 0 0, .slice none 0 0] 30)).heap[w.heap.size]? = some (.cells #[.int .i64 0, .int .i64 9] 55 (0, 0)) := blk_alloc (blk_alloc N1.out _) _
  have o1 : ((W2.alloc (.cells #[.int .i64 3, .int .i64 10] 55)).alloc (.cells #[.int .i64 0, .int .i64 0, .int .i64 0, .slice (some ⟨W2.heap.size, 0, none⟩) 1 1, .slice none 0 0, .slice none 0 0] 30)).heap[w.heap.size + 1]? = some (.cells #[.int .i64 1, .int .i64 4, .slice (some ⟨w.heap.size, 0, none⟩) 1 1, .float .f64 0, .float .f64 0, .slice none 0 0] 26 (0, 0)) := blk_alloc (blk_alloc N2.out _) _
  have o2 : ((W2.alloc (.cells #[.int .i64 3, .int .i64 10] 55)).alloc (.cells #[.int .i64 0, .int .i64 0, .int .i64 0, .slice (some ⟨W2.heap.size, 0, none⟩) 1 1, .slice none 0 0, .slice none 0 0] 30)).heap[w.heap.size + 2]? = some (.cells #[.int .i64 3, .int .i64 9] 55 (0, 0)) := blk_alloc (blk_alloc N3.out _) _
  have o3 : ((W2.alloc (.cells #[.int .i64 3, .int .i64 10] 55)).alloc (.cells #[.int .i64 0, .int .i64 0, .int .i64 0, .slice (some ⟨W2.heap.size, 0, none⟩) 1 1, .slice none 0 0, .slice none 0 0] 30)).heap[w.heap.size + 2 + 1]? = some (.cells #[.int .i64 0, .int .i64 0, .int .i64 0, .slice (some ⟨w.heap.size + 2, 0, none⟩) 1 1, .slice none 0 0, .slice none 0 0] 30 (0, 0)) := blk_alloc (blk_alloc N4.out _) _
  clear sz1
  generalize ((W2.alloc (.cells #[.int .i64 3, .int .i64 10] 55)).alloc (.cells #[.int .i64 0, .int .i64 0, .int .i64 0, .slice (some ⟨W2.heap.size, 0, none⟩) 1 1, .slice none 0 0, .slice none 0 0] 30)) = W3 at nb na hz hb o0 o1 o2 o3 ⊢
  rw [S2.out] at na nb hz ⊢
  have N1 := Aside0.mk o0
  have N2 := Aside0.mk o1
  have N3 := Aside0.mk o2
  have N4 := Aside0.mk o3
  have N5 := Aside0.mk na
  have N6 := Aside0.mk nb
  have B3 := Aside0.mk hb
  have S3 := Aside0.mk hz
  clear na nb hb hz o0 o1 o2 o3 S2 B2
  have e0 : W3.cell? ⟨w.heap.size + 1, 0, none⟩ = some (.int .i64 1) := blk_cell N2.out 0
  have e1 : W3.cell? ⟨w.heap.size + 1, 1, none⟩ = some (.int .i64 4) := blk_cell N2.out 1
  have e2 : W3.cell? ⟨w.heap.size + 1, 2, none⟩ = some (.slice (some ⟨w.heap.size, 0, none⟩) 1 1) := blk_cell N2.out 2
  have e3 : W3.cell? ⟨w.heap.size + 1, 3, none⟩ = some (.float .f64 0) := blk_cell N2.out 3
  have e4 : W3.cell? ⟨w.heap.size + 1, 4, none⟩ = some (.float .f64 0) := blk_cell N2.out 4
  have e5 : W3.cell? ⟨w.heap.size + 1, 5, none⟩ = some (.slice none 0 0) := blk_cell N2.out 5
  have f0 : W3.cell? ⟨w.heap.size + 2 + 1, 0, none⟩ = some (.int .i64 0) := blk_cell N4.out 0
  have f1 : W3.cell? ⟨w.heap.size + 2 + 1, 1, none⟩ = some (.int .i64 0) := blk_cell N4.out 1
  have f2 : W3.cell? ⟨w.heap.size + 2 + 1, 2, none⟩ = some (.int .i64 0) := blk_cell N4.out 2
  have f3 : W3.cell? ⟨w.heap.size + 2 + 1, 3, none⟩ = some (.slice (some ⟨w.heap.size + 2, 0, none⟩) 1 1) := blk_cell N4.out 3
  have f4 : W3.cell? ⟨w.heap.size + 2 + 1, 4, none⟩ = some (.slice none 0 0) := blk_cell N4.out 4
  have f5 : W3.cell? ⟨w.heap.size + 2 + 1, 5, none⟩ = some (.slice none 0 0) := blk_cell N4.out 5
  go_wp2_with fail
  refine (holds_at 5 1 4 (some ⟨w.heap.size, 0, none⟩) 1 [⟨0, 9⟩] 0 0 none 0 [] 0 0 0 (some ⟨w.heap.size + 2, 0, none⟩) 1 [⟨3, 9⟩] none 0 [] none 0 [] true W3 (row1 N1.out) (Nat.le_refl _) (Kd.C_nil _ _) (Nat.le_refl _) ⟨row1 N3.out, Nat.le_refl _, Kd.C_nil _ _, Nat.le_refl _, Kd.C_nil _ _, Nat.le_refl _⟩ (by kernel_rfl)).mono ?_
  rintro e w4 ⟨rfl, hb⟩
  have B4 := Aside0.mk (below_step B3.out hb)
  have H4 := Aside0.mk hb
  clear hb e0 f0 e1 f1 e2 f2 e3 f3 e4 f4 e5 f5
  have e0 : w4.cell? ⟨w.heap.size + 1, 0, none⟩ = some (.int .i64 1) := blk_cell (blk_below N2.out H4.out) 0
  have e1 : w4.cell? ⟨w.heap.size + 1, 1, none⟩ = some (.int .i64 4) := blk_cell (blk_below N2.out H4.out) 1
  have e2 : w4.cell? ⟨w.heap.size + 1, 2, none⟩ = some (.slice (some ⟨w.heap.size, 0, none⟩) 1 1) := blk_cell (blk_below N2.out H4.out) 2
  have e3 : w4.cell? ⟨w.heap.size + 1, 3, none⟩ = some (.float .f64 0) := blk_cell (blk_below N2.out H4.out) 3
  have e4 : w4.cell? ⟨w.heap.size + 1, 4, none⟩ = some (.float .f64 0) := blk_cell (blk_below N2.out H4.out) 4
  have e5 : w4.cell? ⟨w.heap.size + 1, 5, none⟩ = some (.slice none 0 0) := blk_cell (blk_below N2.out H4.out) 5
  have f0 : w4.cell? ⟨w.heap.size + 2 + 2 + 1, 0, none⟩ = some (.int .i64 0) := blk_cell (blk_below N6.out H4.out) 0
  have f1 : w4.cell? ⟨w.heap.size + 2 + 2 + 1, 1, none⟩ = some (.int .i64 0) := blk_cell (blk_below N6.out H4.out) 1
  have f2 : w4.cell? ⟨w.heap.size + 2 + 2 + 1, 2, none⟩ = some (.int .i64 0) := blk_cell (blk_below N6.out H4.out) 2
  have f3 : w4.cell? ⟨w.heap.size + 2 + 2 + 1, 3, none⟩ = some (.slice (some ⟨w.heap.size + 2 + 2, 0, none⟩) 1 1) := blk_cell (blk_below N6.out H4.out) 3
  have f4 : w4.cell? ⟨w.heap.size + 2 + 2 + 1, 4, none⟩ = some (.slice none 0 0) := blk_cell (blk_below N6.out H4.out) 4
  have f5 : w4.cell? ⟨w.heap.size + 2 + 2 + 1, 5, none⟩ = some (.slice none 0 0) := blk_cell (blk_below N6.out H4.out) 5
  go_wp2_with fail
  refine (holds_at 5 1 4 (some ⟨w.heap.size, 0, none⟩) 1 [⟨0, 9⟩] 0 0 none 0 [] 0 0 0 (some ⟨w.heap.size + 2 + 2, 0, none⟩) 1 [⟨3, 10⟩] none 0 [] none 0 [] false w4 (row1 (blk_below N1.out H4.out)) (Nat.le_refl _) (Kd.C_nil _ _) (Nat.le_refl _) ⟨row1 (blk_below N5.out H4.out), Nat.le_refl _, Kd.C_nil _ _, Nat.le_refl _, Kd.C_nil _ _, Nat.le_refl _⟩ (by kernel_rfl)).mono ?_
  rintro e w5 ⟨rfl, hb⟩
  have B5 := Aside0.mk (below_step B4.out hb)
  have H5 := Aside0.mk (below_step H4.out hb)
  clear hb e0 f0 e1 f1 e2 f2 e3 f3 e4 f4 e5 f5
  have e0 : w5.cell? ⟨w.heap.size + 1, 0, none⟩ = some (.int .i64 1) := blk_cell (blk_below N2.out H5.out) 0
  have e1 : w5.cell? ⟨w.heap.size + 1, 1, none⟩ = some (.int .i64 4) := blk_cell (blk_below N2.out H5.out) 1
  have e2 : w5.cell? ⟨w.heap.size + 1, 2, none⟩ = some (.slice (some ⟨w.heap.size, 0, none⟩) 1 1) := blk_cell (blk_below N2.out H5.out) 2
  have e3 : w5.cell? ⟨w.heap.size + 1, 3, none⟩ = some (.float .f64 0) := blk_cell (blk_below N2.out H5.out) 3
  have e4 : w5.cell? ⟨w.heap.size + 1, 4, none⟩ = some (.float .f64 0) := blk_cell (blk_below N2.out H5.out) 4
  have e5 : w5.cell? ⟨w.heap.size + 1, 5, none⟩ = some (.slice none 0 0) := blk_cell (blk_below N2.out H5.out) 5
  have f0 : w5.cell? ⟨w.heap.size + 2 + 2 + 1, 0, none⟩ = some (.int .i64 0) := blk_cell (blk_below N6.out H5.out) 0
  have f1 : w5.cell? ⟨w.heap.size + 2 + 2 + 1, 1, none⟩ = some (.int .i64 0) := blk_cell (blk_below N6.out H5.out) 1
  have f2 : w5.cell? ⟨w.heap.size + 2 + 2 + 1, 2, none⟩ = some (.int .i64 0) := blk_cell (blk_below N6.out H5.out) 2
  have f3 : w5.cell? ⟨w.heap.size + 2 + 2 + 1, 3, none⟩ = some (.slice (some ⟨w.heap.size + 2 + 2, 0, none⟩) 1 1) := blk_cell (blk_below N6.out H5.out) 3
  have f4 : w5.cell? ⟨w.heap.size + 2 + 2 + 1, 4, none⟩ = some (.slice none 0 0) := blk_cell (blk_below N6.out H5.out) 4
  have f5 : w5.cell? ⟨w.heap.size + 2 + 2 + 1, 5, none⟩ = some (.slice none 0 0) := blk_cell (blk_below N6.out H5.out) 5
  have hlt6 := blk_lt (blk_below N6.out H5.out)
  have hne : w.heap.size + 2 + 2 + 1 ≠ w5.heap.size := by omega
  have HX := Aside0.mk (below_alloc (Below.refl w5.heap.size w5) (.cells #[.bool false, .int .i64 1, .int .i64 4, .slice (some ⟨w.heap.size, 0, none⟩) 1 1, .float .f64 0, .float .f64 0, .slice none 0 0, .int .i64 0, .int .i64 0, .int .i64 0, .int .i64 0, .bool false, .int .i64 0, .int .i64 0, .slice none 0 0, .float .f64 0, .float .f64 0, .slice none 0 0, .int .i64 0, .int .i64 0, .int .i64 0, .int .i64 0] 39))
  have HU := Aside0.mk (new_at w5 (.cells #[.bool false, .int .i64 1, .int .i64 4, .slice (some ⟨w.heap.size, 0, none⟩) 1 1, .float .f64 0, .float .f64 0, .slice none 0 0, .int .i64 0, .int .i64 0, .int .i64 0, .int .i64 0, .bool false, .int .i64 0, .int .i64 0, .slice none 0 0, .float .f64 0, .float .f64 0, .slice none 0 0, .int .i64 0, .int .i64 0, .int .i64 0, .int .i64 0] 39))
  have hrow := rowU HU.out (blk_below (blk_below N1.out H5.out) HX.out)
  have HC := Aside0.mk (first_calls 5 (some ⟨w5.heap.size, 0, none⟩) 2 _ 0 0 0 (some ⟨w.heap.size + 2 + 2, 0, none⟩) 1 [⟨3, 10⟩] none 0 [] none 0 [] 1 _ hrow (by decide) ⟨row1 (blk_below (blk_below N5.out H5.out) HX.out), Nat.le_refl _, Kd.C_nil _ _, Nat.le_refl _, Kd.C_nil _ _, Nat.le_refl _⟩ (by kernel_rfl))
  clear hrow
  go_wp2_with fail
  refine HC.out.mono ?_
  rintro e w6 ⟨rfl, hb⟩
  have B6 := Aside0.mk (below_step (below_step B5.out HX.out) hb)
  clear hb
  go_wp2_with fail
  rw [HT.out]
  exact ⟨rfl, B6.out⟩
end Go.Proofs.Ytppmcbkcohiodaa.PMeanTells
