/- Texts of this claim, put together (wip/pack.py): MeanFirstW, Loops, RefPut, GuardPure5, GuardPure25. -/
import Derived.Test.YtppmcbkcohiodaaK17
import Derived.Test.YtppmcbkcohiodaaK2
import Derived.Test.YtppmcbkcohiodaaK0
import Derived.Lib.ItoaNum
namespace Go.Proofs.Ytppmcbkcohiodaa.PMeanTells
open Go Go.RowKit Go.Proofs.YtppmcbkcohiodaaW.PrintWords Go.Proofs.YtppmcbkcohiodaaW.PrintLast Go.Proofs.YtppmcbkcohiodaaW.PrintMore
set_option maxHeartbeats 4000000
set_option maxRecDepth 100000
set_option linter.unusedVariables false
set_option linter.unusedSimpArgs false
/-- mean.Holds of an expression that lies somewhere. -/
theorem holds_x (k : Nat) (x : S26) (A3 : Option Addr) (c3 : Nat) (A6 : Option Addr) (c6 : Nat) (a1_0 : Int) (a1_1 : Int) (a1_2 : Int) (A1_3 : Option Addr) (c1_3 : Nat) (l1_3 : List (S55)) (A1_4 : Option Addr) (c1_4 : Nat) (l1_4 : List Int) (A1_5 : Option Addr) (c1_5 : Nat) (l1_5 : List Int) (b : Bool) (w : World) (l3 : x.f2.length ≤ c3) (g3 : Kd.C k55 w A3 x.f2.length x.f2) (l6 : x.f5.length ≤ c6) (g6 : Kd.C k26 w A6 x.f5.length x.f5) (hF : FaC w A1_3 c1_3 l1_3 A1_4 c1_4 l1_4 A1_5 c1_5 l1_5) (h : hP k a1_0 a1_1 a1_2 l1_3 l1_4 l1_5 x = some b) :
    Calls Try.prog 14 #[.agg #[.int .i64 x.f0, .int .i64 x.f1, .slice A3 x.f2.length c3, .float .f64 x.f3, .float .f64 x.f4, .slice A6 x.f5.length c6], .agg #[.int .i64 a1_0, .int .i64 a1_1, .int .i64 a1_2, .slice A1_3 l1_3.length c1_3, .slice A1_4 l1_4.length c1_4, .slice A1_5 l1_5.length c1_5]] w fun e w' => e = .returned (.bool b) ∧ Below w.heap.size w w' :=
  holds_at k x.f0 x.f1 A3 c3 x.f2 x.f3 x.f4 A6 c6 x.f5 a1_0 a1_1 a1_2 A1_3 c1_3 l1_3 A1_4 c1_4 l1_4 A1_5 c1_5 l1_5 b w g3 l3 g6 l6 hF h
theorem first1_calls (k : Nat) (b1 : Nat) (x : S39) (A3 : Option Addr) (c3 : Nat) (A6 : Option Addr) (c6 : Nat) (a1_0 : Int) (a1_1 : Int) (a1_2 : Int) (A1_3 : Option Addr) (c1_3 : Nat) (l1_3 : List (S55)) (A1_4 : Option Addr) (c1_4 : Nat) (l1_4 : List Int) (A1_5 : Option Addr) (c1_5 : Nat) (l1_5 : List Int) (b : Bool) (w : World) (l3 : x.f1.f2.length ≤ c3) (g3 : Kd.C k55 w A3 x.f1.f2.length x.f1.f2) (l6 : x.f1.f5.length ≤ c6) (g6 : Kd.C k26 w A6 x.f1.f5.length x.f1.f5) (hF : FaC w A1_3 c1_3 l1_3 A1_4 c1_4 l1_4 A1_5 c1_5 l1_5) (hB : w.heap[b1]? = some (.cells #[.int .i64 a1_0, .int .i64 a1_1, .int .i64 a1_2, .slice A1_3 l1_3.length c1_3, .slice A1_4 l1_4.length c1_4, .slice A1_5 l1_5.length c1_5] 30 (0, 0))) (h : hP k a1_0 a1_1 a1_2 l1_3 l1_4 l1_5 x.f1 = some b) :
    Calls Try.prog 37 #[.agg #[.bool x.f0, .int .i64 x.f1.f0, .int .i64 x.f1.f1, .slice A3 x.f1.f2.length c3, .float .f64 x.f1.f3, .float .f64 x.f1.f4, .slice A6 x.f1.f5.length c6, .int .i64 x.f2.f0, .int .i64 x.f2.f1, .int .i64 x.f2.f2, .int .i64 x.f3], .pointer (some ⟨b1, 0, none⟩)] w fun e w' => e = .returned (.bool b) ∧ Below w.heap.size w w' := by
  obtain ⟨T, hT⟩ : ∃ T : Ending → World → Prop, T = fun e w' => e = .returned (.bool b) ∧ Below w.heap.size w w' := ⟨_, rfl⟩
  have HT := Aside0.mk hT
  rw [← hT]
  clear hT
  have hA := below_alloc (Below.refl w.heap.size w) (.cells #[.bool x.f0, .int .i64 x.f1.f0, .int .i64 x.f1.f1, .slice A3 x.f1.f2.length c3, .float .f64 x.f1.f3, .float .f64 x.f1.f4, .slice A6 x.f1.f5.length c6, .int .i64 x.f2.f0, .int .i64 x.f2.f1, .int .i64 x.f2.f2, .int .i64 x.f3] 39)
  have HA := Aside0.mk hA
  have HC := Aside0.mk (fun W' (hbW : Below w.heap.size w W') => holds_x k x.f1 A3 c3 A6 c6 a1_0 a1_1 a1_2 A1_3 c1_3 l1_3 A1_4 c1_4 l1_4 A1_5 c1_5 l1_5 b W' l3 (Kd.C_below g3 hbW) l6 (Kd.C_below g6 hbW) (hF.on hbW) h)
  have f0 : w.cell? ⟨b1, 0, none⟩ = some (.int .i64 a1_0) := blk_cell hB 0
  have f1 : w.cell? ⟨b1, 1, none⟩ = some (.int .i64 a1_1) := blk_cell hB 1
  have f2 : w.cell? ⟨b1, 2, none⟩ = some (.int .i64 a1_2) := blk_cell hB 2
  have f3 : w.cell? ⟨b1, 3, none⟩ = some (.slice A1_3 l1_3.length c1_3) := blk_cell hB 3
  have f4 : w.cell? ⟨b1, 4, none⟩ = some (.slice A1_4 l1_4.length c1_4) := blk_cell hB 4
  have f5 : w.cell? ⟨b1, 5, none⟩ = some (.slice A1_5 l1_5.length c1_5) := blk_cell hB 5
  have hlt := blk_lt hB
  have hne : b1 ≠ w.heap.size := by omega
  clear g3 g6 hF hB h hA l3 l6
  go_enter Try.func37, Try.ntmps37
  go_wp2_with fail
  refine (HC.out _ HA.out).mono ?_
  rintro e w1 ⟨rfl, hb⟩
  have HB := Aside0.mk (below_step HA.out hb)
  clear hb
  go_wp2_with fail
  rw [HT.out]
  exact ⟨rfl, HB.out⟩
theorem first_calls (k : Nat) (A0 : Option Addr) (c0 : Nat) (l0 : List (S39)) (a1_0 : Int) (a1_1 : Int) (a1_2 : Int) (A1_3 : Option Addr) (c1_3 : Nat) (l1_3 : List (S55)) (A1_4 : Option Addr) (c1_4 : Nat) (l1_4 : List Int) (A1_5 : Option Addr) (c1_5 : Nat) (l1_5 : List Int) (r : Int) (w : World) (hr0 : Kd.C k39 w A0 l0.length l0) (hm : l0.length ≤ 1099511627776) (hF : FaC w A1_3 c1_3 l1_3 A1_4 c1_4 l1_4 A1_5 c1_5 l1_5) (h : idxO (fun x : S39 => hP k a1_0 a1_1 a1_2 l1_3 l1_4 l1_5 x.f1) l0 0 = some r) :
    Calls Try.prog 16 #[.slice A0 l0.length c0, .agg #[.int .i64 a1_0, .int .i64 a1_1, .int .i64 a1_2, .slice A1_3 l1_3.length c1_3, .slice A1_4 l1_4.length c1_4, .slice A1_5 l1_5.length c1_5]] w fun e w' => e = .returned (.int .i64 r) ∧ Below w.heap.size w w' := by
  obtain ⟨T, hT⟩ : ∃ T : Ending → World → Prop, T = fun e w' => e = .returned (.int .i64 r) ∧ Below w.heap.size w w' := ⟨_, rfl⟩
  have HT := Aside0.mk hT
  rw [← hT]
  clear hT
  have hA := below_alloc (Below.refl w.heap.size w) (.cells #[.int .i64 a1_0, .int .i64 a1_1, .int .i64 a1_2, .slice A1_3 l1_3.length c1_3, .slice A1_4 l1_4.length c1_4, .slice A1_5 l1_5.length c1_5] 30)
  have g0 := new_at w (.cells #[.int .i64 a1_0, .int .i64 a1_1, .int .i64 a1_2, .slice A1_3 l1_3.length c1_3, .slice A1_4 l1_4.length c1_4, .slice A1_5 l1_5.length c1_5] 30)
  have HA := Aside0.mk hA
  have hP1 : PredU 37 #[.pointer (some ⟨w.heap.size, 0, none⟩)] (fun x : S39 => hP k a1_0 a1_1 a1_2 l1_3 l1_4 l1_5 x.f1) (w.alloc (.cells #[.int .i64 a1_0, .int .i64 a1_1, .int .i64 a1_2, .slice A1_3 l1_3.length c1_3, .slice A1_4 l1_4.length c1_4, .slice A1_5 l1_5.length c1_5] 30)) := fun W' x A3 c3 A6 c6 b hbW hl3 g3 hl6 g6 hx => first1_calls k w.heap.size x A3 c3 A6 c6 a1_0 a1_1 a1_2 A1_3 c1_3 l1_3 A1_4 c1_4 l1_4 A1_5 c1_5 l1_5 b W' hl3 g3 hl6 g6 ((hF.on hA).on hbW) (blk_below g0 hbW) hx
  have HC := Aside0.mk (IndexFuncU A0 c0 l0 37 #[.pointer (some ⟨w.heap.size, 0, none⟩)] (fun x : S39 => hP k a1_0 a1_1 a1_2 l1_3 l1_4 l1_5 x.f1) r _ (Kd.C_below hr0 hA) hm (fun args w => enters_ Try.func37 rfl rfl args w) hP1 h)
  clear hP1 h hr0 hF hA g0
  go_enter Try.func16, Try.ntmps16
  go_wp2_with fail
  refine HC.out.mono ?_
  rintro e w1 ⟨rfl, hb⟩
  have HB := Aside0.mk (below_step HA.out hb)
  clear hb
  go_wp2_with fail
  rw [HT.out]
  exact ⟨rfl, HB.out⟩
end Go.Proofs.Ytppmcbkcohiodaa.PMeanTells
namespace Go.Proofs.Ytppmcbkcohiodaa.Loops
open Go.RowKit Go.Proofs.YtppmcbkcohiodaaW.PrintWords Go.Proofs.Ytppmcbkcohiodaa.Base
set_option linter.unusedVariables false
theorem mono_le {β : Type} {F : Nat → Option β} (h : ∀ k, LeO (F k) (F (k + 1))) {k k' : Nat} (hk : k ≤ k') {r : β} (e : F k = some r) : F k' = some r := by
  induction hk with
  | refl => exact e
  | step _ ih => exact h _ _ ih
theorem one_det {β : Type} {F : Nat → Option β} (h : ∀ k, LeO (F k) (F (k + 1))) {k k' : Nat} {r r' : β} (e : F k = some r) (e' : F k' = some r') : r = r' := by
  rcases Nat.le_total k k' with hk | hk
  · exact Option.some.inj ((mono_le h hk e).symm.trans e')
  · exact Option.some.inj (e.symm.trans (mono_le h hk e'))
theorem loop_all {n : Nat} (hn : n ≤ 1000000000) {L p : Nat → Int → Option Bool} {e : Option Bool}
    (hL : ∀ k i, L (k + 1) i = if i < (n : Int) then (if 0 ≤ i then ((p k i).bind fun t => if t = true then L k (wrap64 (i + 1)) else some false) else none) else e)
    (hm : ∀ i k, LeO (p k i) (p (k + 1) i)) {K : Nat} {v : Nat → Bool} (hp : ∀ j : Nat, j < n → p K (j : Int) = some (v j)) :
    ∀ (m i : Nat), i + m = n → L (K + m + 1) (i : Int) = if (List.range' i m).all v = true then e else some false
  | 0, i, h => by
    rw [hL, if_neg (by omega)]
    simp
  | m + 1, i, h => by
    rw [hL, if_pos (by omega), if_pos (by omega), mono_le (hm i) (show K ≤ K + (m + 1) by omega) (hp i (by omega)), Option.bind_some, List.range'_succ, List.all_cons]
    cases hv : v i with
    | true =>
      rw [if_pos rfl, Bool.true_and, w64 (by omega) (by omega)]
      exact loop_all hn hL hm hp m (i + 1) (by omega)
    | false => rw [if_neg (by decide), Bool.false_and, if_neg (by decide)]
theorem loop_any {n : Nat} (hn : n ≤ 1000000000) {L p : Nat → Int → Option Bool}
    (hL : ∀ k i, L (k + 1) i = if i < (n : Int) then (if 0 ≤ i then ((p k i).bind fun t => if t = true then some true else L k (wrap64 (i + 1))) else none) else some false)
    (hm : ∀ i k, LeO (p k i) (p (k + 1) i)) {K : Nat} {v : Nat → Bool} (hp : ∀ j : Nat, j < n → p K (j : Int) = some (v j)) :
    ∀ (m i : Nat), i + m = n → L (K + m + 1) (i : Int) = some ((List.range' i m).any v)
  | 0, i, h => by
    rw [hL, if_neg (by omega)]
    simp
  | m + 1, i, h => by
    rw [hL, if_pos (by omega), if_pos (by omega), mono_le (hm i) (show K ≤ K + (m + 1) by omega) (hp i (by omega)), Option.bind_some, List.range'_succ, List.any_cons]
    cases hv : v i with
    | false =>
      rw [if_neg (by decide), Bool.false_or, w64 (by omega) (by omega)]
      exact loop_any hn hL hm hp m (i + 1) (by omega)
    | true => rw [if_pos rfl, Bool.true_or]
def idxN (v : Nat → Bool) : Nat → Nat → Int
  | 0, _ => -1
  | m + 1, i => if v i = true then (i : Int) else idxN v m (i + 1)
theorem loop_idx {n : Nat} (hn : n ≤ 1000000000) {L : Nat → Int → Option Int} {p : Nat → Int → Option Bool}
    (hL : ∀ k i, L (k + 1) i = if i < (n : Int) then (if 0 ≤ i then ((p k i).bind fun t => if t = true then some i else L k (wrap64 (i + 1))) else none) else some (-1))
    (hm : ∀ i k, LeO (p k i) (p (k + 1) i)) {K : Nat} {v : Nat → Bool} (hp : ∀ j : Nat, j < n → p K (j : Int) = some (v j)) :
    ∀ (m i : Nat), i + m = n → L (K + m + 1) (i : Int) = some (idxN v m i)
  | 0, i, h => by
    rw [hL, if_neg (by omega)]
    rfl
  | m + 1, i, h => by
    rw [hL, if_pos (by omega), if_pos (by omega), mono_le (hm i) (show K ≤ K + (m + 1) by omega) (hp i (by omega)), Option.bind_some, idxN]
    cases hv : v i with
    | false =>
      rw [if_neg (by decide), if_neg (by decide), w64 (by omega) (by omega)]
      exact loop_idx hn hL hm hp m (i + 1) (by omega)
    | true => rw [if_pos rfl, if_pos rfl]
/-- Finitely many, told each at some round, are told at one. -/
theorem gather {p : Nat → Int → Option Bool} (hm : ∀ i k, LeO (p k i) (p (k + 1) i)) {Q : Nat → Bool → Prop} : ∀ n : Nat, (∀ j : Nat, j < n → ∃ k b, p k (j : Int) = some b ∧ Q j b) → ∃ (K : Nat) (v : Nat → Bool), ∀ j : Nat, j < n → p K (j : Int) = some (v j) ∧ Q j (v j)
  | 0, _ => ⟨0, fun _ => false, fun j hj => absurd hj (Nat.not_lt_zero _)⟩
  | n + 1, h => by
    obtain ⟨K, v, hv⟩ := gather hm n (fun j hj => h j (by omega))
    obtain ⟨k, b, hb, hq⟩ := h n (by omega)
    refine ⟨max K k, fun j => if j = n then b else v j, fun j hj => ?_⟩
    by_cases e : j = n
    · subst e
      simp only [if_pos]
      exact ⟨mono_le (hm j) (Nat.le_max_right _ _) hb, hq⟩
    · simp only [if_neg e]
      exact ⟨mono_le (hm j) (Nat.le_max_left _ _) (hv j (by omega)).1, (hv j (by omega)).2⟩
theorem all_range {α : Type} (d : α) (v : α → Bool) (l : List α) : ((List.range' 0 l.length).all fun j => v (l.getD j d)) = l.all v := by
  rw [Bool.eq_iff_iff, List.all_eq_true, List.all_eq_true]
  constructor
  · intro h x hx
    obtain ⟨i, hi, rfl⟩ := List.getElem_of_mem hx
    have := h i (by simp [List.mem_range'_1, hi])
    simpa [List.getD_eq_getElem?_getD, List.getElem?_eq_getElem hi] using this
  · intro h j hj
    have hj' : j < l.length := by simpa [List.mem_range'_1] using hj
    have := h l[j] (List.getElem_mem hj')
    simpa [List.getD_eq_getElem?_getD, List.getElem?_eq_getElem hj'] using this
theorem any_range {α : Type} (d : α) (v : α → Bool) (l : List α) : ((List.range' 0 l.length).any fun j => v (l.getD j d)) = l.any v := by
  have h := all_range d (fun x => !v x) l
  rw [Bool.eq_iff_iff] at h ⊢
  rw [List.any_eq_true, List.any_eq_true]
  rw [List.all_eq_true, List.all_eq_true] at h
  constructor
  · intro ⟨j, hj, hv⟩
    refine Classical.byContradiction fun hn => ?_
    have := h.2 (fun x hx => by cases e : v x with | false => rfl | true => exact absurd ⟨x, hx, e⟩ hn) j hj
    rw [hv] at this; cases this
  · intro ⟨x, hx, hv⟩
    refine Classical.byContradiction fun hn => ?_
    have := h.1 (fun j hj => by cases e : v (l.getD j d) with | false => rfl | true => exact absurd ⟨j, hj, e⟩ hn) x hx
    rw [hv] at this; cases this
end Go.Proofs.Ytppmcbkcohiodaa.Loops
namespace Go.Proofs.Ytppmcbkcohiodaa.PMeanTells
open Go.RowKit Go.Proofs.YtppmcbkcohiodaaW.PrintWords Go.Proofs.YtppmcbkcohiodaaW.PrintLast Go.Proofs.YtppmcbkcohiodaaW.PrintMore
attribute [local go_sem] max2_int min2_int max_two min_two max_three min_three max_four min_four   -- for this text's walks alone
set_option linter.unusedVariables false
set_option linter.unusedSimpArgs false

/-! ### gatewardenref02_most: function 92 -/
def gatewardenref02_most.f  : Option (Int) := some 9007199254740992
set_option maxHeartbeats 8000000 in
set_option maxRecDepth 100000 in
theorem gatewardenref02_most.calls  (r : Int) (w : World) (h : gatewardenref02_most.f  = some r) :
  Calls Try.prog 92 #[] w fun e w' => e = .returned (.int .i64 r) ∧ Drawn0 w w' := by
 have H : (some 9007199254740992) = some r := h
 clear h
 obtain rfl := Option.some.inj H
 go_enter Try.func92, Try.ntmps92
 go_wp2
 go_ret
 exact ⟨by first | rfl | (simp; done) | (simp [*]; done), by repeat (first | exact Drawn0.refl _ | apply Drawn0.step)⟩


/-! ### gatewardenref02_Put: function 80 -/
mutual
def gatewardenref02_Put.j0 : Nat → Int → Bool → Option (ByteArray × Bool)
 | 0, _, _ => none
 | k + 1, x0, x11 => if x11 = true then (some ((⟨#[]⟩ : ByteArray), false)) else (gatewardenref02_Put.l0 k x0 (⟨#[]⟩ : ByteArray))
def gatewardenref02_Put.l0 : Nat → Int → ByteArray → Option (ByteArray × Bool)
 | 0, _, _ => none
 | k + 1, x0, x4 => (some (([(wrap64 (48 + (Int.tmod x0 10))) % 256] : List Int) : List Int)).bind fun y106 => (if (strOfNums y106).size + x4.size ≤ 9223372036854775807 then (if (wrap64 (Int.tdiv x0 10)) = 0 then (some ((strOfNums y106) ++ x4, true)) else (gatewardenref02_Put.l0 k (wrap64 (Int.tdiv x0 10)) ((strOfNums y106) ++ x4))) else (none))
end
def gatewardenref02_Put.f (k : Nat) (a0 : Int) : Option (ByteArray × Bool) := if a0 < 0 then (gatewardenref02_Put.j0 k a0 true) else ((gatewardenref02_most.f).bind fun t105 => (gatewardenref02_Put.j0 k a0 (decide (a0 > t105))))
theorem gatewardenref02_Put.mono_l : ∀ k, (∀ y0 y1, LeO (gatewardenref02_Put.j0 k y0 y1) (gatewardenref02_Put.j0 (k + 1) y0 y1)) ∧ (∀ y0 y1, LeO (gatewardenref02_Put.l0 k y0 y1) (gatewardenref02_Put.l0 (k + 1) y0 y1))
 | 0 => ⟨fun _ _ r h => by simp [gatewardenref02_Put.j0] at h, fun _ _ r h => by simp [gatewardenref02_Put.l0] at h⟩
 | k + 1 => by
  obtain ⟨ih0, ih1⟩ := gatewardenref02_Put.mono_l k
  refine ⟨?_, ?_⟩
  ·intro y0 y1
   unfold gatewardenref02_Put.j0
   repeat' first
   | (with_reducible exact ih0 _ _)
   | (with_reducible exact ih1 _ _)
   | (with_reducible exact LeO.refl _)
   | (with_reducible exact LeO.none _)
   | (with_reducible refine LeO.ite ?_ ?_)
   | (with_reducible refine LeO.bind ?_ (fun _ => ?_))
   | exact ih0 _ _
   | exact ih1 _ _
   | exact LeO.none _
   | refine LeO.ite ?_ ?_
   | refine LeO.bind ?_ (fun _ => ?_)
  ·intro y0 y1
   unfold gatewardenref02_Put.l0
   repeat' first
   | (with_reducible exact ih0 _ _)
   | (with_reducible exact ih1 _ _)
   | (with_reducible exact LeO.refl _)
   | (with_reducible exact LeO.none _)
   | (with_reducible refine LeO.ite ?_ ?_)
   | (with_reducible refine LeO.bind ?_ (fun _ => ?_))
   | exact ih0 _ _
   | exact ih1 _ _
   | exact LeO.none _
   | refine LeO.ite ?_ ?_
   | refine LeO.bind ?_ (fun _ => ?_)
theorem gatewardenref02_Put.mono : ∀ a0 k, LeO (gatewardenref02_Put.f k a0) (gatewardenref02_Put.f (k + 1) a0) := by
 intro a0 k
 obtain ⟨ih0, ih1⟩ := gatewardenref02_Put.mono_l k
 unfold gatewardenref02_Put.f
 repeat' first
   | (with_reducible exact ih0 _ _)
   | (with_reducible exact ih1 _ _)
   | (with_reducible exact LeO.refl _)
   | (with_reducible exact LeO.none _)
   | (with_reducible refine LeO.ite ?_ ?_)
   | (with_reducible refine LeO.bind ?_ (fun _ => ?_))
   | exact ih0 _ _
   | exact ih1 _ _
   | exact LeO.none _
   | refine LeO.ite ?_ ?_
   | refine LeO.bind ?_ (fun _ => ?_)
set_option maxHeartbeats 8000000 in
set_option maxRecDepth 100000 in
theorem gatewardenref02_Put.calls (k : Nat) (a0 : Int) (r1 : ByteArray) (r2 : Bool) (w : World) (h : gatewardenref02_Put.f k a0 = some (r1, r2)) :
  Calls Try.prog 80 #[.int .i64 a0] w fun e w' => e = .returned (.tuple #[.string r1, .bool r2]) ∧ Below w.heap.size w w' := by
 have HB := Aside0.mk (Below.refl w.heap.size w)
 have H : (if a0 < 0 then (gatewardenref02_Put.j0 k a0 true) else ((gatewardenref02_most.f).bind fun t105 => (gatewardenref02_Put.j0 k a0 (decide (a0 > t105))))) = some (r1, r2) := h
 clear h
 have HC2 := Aside0.mk H
 clear H
 go_enter Try.func80, Try.ntmps80
 go_upto_region 1 with (fail)
 go_cut [11] (fun v11 wc => ∃ (kq : Nat) (x11_1 : Bool), v11 = .bool x11_1 ∧ Aside0 (gatewardenref02_Put.j0 kq a0 x11_1 = some (r1, r2)) ∧ Aside0 (kq ≤ k) ∧ Aside0 (Below w.heap.size w wc))
 case first =>
  have H := HC2.out
  clear HC2
  by_cases c3 : a0 < 0
  ·rw [if_pos c3] at H
   have c3b0 : decide (a0 < 0) = true := decide_eq_true c3
   clear c3
   (first | rw [c3b0] | (simp only [i64_w, i32_w]; rw [c3b0]) | skip)
   have H' := Aside0.mk H
   clear H
   go_wp2
   go_meet
   case rel => exact ⟨_, (true), (by first | rfl | (simp; done) | (simp [*]; done)), H', ⟨by first | omega | exact Nat.le_refl _⟩, ⟨by repeat (first | (with_reducible first | exact HB.out | apply below_alloc | apply pw_below_drewN | apply below_drew1) | exact HB.out)⟩⟩
  ·rw [if_neg c3] at H
   have c3b0 : decide (a0 < 0) = false := decide_eq_false c3
   clear c3
   (first | rw [c3b0] | (simp only [i64_w, i32_w]; rw [c3b0]) | skip)
   replace H := Option.bind_eq_some_iff.mp H
   obtain ⟨t105, A40, H⟩ := H
   replace H : (gatewardenref02_Put.j0 k a0 (decide (a0 > t105))) = some (r1, r2) := H
   have A4 := Aside0.mk A40
   clear A40
   have H' := Aside0.mk H
   clear H
   go_wp2_with (first | (go_at_call 92; (with_reducible refine (gatewardenref02_most.calls  t105 _ A4.out).mono ?_); rintro e w' ⟨rfl, ⟨nd, rfl⟩⟩))
   go_meet
   case rel => exact ⟨_, (decide (a0 > t105)), (by first | rfl | (simp; done) | (simp [*]; done)), H', ⟨by first | omega | exact Nat.le_refl _⟩, ⟨by repeat (first | (with_reducible first | exact HB.out | apply below_alloc | apply pw_below_drewN | apply below_drew1) | exact HB.out)⟩⟩
 case rest =>
  clear HC2
  try clear p2
  try clear c3
  try clear c3b0
  obtain ⟨kq, x11_1, rfl, HA, HJ1, HB⟩ := hcut
  cases kq with
  | zero => exact absurd HA.out (by simp [gatewardenref02_Put.j0])
  | succ kj1 =>
   have H := HA.out
   clear HA
   simp only [gatewardenref02_Put.j0] at H
   by_cases c5 : x11_1 = true
   ·subst c5
    have H1 : (some ((⟨#[]⟩ : ByteArray), false)) = some (r1, r2) := by rw [if_pos rfl] at H; exact H
    clear H
    have H := H1
    clear H1
    simp only [Option.some.injEq, Prod.mk.injEq] at H
    obtain ⟨rfl, rfl⟩ := H
    go_wp2
    go_ret2
    exact ⟨by first | rfl | (simp [errW_none, errW_some] <;> rfl) | (simp [*, errW_none, errW_some] <;> rfl), by repeat (first | (with_reducible first | exact HB.out | apply below_alloc | apply pw_below_drewN | apply below_drew1) | exact HB.out)⟩
   ·replace c5 := Bool.eq_false_iff.mpr c5
    subst c5
    have H1 : (gatewardenref02_Put.l0 kj1 a0 (⟨#[]⟩ : ByteArray)) = some (r1, r2) := by rw [if_neg (show ¬ (false = true) by decide)] at H; exact H
    clear H
    have H := H1
    clear H1
    have H' := Aside0.mk H
    clear H
    go_wp2
    go_loopg [0, 4] kj1 (fun kq v0 v4 w' => ∃ (x0_2 : Int) (x4_2 : ByteArray), v0 = .int .i64 x0_2 ∧ v4 = .string x4_2 ∧ Aside0 (gatewardenref02_Put.l0 kq x0_2 x4_2 = some (r1, r2)) ∧ Aside0 (kq ≤ kj1) ∧ Aside0 (Below w.heap.size w w'))
    case atStart => exact ⟨(a0), ((⟨#[]⟩ : ByteArray)), (by first | rfl | (simp; done) | (simp [*]; done)), (by first | rfl | (simp; done) | (simp [*]; done)), H', ⟨Nat.le_refl _⟩, ⟨by repeat (first | (with_reducible first | exact HB.out | apply below_alloc | apply pw_below_drewN | apply below_drew1) | exact HB.out)⟩⟩
    case round =>
     clear H'
     try clear p2
     try clear c3
     try clear c3b0
     try clear c5
     try clear p2
     obtain ⟨x0_2, x4_2, rfl, rfl, HA, HK2, HB⟩ := hrel
     cases gk with
     | zero => exact absurd HA.out (by simp [gatewardenref02_Put.l0])
     | succ k2 =>
      have H := HA.out
      clear HA
      simp only [gatewardenref02_Put.l0] at H
      obtain ⟨y106, hy106⟩ : ∃ y_ : List Int, y_ = (([(wrap64 (48 + (Int.tmod x0_2 10))) % 256] : List Int)) := ⟨_, rfl⟩
      replace H : (if (strOfNums y106).size + x4_2.size ≤ 9223372036854775807 then (if (wrap64 (Int.tdiv x0_2 10)) = 0 then (some ((strOfNums y106) ++ x4_2, true)) else (gatewardenref02_Put.l0 k2 (wrap64 (Int.tdiv x0_2 10)) ((strOfNums y106) ++ x4_2))) else (none)) = some (r1, r2) := by first | (rw [hy106]; with_reducible exact H) | (have H2_ := (Option.bind_some _ _).symm.trans H; rw [hy106]; with_reducible exact H2_) | (have H2_ := (Option.bind_some _ _).symm.trans H; with_reducible exact H2_) | with_reducible exact H | (rw [hy106]; exact H) | exact H
      have Ny106 := Aside0.mk hy106
      clear hy106
      by_cases c6 : (strOfNums y106).size + x4_2.size ≤ 9223372036854775807
      ·rw [if_pos c6] at H
       have c6b0 := eq_true c6
       have c6b1 : decide ((strOfNums y106).size + x4_2.size ≤ 9223372036854775807) = true := decide_eq_true c6
       try have c6b2 : (9223372036854775807 < (strOfNums y106).size + x4_2.size) = False := eq_false (Nat.not_lt.2 c6)
       by_cases c7 : (wrap64 (Int.tdiv x0_2 10)) = 0
       ·rw [if_pos c7] at H
        have c7b0 : ((wrap64 (Int.tdiv x0_2 10)) == 0) = true := beq_iff_eq.mpr c7
        have c7b1 : ((wrap64 (Int.tdiv x0_2 10)) != 0) = false := bne_eq_false_iff_eq.mpr c7
        clear c7
        simp only [Option.some.injEq, Prod.mk.injEq] at H
        obtain ⟨rfl, rfl⟩ := H
        go_wp2_with (first | ((with_reducible refine gate_dst (N := 16) rfl ?_); refine Kd.R_lit (Kd.int .u8) _ 5 ?hg (N := 16) ?hd (xs := ([(wrap64 (48 + (Int.tmod x0_2 10))) % 256] : List Int)) (inner := [.int .u8 ((wrap64 (48 + (Int.tmod x0_2 10))) % 256)]) (ok := fun _ => True) (okp := fun _ => True) ?hr ?hp (fun _ hk => hk) trivial (Below.refl _ _) (Nat.le_refl _) (by simp) ?_; (case hd => rfl); (case hg => rfl); (case hr => first | (go_simp; done) | (go_simp; rfl)); (case hp => exact (Reps.one (show Kd.M (Kd.int .u8) _ _ _ ((wrap64 (48 + (Int.tmod x0_2 10))) % 256) [.int .u8 ((wrap64 (48 + (Int.tmod x0_2 10))) % 256)] from rfl) (Reps.none _ _))); intro v107 w8 ho9 hb hg_ hnew_; clear hg_ hnew_; (first | rw [← Ny106.out] at ho9 | (simp only [Int.reduceToNat] at ho9; rw [← Ny106.out] at ho9)); have n0_ := Aside0.mk (Kd.R_lower ho9 (below_size (by repeat (first | (with_reducible first | exact HB.out | apply below_alloc | apply pw_below_drewN | apply below_drew1) | exact HB.out)))); have n1_ := Aside0.mk (below_step (by repeat (first | (with_reducible first | exact HB.out | apply below_alloc | apply pw_below_drewN | apply below_drew1) | exact HB.out)) hb); clear HB; have HO108 := n0_; have HB := n1_; clear n0_ n1_; clear hb ho9; have hcv10 := own_string (P := Try.prog) Try.underlying109 Try.underlying5 Try.underlying9 (Kd.own_of_R HO108.out)))
        go_ret2
        exact ⟨by first | rfl | (simp [errW_none, errW_some] <;> rfl) | (simp [*, errW_none, errW_some] <;> rfl), by repeat (first | (with_reducible first | exact HB.out | apply below_alloc | apply pw_below_drewN | apply below_drew1) | exact HB.out)⟩
       ·rw [if_neg c7] at H
        have c7b0 : ((wrap64 (Int.tdiv x0_2 10)) == 0) = false := beq_eq_false_iff_ne.mpr c7
        have c7b1 : ((wrap64 (Int.tdiv x0_2 10)) != 0) = true := bne_iff_ne.mpr c7
        have H' := Aside0.mk H
        clear H
        go_wp2_with (first | ((with_reducible refine gate_dst (N := 16) rfl ?_); refine Kd.R_lit (Kd.int .u8) _ 5 ?hg (N := 16) ?hd (xs := ([(wrap64 (48 + (Int.tmod x0_2 10))) % 256] : List Int)) (inner := [.int .u8 ((wrap64 (48 + (Int.tmod x0_2 10))) % 256)]) (ok := fun _ => True) (okp := fun _ => True) ?hr ?hp (fun _ hk => hk) trivial (Below.refl _ _) (Nat.le_refl _) (by simp) ?_; (case hd => rfl); (case hg => rfl); (case hr => first | (go_simp; done) | (go_simp; rfl)); (case hp => exact (Reps.one (show Kd.M (Kd.int .u8) _ _ _ ((wrap64 (48 + (Int.tmod x0_2 10))) % 256) [.int .u8 ((wrap64 (48 + (Int.tmod x0_2 10))) % 256)] from rfl) (Reps.none _ _))); intro v107 w11 ho12 hb hg_ hnew_; clear hg_ hnew_; (first | rw [← Ny106.out] at ho12 | (simp only [Int.reduceToNat] at ho12; rw [← Ny106.out] at ho12)); have n0_ := Aside0.mk (Kd.R_lower ho12 (below_size (by repeat (first | (with_reducible first | exact HB.out | apply below_alloc | apply pw_below_drewN | apply below_drew1) | exact HB.out)))); have n1_ := Aside0.mk (below_step (by repeat (first | (with_reducible first | exact HB.out | apply below_alloc | apply pw_below_drewN | apply below_drew1) | exact HB.out)) hb); clear HB; have HO108 := n0_; have HB := n1_; clear n0_ n1_; clear hb ho12; have hcv13 := own_string (P := Try.prog) Try.underlying109 Try.underlying5 Try.underlying9 (Kd.own_of_R HO108.out)))
        go_roundg k2
        case measure => have := HJ1.out; have := HK2.out; omega
        case rel => exact ⟨(wrap64 (Int.tdiv x0_2 10)), ((strOfNums y106) ++ x4_2), (by first | rfl | (simp; done) | (simp [*]; done)), (by first | rfl | (simp; done) | (simp [*]; done)), H', ⟨by have := HJ1.out; have := HK2.out; omega⟩, ⟨by repeat (first | (with_reducible first | exact HB.out | apply below_alloc | apply pw_below_drewN | apply below_drew1) | exact HB.out)⟩⟩
      ·rw [if_neg c6] at H
       exact absurd H (by simp)

-- NOT PRINTED: function 67 (gatewardenref03_Text)

-- NOT PRINTED: function 45 (gatewardenref11_bound)
end Go.Proofs.Ytppmcbkcohiodaa.PMeanTells
namespace Go.Proofs.Ytppmcbkcohiodaa.PMeanTells
open Go Go.RowKit Go.Proofs.YtppmcbkcohiodaaW.PrintWords Go.Proofs.YtppmcbkcohiodaaW.PrintLast Go.Proofs.YtppmcbkcohiodaaW.PrintMore
set_option linter.unusedVariables false
set_option linter.unusedSimpArgs false
open Go.Lib (decDigits nDigits)
theorem dec_small {u : Nat} (h : u < 10) : decDigits u = [UInt8.ofNat (48 + u)] := by rw [decDigits, dif_pos h]
theorem dec_big {u : Nat} (h : ¬ u < 10) : decDigits u = decDigits (u / 10) ++ [UInt8.ofNat (48 + u % 10)] := by conv => lhs; rw [decDigits, dif_neg h]
theorem ofNat_toNat {k : Nat} (h : k < 10) : (UInt8.ofNat (48 + k)).toNat = 48 + k := by
  rw [UInt8.toNat_ofNat']; omega
theorem dec_ne (n : Nat) : decDigits n ≠ [] := by
  intro h4
  have h5 := congrArg List.length h4
  rw [Go.Lib.decDigits_length] at h5
  rw [nDigits] at h5
  split at h5 <;> simp at h5
theorem nDigits_le (k : Nat) : ∀ n : Nat, n < 10 ^ (k + 1) → nDigits n ≤ k + 1 := by
  induction k with
  | zero => intro n hn; rw [nDigits, dif_pos (by omega)]; omega
  | succ k ih =>
    intro n hn
    rw [nDigits]
    split
    · omega
    · have := ih (n / 10) (by rw [Nat.pow_succ] at hn; omega)
      omega
theorem nDigits_mono (a : Nat) : ∀ b, a ≤ b → nDigits a ≤ nDigits b := by
  induction a using Nat.strongRecOn with
  | ind a ih =>
    intro b hab
    by_cases hb : b < 10
    · rw [nDigits, dif_pos (by omega), nDigits, dif_pos hb]; omega
    · by_cases ha : a < 10
      · rw [nDigits, dif_pos ha, nDigits, dif_neg hb]; omega
      · have := ih (a / 10) (by omega) (b / 10) (by omega)
        rw [nDigits, dif_neg ha]
        conv => rhs; rw [nDigits, dif_neg hb]
        omega
theorem bt_nat {s : ByteArray} {i : Nat} (h : i < s.data.toList.length) : bt s (i : Int) = ((s.data.toList[i]).toNat : Int) := by
  have h2 : ((i : Int)).toNat < s.size := by rw [Int.toNat_natCast]; rw [Array.length_toList] at h; exact h
  unfold bt
  rw [dif_pos h2]
  rfl
theorem w64 {n : Int} (h0 : -9223372036854775808 ≤ n) (h1 : n ≤ 9223372036854775807) : wrap64 n = n := by unfold wrap64; omega
end Go.Proofs.Ytppmcbkcohiodaa.PMeanTells
namespace Go.Proofs.Ytppmcbkcohiodaa.PMeanTells
open Go Go.RowKit Go.Proofs.YtppmcbkcohiodaaW.PrintWords Go.Proofs.YtppmcbkcohiodaaW.PrintLast Go.Proofs.YtppmcbkcohiodaaW.PrintMore
set_option linter.unusedVariables false
set_option linter.unusedSimpArgs false
open Go.Lib (decDigits nDigits)
theorem size_list (s : ByteArray) : s.size = s.data.toList.length := by rw [Array.length_toList]; rfl
theorem ext_list {s t : ByteArray} (h : s.data.toList = t.data.toList) : s = t := by
  cases s; cases t
  simp only at h
  rw [Array.toList_inj.1 h]
theorem app_list (s t : ByteArray) : (s ++ t).data.toList = s.data.toList ++ t.data.toList := by
  rw [ByteArray.data_append, Array.toList_append]
theorem one_digit (n : Nat) : (strOfNums ([(wrap64 (48 + (Int.tmod (n : Int) 10))) % 256] : List Int)).data.toList = [UInt8.ofNat (48 + n % 10)] := by
  have e : ((wrap64 (48 + (Int.tmod (n : Int) 10))) % 256).toNat = 48 + n % 10 := by
    rw [Int.tmod_eq_emod_of_nonneg (by omega), w64 (by omega) (by omega)]; omega
  unfold strOfNums
  simp only [List.map_cons, List.map_nil, e]
theorem refPut_loop (n : Nat) : ∀ (k : Nat) (t : ByteArray), (n : Int) ≤ (9007199254740992 : Int) → t.data.toList.length + nDigits n ≤ 1000 → nDigits n ≤ k →
    ∃ r : ByteArray, gatewardenref02_Put.l0 k (n : Int) t = some (r, true) ∧ r.data.toList = decDigits n ++ t.data.toList := by
  induction n using Nat.strongRecOn with
  | ind n ih =>
    intro k t hn ht hk
    have h1 : 1 ≤ nDigits n := by rw [nDigits]; split <;> omega
    obtain ⟨k, rfl⟩ : ∃ m, k = m + 1 := ⟨k - 1, by omega⟩
    have hd : wrap64 (Int.tdiv (n : Int) 10) = ((n / 10 : Nat) : Int) := by
      rw [Int.tdiv_eq_ediv_of_nonneg (by omega), w64 (by omega) (by omega)]; omega
    have ho := one_digit n
    simp only [gatewardenref02_Put.l0, Option.bind_some, hd]
    generalize strOfNums ([(wrap64 (48 + (Int.tmod (n : Int) 10))) % 256] : List Int) = d at ho ⊢
    rw [if_pos (by rw [size_list, size_list, ho]; simp only [List.length_singleton]; omega)]
    have hdt := app_list d t
    rw [ho, List.singleton_append] at hdt
    by_cases h : n < 10
    · rw [if_pos (by omega)]
      refine ⟨_, rfl, ?_⟩
      rw [hdt, dec_small h, List.singleton_append, Nat.mod_eq_of_lt h]
    · rw [if_neg (by omega)]
      have hnd : nDigits n = nDigits (n / 10) + 1 := by conv => lhs; rw [nDigits, dif_neg h]
      obtain ⟨r, e, hr⟩ := ih (n / 10) (by omega) k (d ++ t) (by omega) (by rw [hdt, List.length_cons]; omega) (by omega)
      refine ⟨r, e, ?_⟩
      rw [hr, hdt, dec_big h, List.append_assoc, List.singleton_append]
theorem nDigits_M {n : Nat} (h : (n : Int) ≤ (9007199254740992 : Int)) : nDigits n ≤ 16 := nDigits_le 15 n (by have : (10 : Nat) ^ (15 + 1) = 10000000000000000 := rfl; omega)
def strOf (l : List UInt8) : ByteArray := ⟨l.toArray⟩
theorem strOf_list (l : List UInt8) : (strOf l).data.toList = l := by simp [strOf]
theorem refPut_eq (n : Int) (k : Nat) (hk : 20 ≤ k) : gatewardenref02_Put.f k n = some (if n < 0 ∨ (9007199254740992 : Int) < n then (⟨#[]⟩, false) else (strOf (decDigits n.toNat), true)) := by
  obtain ⟨k, rfl⟩ : ∃ m, k = m + 1 := ⟨k - 1, by omega⟩
  unfold gatewardenref02_Put.f gatewardenref02_most.f
  simp only [Option.bind_some, gatewardenref02_Put.j0]
  by_cases h0 : n < 0
  · rw [if_pos h0, if_pos trivial, if_pos (Or.inl h0)]
  · rw [if_neg h0]
    by_cases h1 : (9007199254740992 : Int) < n
    · rw [if_pos (decide_eq_true h1), if_pos (Or.inr h1)]
    · rw [if_neg (by simp only [decide_eq_true_eq]; exact h1), if_neg (by omega)]
      obtain ⟨m, rfl⟩ : ∃ m : Nat, n = (m : Int) := ⟨n.toNat, by omega⟩
      have hm := nDigits_M (n := m) (by omega)
      obtain ⟨r, e, hr⟩ := refPut_loop m k ⟨#[]⟩ (by omega) (by simp only [List.length_nil]; omega) (by omega)
      rw [e]
      have : r = strOf (decDigits ((m : Int)).toNat) := ext_list (by rw [hr, strOf_list, Int.toNat_natCast]; simp)
      rw [this]
end Go.Proofs.Ytppmcbkcohiodaa.PMeanTells
