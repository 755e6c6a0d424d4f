/- Texts of this claim, put together (wip/pack.py): FactsAwake, PFactsTellsx8. -/
import Derived.Test.YtcoaehhoiaijoaaK9
import Derived.Test.YtcoaehhoiaijoaaK12
import Derived.Test.YtcoaehhoiaijoaaK16
import Derived.Test.YtcoaehhoiaijoaaK10
namespace Go.Proofs.Ytcoaehhoiaijoaa.Range
open Go Go.RowKit Go.Proofs.YtcoaehhoiaijoaaW.PrintWords Go.Proofs.Ytcoaehhoiaijoaa.Fl Go.Proofs.Ytcoaehhoiaijoaa.Base Go.Proofs.Ytcoaehhoiaijoaa.Dbl Go.Proofs.Ytcoaehhoiaijoaa.PFactsTells
attribute [-go_sem] binOp_float_cmp_eql binOp_float_cmp_neq binOp_float_cmp_lss binOp_float_cmp_leq binOp_float_cmp_gtr binOp_float_cmp_geq
attribute [local go_sem] f_eql f_neq f_lss f_leq
set_option maxHeartbeats 8000000
set_option maxRecDepth 100000
set_option linter.unusedVariables false
theorem lit_C (W : World) (xs : List Int) (hm : xs.length ≤ 1000) : Kd.C (Kd.int .i64) (W.alloc (.cells (nums .i64 xs).toArray 3)) (some ⟨W.heap.size, 0, none⟩) xs.length xs := by
  obtain ⟨A, c, e, _, h⟩ := Kd.R_reads (slices_Clone_int_int.litR W xs 3 hm)
  cases e
  exact h
theorem lit_C' (W : World) (b : Nat) (hb : b = W.heap.size) (xs : List Int) (hm : xs.length ≤ 1000) : Kd.C (Kd.int .i64) (W.alloc (.cells (nums .i64 xs).toArray 3)) (some ⟨b, 0, none⟩) xs.length xs := by
  subst hb; exact lit_C W xs hm
theorem of_awake : facts_Of.f 1 2 16 0 0 10 2 [5, 6] = some (1, 2, 16, [⟨10, 11⟩], [5, 6], [5, 6]) := by
  simp [facts_Of.f, slices_Clone_int_int.f, facts_stretch.f, wrap64]
theorem vals_length (l : List Int) (k : Nat) : (vals l k).length = k := by simp [vals]
theorem reals_row {w : World} {n0 : Nat} {v : Value} {l : List Int} {m : Nat} (h : w.ownsRow n0 37 1 v m (fls (vals l m))) : ∃ A c, v = .slice A m c ∧ Kd.C kf w A m (vals l m) := by
  have e : w.ownsRow n0 37 1 v (vals l m).length (encs (Value.float .f64) (vals l m)) := by rw [vals_length]; exact h
  obtain ⟨A, c, e1, _, e2⟩ := Kd.R_reads (Kd.R_of_own (h1 := fun _ => rfl) (ok := fun _ => True) e (fun _ _ => trivial))
  rw [vals_length] at e1 e2
  exact ⟨A, c, e1, e2⟩
theorem one_real : realsB [16368, 0, 0, 0] ∧ vals [16368, 0, 0, 0] 1 = [4607182418800017408] := by
  have h : ofF [16368, 0, 0, 0] = (4607182418800017408, true) := ofF_in (by unfold In; omega) (by unfold In; omega) (by unfold In; omega) (by unfold In; omega)
  refine ⟨⟨rfl, fun j hj => ?_⟩, ?_⟩
  · obtain rfl : j = 0 := by simp at hj; omega
    show (ofF [16368, 0, 0, 0]).2 = true
    rw [h]
  · show [(ofF [16368, 0, 0, 0]).1] = _
    rw [h]
theorem awake14 (w : World) : Calls Try.prog 37 #[] w fun e w' => e = .returned (.bool true) ∧ Below w.heap.size w w' := by
  go_enter Try.func37, Try.ntmps37
  go_wp2_with fail
  refine (facts_Of.calls 1 2 16 0 0 10 2 (some ⟨w.heap.size, 0, none⟩) 2 [5, 6] 1 2 16 [⟨10, 11⟩] [5, 6] [5, 6] _ (lit_C w [5, 6] (by decide)) (by decide) of_awake).mono ?_
  rintro e w1 ⟨v3, v4, v5, rfl, h3, h4, h5, hb⟩
  obtain ⟨A3, c3, rfl, _, q3⟩ := Kd.R_reads h3
  obtain ⟨A4, c4, rfl, _, q4⟩ := Kd.R_reads h4
  obtain ⟨A5, c5, rfl, _, q5⟩ := Kd.R_reads h5
  have C3 := Aside0.mk q3
  have D1 := Aside0.mk (below_step (below_alloc (Below.refl _ w) (.cells #[.int .i64 5, .int .i64 6] 3)) hb)
  clear h3 h4 h5 hb q3 q4 q5
  go_wp2_with fail
  refine (reals_calls (some ⟨w1.heap.size + 1, 0, none⟩) 4 [16368, 0, 0, 0] _ (lit_C' (w1.alloc (.cells #[.int .i64 1, .int .i64 2, .int .i64 16, .slice A3 1 c3, .slice A4 2 c4, .slice A5 2 c5] 51)) _ (by simp) [16368, 0, 0, 0] (by decide)) (by decide) (by decide)).mono ?_
  rintro e w2 ⟨h | h, hb⟩
  · obtain ⟨_, v, rfl, hrow⟩ := h
    obtain ⟨A6, c6, rfl, q6⟩ := reals_row (l := [16368, 0, 0, 0]) (m := 1) hrow
    rw [one_real.2] at q6
    obtain ⟨ad6, rfl, x6⟩ := at_f q6 0 (by decide) (by decide)
    have x6 : w2.cell? ad6 = some (.float .f64 4607182418800017408) := x6
    have D2 := Aside0.mk (below_step (below_alloc (below_alloc (Below.refl _ w1) (.cells #[.int .i64 1, .int .i64 2, .int .i64 16, .slice A3 1 c3, .slice A4 2 c4, .slice A5 2 c5] 51)) (.cells #[.int .i64 16368, .int .i64 0, .int .i64 0, .int .i64 0] 3)) hb)
    have K2 := Aside0.mk (blk_below (blk_alloc (blk_new w1 (.cells #[.int .i64 1, .int .i64 2, .int .i64 16, .slice A3 1 c3, .slice A4 2 c4, .slice A5 2 c5] 51)) (.cells #[.int .i64 16368, .int .i64 0, .int .i64 0, .int .i64 0] 3)) hb)
    obtain ⟨ad3, rfl, y0, y1⟩ := at_T74 (Kd.C_below C3.out D2.out) 0 (by decide) (by decide)
    have y0 : w2.cell? ad3 = some (.int .i64 10) := y0
    have y1 : w2.cell? ⟨ad3.block, ad3.off + 1, none⟩ = some (.int .i64 11) := y1
    have hq : eqF 4607182418800017408 4607182418800017408 = true := by decide
    clear hrow q6 hb
    have k0 : w2.cell? ⟨w1.heap.size, 0, none⟩ = some (.int .i64 1) := blk_cell K2.out 0
    have k1 : w2.cell? ⟨w1.heap.size, 1, none⟩ = some (.int .i64 2) := blk_cell K2.out 1
    have k2 : w2.cell? ⟨w1.heap.size, 2, none⟩ = some (.int .i64 16) := blk_cell K2.out 2
    have k3 : w2.cell? ⟨w1.heap.size, 3, none⟩ = some (.slice (some ad3) 1 c3) := blk_cell K2.out 3
    have k4 : w2.cell? ⟨w1.heap.size, 4, none⟩ = some (.slice A4 2 c4) := blk_cell K2.out 4
    have k5 : w2.cell? ⟨w1.heap.size, 5, none⟩ = some (.slice A5 2 c5) := blk_cell K2.out 5
    go_wp2_with fail
    go_ret
    exact ⟨rfl, below_step D1.out D2.out⟩
  · exact absurd one_real.1 h.1
end Go.Proofs.Ytcoaehhoiaijoaa.Range
namespace Go.Proofs.Ytcoaehhoiaijoaa.PFactsTells
open Go.RowKit Go.Proofs.YtcoaehhoiaijoaaW.PrintWords Go.Proofs.YtcoaehhoiaijoaaW.PrintLast Go.Proofs.YtcoaehhoiaijoaaW.PrintMore
attribute [local go_sem] max2_int min2_int max_two min_two max_three min_three max_four min_four   -- for this text's walks alone
set_option linter.unusedVariables false
set_option linter.unusedSimpArgs false

-- NOT PRINTED: function 50 (math_Float64frombits)

-- NOT PRINTED: function 30 (real_Of)

-- NOT PRINTED: function 58 (facts_fours)

-- NOT PRINTED: function 40 (facts_Reals)

-- NOT PRINTED: function 37 (gatewardenlaw14_awake)

/-! ### gatewardenref04_Has: function 39 -/
def gatewardenref04_Has.l0 : Nat → List (S74) → Int → Int → Option (Bool)
 | 0, _, _, _ => none
 | k + 1, x0, x1, x5 => if x5 < (x0.length : Int) then (if 0 ≤ x5 then (if ((rd_T74 x0 x5).f0) ≤ x1 then (if x1 ≤ ((rd_T74 x0 x5).f1) then (some true) else (gatewardenref04_Has.l0 k x0 x1 (wrap64 (x5 + 1)))) else (gatewardenref04_Has.l0 k x0 x1 (wrap64 (x5 + 1)))) else (none)) else (some false)
def gatewardenref04_Has.f (k : Nat) (l0 : List (S74)) (a1 : Int) : Option (Bool) := gatewardenref04_Has.l0 k l0 a1 0
theorem gatewardenref04_Has.mono_l : ∀ k, (∀ y0 y1 y2, LeO (gatewardenref04_Has.l0 k y0 y1 y2) (gatewardenref04_Has.l0 (k + 1) y0 y1 y2))
 | 0 => fun _ _ _ r h => by simp [gatewardenref04_Has.l0] at h
 | k + 1 => by
  have ih0 := gatewardenref04_Has.mono_l k
  ·intro y0 y1 y2
   unfold gatewardenref04_Has.l0
   repeat' first
   | (with_reducible exact ih0 _ _ _)
   | (with_reducible exact LeO.refl _)
   | (with_reducible exact LeO.none _)
   | (with_reducible refine LeO.ite ?_ ?_)
   | (with_reducible refine LeO.bind ?_ (fun _ => ?_))
   | exact ih0 _ _ _
   | exact LeO.none _
   | refine LeO.ite ?_ ?_
   | refine LeO.bind ?_ (fun _ => ?_)
theorem gatewardenref04_Has.mono : ∀ a0 a1 k, LeO (gatewardenref04_Has.f k a0 a1) (gatewardenref04_Has.f (k + 1) a0 a1) := by
 intro a0 a1 k
 have ih0 := gatewardenref04_Has.mono_l k
 unfold gatewardenref04_Has.f
 repeat' first
   | (with_reducible exact ih0 _ _ _)
   | (with_reducible exact LeO.refl _)
   | (with_reducible exact LeO.none _)
   | (with_reducible refine LeO.ite ?_ ?_)
   | (with_reducible refine LeO.bind ?_ (fun _ => ?_))
   | exact ih0 _ _ _
   | exact LeO.none _
   | refine LeO.ite ?_ ?_
   | refine LeO.bind ?_ (fun _ => ?_)
set_option maxHeartbeats 8000000 in
set_option maxRecDepth 100000 in
theorem gatewardenref04_Has.calls (k : Nat) (A0 : Option Addr) (c0 : Nat) (l0 : List (S74)) (a1 : Int) (r : Bool) (w : World) (hr0 : Kd.C k74 w A0 l0.length l0) (hc0 : l0.length ≤ c0) (h : gatewardenref04_Has.f k l0 a1 = some r) :
  Calls Try.prog 39 #[.slice A0 l0.length c0, .int .i64 a1] w fun e w' => e = .returned (.bool r) ∧ Drawn0 w w' := by
 have HR0 := Aside0.mk hr0
 have HC0 := Aside0.mk hc0
 clear hr0 hc0
 have H : (gatewardenref04_Has.l0 k l0 a1 0) = some r := h
 clear h
 have H' := Aside0.mk H
 clear H
 go_enter Try.func39, Try.ntmps39
 go_wp2
 go_loopg [5] k (fun kq v5 w' => ∃ (x5_1 : Int), v5 = .int .i64 x5_1 ∧ Aside0 (gatewardenref04_Has.l0 kq l0 a1 x5_1 = some r) ∧ Aside0 (kq ≤ k) ∧ Drawn0 w w')
 case atStart => exact ⟨(0), (by first | rfl | (simp; done) | (simp [*]; done)), H', ⟨Nat.le_refl _⟩, by repeat (first | exact Drawn0.refl _ | apply Drawn0.step)⟩
 case round =>
  clear H'
  try clear p2
  obtain ⟨x5_1, rfl, HA, HK1, ⟨m1, rfl⟩⟩ := hrel
  cases gk with
  | zero => exact absurd HA.out (by simp [gatewardenref04_Has.l0])
  | succ k1 =>
   have H := HA.out
   clear HA
   simp only [gatewardenref04_Has.l0] at H
   by_cases c3 : x5_1 < (l0.length : Int)
   ·rw [if_pos c3] at H
    have c3b0 : decide (x5_1 < (l0.length : Int)) = true := decide_eq_true c3
    clear c3
    by_cases c4 : 0 ≤ x5_1
    ·rw [if_pos c4] at H
     have c4b0 : decide (0 ≤ x5_1) = true := decide_eq_true c4
     clear c4
     by_cases c5 : ((rd_T74 l0 x5_1).f0) ≤ a1
     ·rw [if_pos c5] at H
      have c5b0 : decide (((rd_T74 l0 x5_1).f0) ≤ a1) = true := decide_eq_true c5
      clear c5
      by_cases c6 : a1 ≤ ((rd_T74 l0 x5_1).f1)
      ·rw [if_pos c6] at H
       have c6b0 : decide (a1 ≤ ((rd_T74 l0 x5_1).f1)) = true := decide_eq_true c6
       clear c6
       obtain rfl := Option.some.inj H
       have p156 : 0 ≤ (x5_1 : Int) := of_decide_eq_true (by first | (with_reducible assumption) | assumption)
       have q156 : x5_1 < (l0.length : Int) := of_decide_eq_true (by first | (with_reducible assumption) | assumption)
       obtain ⟨ad156, e156, hx156_0, hx156_1⟩ := at_T74 HR0.out x5_1 p156 q156
       cases e156
       replace p156 := eq_true p156
       replace q156 := eq_true q156
       have p157 : 0 ≤ (x5_1 : Int) := of_decide_eq_true (by first | (with_reducible assumption) | assumption)
       have q157 : x5_1 < (l0.length : Int) := of_decide_eq_true (by first | (with_reducible assumption) | assumption)
       obtain ⟨ad157, e157, hx157_0, hx157_1⟩ := at_T74 HR0.out x5_1 p157 q157
       obtain rfl : ad156 = ad157 := (by injection e157)
       replace p157 := eq_true p157
       replace q157 := eq_true q157
       go_wp2
       go_ret
       exact ⟨by first | rfl | (simp; done) | (simp [*]; done), by repeat (first | exact Drawn0.refl _ | apply Drawn0.step)⟩
      ·rw [if_neg c6] at H
       have c6b0 : decide (a1 ≤ ((rd_T74 l0 x5_1).f1)) = false := decide_eq_false c6
       clear c6
       have H' := Aside0.mk H
       clear H
       have p156 : 0 ≤ (x5_1 : Int) := of_decide_eq_true (by first | (with_reducible assumption) | assumption)
       have q156 : x5_1 < (l0.length : Int) := of_decide_eq_true (by first | (with_reducible assumption) | assumption)
       obtain ⟨ad156, e156, hx156_0, hx156_1⟩ := at_T74 HR0.out x5_1 p156 q156
       cases e156
       replace p156 := eq_true p156
       replace q156 := eq_true q156
       have p157 : 0 ≤ (x5_1 : Int) := of_decide_eq_true (by first | (with_reducible assumption) | assumption)
       have q157 : x5_1 < (l0.length : Int) := of_decide_eq_true (by first | (with_reducible assumption) | assumption)
       obtain ⟨ad157, e157, hx157_0, hx157_1⟩ := at_T74 HR0.out x5_1 p157 q157
       obtain rfl : ad156 = ad157 := (by injection e157)
       replace p157 := eq_true p157
       replace q157 := eq_true q157
       go_wp2
       go_roundg k1
       case measure => have := HK1.out; omega
       case rel => exact ⟨(wrap64 (x5_1 + 1)), (by first | rfl | (simp; done) | (simp [*]; done)), H', ⟨by have := HK1.out; omega⟩, by repeat (first | exact Drawn0.refl _ | apply Drawn0.step)⟩
     ·rw [if_neg c5] at H
      have c5b0 : decide (((rd_T74 l0 x5_1).f0) ≤ a1) = false := decide_eq_false c5
      clear c5
      have H' := Aside0.mk H
      clear H
      have p156 : 0 ≤ (x5_1 : Int) := of_decide_eq_true (by first | (with_reducible assumption) | assumption)
      have q156 : x5_1 < (l0.length : Int) := of_decide_eq_true (by first | (with_reducible assumption) | assumption)
      obtain ⟨ad156, e156, hx156_0, hx156_1⟩ := at_T74 HR0.out x5_1 p156 q156
      cases e156
      replace p156 := eq_true p156
      replace q156 := eq_true q156
      go_wp2
      go_roundg k1
      case measure => have := HK1.out; omega
      case rel => exact ⟨(wrap64 (x5_1 + 1)), (by first | rfl | (simp; done) | (simp [*]; done)), H', ⟨by have := HK1.out; omega⟩, by repeat (first | exact Drawn0.refl _ | apply Drawn0.step)⟩
    ·rw [if_neg c4] at H
     exact absurd H (by simp)
   ·rw [if_neg c3] at H
    have c3b0 : decide (x5_1 < (l0.length : Int)) = false := decide_eq_false c3
    clear c3
    obtain rfl := Option.some.inj H
    go_wp2
    go_ret
    exact ⟨by first | rfl | (simp; done) | (simp [*]; done), by repeat (first | exact Drawn0.refl _ | apply Drawn0.step)⟩

-- NOT PRINTED: function 11 (gatewardenlaw14_FactsSpans)

end Go.Proofs.Ytcoaehhoiaijoaa.PFactsTells
