/- Texts of this claim, put together (wip/pack.py): MeanFew, Opens. -/
import Derived.Test.YtppmcbkcohiodaaK22
import Derived.Test.YtppmcbkcohiodaaWMore
import Derived.ProofKit
import Derived.Deep.Slices
import Derived.SizedLaws
import Derived.OpenShut
namespace Go.Proofs.Ytppmcbkcohiodaa.PMeanTells
open Go.RowKit Go.Proofs.YtppmcbkcohiodaaW.PrintWords Go.Proofs.YtppmcbkcohiodaaW.PrintLast Go.Proofs.YtppmcbkcohiodaaW.PrintMore
attribute [local go_sem] max2_int min2_int max_two min_two max_three min_three max_four min_four   -- for this text's walks alone
set_option linter.unusedVariables false
set_option linter.unusedSimpArgs false

/-! ### gatewardenref11_Few: function 11 -/
def gatewardenref11_Few.l0 : Nat → List (S39) → Int → Option (Bool)
 | 0, _, _ => none
 | k + 1, x0, x5 => if x5 < (x0.length : Int) then (if 0 ≤ x5 then ((gatewardenref11_Small.f k ((rd_T39 x0 x5).f1.f0) ((rd_T39 x0 x5).f1.f1) ((rd_T39 x0 x5).f1.f2) ((rd_T39 x0 x5).f1.f3) ((rd_T39 x0 x5).f1.f4) ((rd_T39 x0 x5).f1.f5) 4).bind fun t124 => (if t124 = true then (gatewardenref11_Few.l0 k x0 (wrap64 (x5 + 1))) else (some false))) else (none)) else (some true)
def gatewardenref11_Few.f (k : Nat) (l0 : List (S39)) (a1 : Int) : Option (Bool) := if (l0.length : Int) > a1 then (some false) else (gatewardenref11_Few.l0 k l0 0)
theorem gatewardenref11_Few.mono_l : ∀ k, (∀ y0 y1, LeO (gatewardenref11_Few.l0 k y0 y1) (gatewardenref11_Few.l0 (k + 1) y0 y1))
 | 0 => fun _ _ r h => by simp [gatewardenref11_Few.l0] at h
 | k + 1 => by
  have ih0 := gatewardenref11_Few.mono_l k
  ·intro y0 y1
   unfold gatewardenref11_Few.l0
   repeat' first
   | (with_reducible exact ih0 _ _)
   | (with_reducible exact gatewardenref11_Small.mono _ _ _ _ _ _ _ _)
   | (with_reducible exact LeO.refl _)
   | (with_reducible exact LeO.none _)
   | (with_reducible refine LeO.ite ?_ ?_)
   | (with_reducible refine LeO.bind ?_ (fun _ => ?_))
   | exact ih0 _ _
   | exact gatewardenref11_Small.mono _ _ _ _ _ _ _ _
   | exact LeO.none _
   | refine LeO.ite ?_ ?_
   | refine LeO.bind ?_ (fun _ => ?_)
theorem gatewardenref11_Few.mono : ∀ a0 a1 k, LeO (gatewardenref11_Few.f k a0 a1) (gatewardenref11_Few.f (k + 1) a0 a1) := by
 intro a0 a1 k
 have ih0 := gatewardenref11_Few.mono_l k
 unfold gatewardenref11_Few.f
 repeat' first
   | (with_reducible exact ih0 _ _)
   | (with_reducible exact gatewardenref11_Small.mono _ _ _ _ _ _ _ _)
   | (with_reducible exact LeO.refl _)
   | (with_reducible exact LeO.none _)
   | (with_reducible refine LeO.ite ?_ ?_)
   | (with_reducible refine LeO.bind ?_ (fun _ => ?_))
   | exact ih0 _ _
   | exact gatewardenref11_Small.mono _ _ _ _ _ _ _ _
   | exact LeO.none _
   | refine LeO.ite ?_ ?_
   | refine LeO.bind ?_ (fun _ => ?_)
set_option maxHeartbeats 8000000 in
set_option maxRecDepth 100000 in
theorem gatewardenref11_Few.calls (k : Nat) (A0 : Option Addr) (c0 : Nat) (l0 : List (S39)) (a1 : Int) (r : Bool) (w : World) (hr0 : Kd.C k39 w A0 l0.length l0) (hc0 : l0.length ≤ c0) (h : gatewardenref11_Few.f k l0 a1 = some r) :
  Calls Try.prog 11 #[.slice A0 l0.length c0, .int .i64 a1] w fun e w' => e = .returned (.bool r) ∧ Below w.heap.size w w' := by
 have hu26 := Try.underlying26
 have HR0 := Aside0.mk hr0
 have HC0 := Aside0.mk hc0
 clear hr0 hc0
 have HB := Aside0.mk (Below.refl w.heap.size w)
 have H : (if (l0.length : Int) > a1 then (some false) else (gatewardenref11_Few.l0 k l0 0)) = some r := h
 clear h
 by_cases c3 : (l0.length : Int) > a1
 ·rw [if_pos c3] at H
  have c3b0 : decide (a1 < (l0.length : Int)) = true := decide_eq_true c3
  clear c3
  obtain rfl := Option.some.inj H
  go_enter Try.func11, Try.ntmps11
  go_wp2
  go_ret
  exact ⟨by first | rfl | (simp [errW_none, errW_some] <;> rfl) | (simp [*, errW_none, errW_some] <;> rfl), by repeat (first | (with_reducible first | exact HB.out | apply below_alloc | apply pw_below_drewN | apply below_drew1) | exact HB.out)⟩
 ·rw [if_neg c3] at H
  have c3b0 : decide (a1 < (l0.length : Int)) = false := decide_eq_false c3
  clear c3
  have H' := Aside0.mk H
  clear H
  go_enter Try.func11, Try.ntmps11
  go_wp2
  go_loopg [5] k (fun kq v5 w' => ∃ (x5_1 : Int), v5 = .int .i64 x5_1 ∧ Aside0 (gatewardenref11_Few.l0 kq l0 x5_1 = some r) ∧ Aside0 (kq ≤ k) ∧ Aside0 (Below w.heap.size w w'))
  case atStart => exact ⟨(0), (by first | rfl | (simp; done) | (simp [*]; done)), H', ⟨Nat.le_refl _⟩, ⟨by repeat (first | (with_reducible first | exact HB.out | apply below_alloc | apply pw_below_drewN | apply below_drew1) | exact HB.out)⟩⟩
  case round =>
   clear H'
   try clear c1
   try clear p2
   try clear c3
   try clear c3b0
   obtain ⟨x5_1, rfl, HA, HK1, HB⟩ := hrel
   cases gk with
   | zero => exact absurd HA.out (by simp [gatewardenref11_Few.l0])
   | succ k1 =>
    have H := HA.out
    clear HA
    simp only [gatewardenref11_Few.l0] at H
    by_cases c4 : x5_1 < (l0.length : Int)
    ·rw [if_pos c4] at H
     have c4b0 : decide (x5_1 < (l0.length : Int)) = true := decide_eq_true c4
     clear c4
     by_cases c5 : 0 ≤ x5_1
     ·rw [if_pos c5] at H
      have c5b0 : decide (0 ≤ x5_1) = true := decide_eq_true c5
      clear c5
      replace H := Option.bind_eq_some_iff.mp H
      obtain ⟨t124, A60, H⟩ := H
      replace H : (if t124 = true then (gatewardenref11_Few.l0 k1 l0 (wrap64 (x5_1 + 1))) else (some false)) = some r := H
      have A6 := Aside0.mk A60
      clear A60
      by_cases c7 : t124 = true
      ·subst c7
       have H1 : (gatewardenref11_Few.l0 k1 l0 (wrap64 (x5_1 + 1))) = some r := by rw [if_pos rfl] at H; exact H
       clear H
       have H := H1
       clear H1
       have H' := Aside0.mk H
       clear H
       have p123 : 0 ≤ (x5_1 : Int) := of_decide_eq_true (by first | (with_reducible assumption) | assumption)
       have q123 : x5_1 < (l0.length : Int) := of_decide_eq_true (by first | (with_reducible assumption) | assumption)
       obtain ⟨ad123, A123_3, c123_3, A123_6, c123_6, e123, hx123_0, hx123_1, hx123_2, hx123_3, hx123_4, hx123_5, hx123_6, hx123_7, hx123_8, hx123_9, hx123_10, hl123_3, hi123_3, hl123_6, hi123_6⟩ := at_T39 HR0.out x5_1 p123 q123
       cases e123
       replace hx123_0 := (HB.out.cell (World.block_lt_of_cell? w _ hx123_0)).trans hx123_0
       replace hx123_1 := (HB.out.cell (World.block_lt_of_cell? w _ hx123_1)).trans hx123_1
       replace hx123_2 := (HB.out.cell (World.block_lt_of_cell? w _ hx123_2)).trans hx123_2
       replace hx123_3 := (HB.out.cell (World.block_lt_of_cell? w _ hx123_3)).trans hx123_3
       replace hx123_4 := (HB.out.cell (World.block_lt_of_cell? w _ hx123_4)).trans hx123_4
       replace hx123_5 := (HB.out.cell (World.block_lt_of_cell? w _ hx123_5)).trans hx123_5
       replace hx123_6 := (HB.out.cell (World.block_lt_of_cell? w _ hx123_6)).trans hx123_6
       replace hx123_7 := (HB.out.cell (World.block_lt_of_cell? w _ hx123_7)).trans hx123_7
       replace hx123_8 := (HB.out.cell (World.block_lt_of_cell? w _ hx123_8)).trans hx123_8
       replace hx123_9 := (HB.out.cell (World.block_lt_of_cell? w _ hx123_9)).trans hx123_9
       replace hx123_10 := (HB.out.cell (World.block_lt_of_cell? w _ hx123_10)).trans hx123_10
       have HR123_3 := Aside0.mk hi123_3
       have HC123_3 := Aside0.mk hl123_3
       clear hi123_3 hl123_3
       have HR123_6 := Aside0.mk hi123_6
       have HC123_6 := Aside0.mk hl123_6
       clear hi123_6 hl123_6
       replace p123 := eq_true p123
       replace q123 := eq_true q123
       go_wp2_with (first | ((with_reducible refine gate_callee (f := 9) rfl ?_); refine goesL_ (some 21) rfl rfl Try.func9 (by kernel_rfl) rfl #[.agg #[.int .i64 ((rd_T39 l0 x5_1).f1.f0), .int .i64 ((rd_T39 l0 x5_1).f1.f1), .slice A123_3 ((rd_T39 l0 x5_1).f1.f2).length c123_3, .float .f64 ((rd_T39 l0 x5_1).f1.f3), .float .f64 ((rd_T39 l0 x5_1).f1.f4), .slice A123_6 ((rd_T39 l0 x5_1).f1.f5).length c123_6], .int .i64 4] rfl (by (try simp only [List.map_toArray, List.map_cons, List.map_nil]); first | done | rfl | (simp only [List.length_drop, List.length_take]; rfl)) ?_; (with_reducible refine (gatewardenref11_Small.calls k1 ((rd_T39 l0 x5_1).f1.f0) ((rd_T39 l0 x5_1).f1.f1) _ _ ((rd_T39 l0 x5_1).f1.f2) ((rd_T39 l0 x5_1).f1.f3) ((rd_T39 l0 x5_1).f1.f4) _ _ ((rd_T39 l0 x5_1).f1.f5) 4 true _ ?side1 ?side2 ?side3 ?side4 A6.out).mono ?_); (case side1 => repeat (first | exact (Kd.C_below HR123_3.out HB.out) | (with_reducible refine Kd.C_alloc ?_ _) | (with_reducible refine Kd.C_drewN ?_ _) | (with_reducible refine Kd.C_drew ?_))); (case side2 => exact HC123_3.out); (case side3 => repeat (first | exact (Kd.C_below HR123_6.out HB.out) | (with_reducible refine Kd.C_alloc ?_ _) | (with_reducible refine Kd.C_drewN ?_ _) | (with_reducible refine Kd.C_drew ?_))); (case side4 => exact HC123_6.out); rintro e w8 ⟨rfl, hb⟩; refine ⟨_, rfl, ?_⟩; have n0_ := Aside0.mk (below_step (by repeat (first | (with_reducible first | exact HB.out | apply below_alloc | apply pw_below_drewN | apply below_drew1) | exact HB.out)) hb); clear HB; have HB := n0_; clear n0_; (try clear hb); (try clear hb2); (try clear hk); (try clear hi)))
       go_roundg k1
       case measure => have := HK1.out; omega
       case rel => exact ⟨(wrap64 (x5_1 + 1)), (by first | rfl | (simp; done) | (simp [*]; done)), H', ⟨by have := HK1.out; omega⟩, ⟨by repeat (first | (with_reducible first | exact HB.out | apply below_alloc | apply pw_below_drewN | apply below_drew1) | exact HB.out)⟩⟩
      ·replace c7 := Bool.eq_false_iff.mpr c7
       subst c7
       have H1 : (some false) = some r := by rw [if_neg (show ¬ (false = true) by decide)] at H; exact H
       clear H
       have H := H1
       clear H1
       obtain rfl := Option.some.inj H
       have p123 : 0 ≤ (x5_1 : Int) := of_decide_eq_true (by first | (with_reducible assumption) | assumption)
       have q123 : x5_1 < (l0.length : Int) := of_decide_eq_true (by first | (with_reducible assumption) | assumption)
       obtain ⟨ad123, A123_3, c123_3, A123_6, c123_6, e123, hx123_0, hx123_1, hx123_2, hx123_3, hx123_4, hx123_5, hx123_6, hx123_7, hx123_8, hx123_9, hx123_10, hl123_3, hi123_3, hl123_6, hi123_6⟩ := at_T39 HR0.out x5_1 p123 q123
       cases e123
       replace hx123_0 := (HB.out.cell (World.block_lt_of_cell? w _ hx123_0)).trans hx123_0
       replace hx123_1 := (HB.out.cell (World.block_lt_of_cell? w _ hx123_1)).trans hx123_1
       replace hx123_2 := (HB.out.cell (World.block_lt_of_cell? w _ hx123_2)).trans hx123_2
       replace hx123_3 := (HB.out.cell (World.block_lt_of_cell? w _ hx123_3)).trans hx123_3
       replace hx123_4 := (HB.out.cell (World.block_lt_of_cell? w _ hx123_4)).trans hx123_4
       replace hx123_5 := (HB.out.cell (World.block_lt_of_cell? w _ hx123_5)).trans hx123_5
       replace hx123_6 := (HB.out.cell (World.block_lt_of_cell? w _ hx123_6)).trans hx123_6
       replace hx123_7 := (HB.out.cell (World.block_lt_of_cell? w _ hx123_7)).trans hx123_7
       replace hx123_8 := (HB.out.cell (World.block_lt_of_cell? w _ hx123_8)).trans hx123_8
       replace hx123_9 := (HB.out.cell (World.block_lt_of_cell? w _ hx123_9)).trans hx123_9
       replace hx123_10 := (HB.out.cell (World.block_lt_of_cell? w _ hx123_10)).trans hx123_10
       have HR123_3 := Aside0.mk hi123_3
       have HC123_3 := Aside0.mk hl123_3
       clear hi123_3 hl123_3
       have HR123_6 := Aside0.mk hi123_6
       have HC123_6 := Aside0.mk hl123_6
       clear hi123_6 hl123_6
       replace p123 := eq_true p123
       replace q123 := eq_true q123
       go_wp2_with (first | ((with_reducible refine gate_callee (f := 9) rfl ?_); refine goesL_ (some 21) rfl rfl Try.func9 (by kernel_rfl) rfl #[.agg #[.int .i64 ((rd_T39 l0 x5_1).f1.f0), .int .i64 ((rd_T39 l0 x5_1).f1.f1), .slice A123_3 ((rd_T39 l0 x5_1).f1.f2).length c123_3, .float .f64 ((rd_T39 l0 x5_1).f1.f3), .float .f64 ((rd_T39 l0 x5_1).f1.f4), .slice A123_6 ((rd_T39 l0 x5_1).f1.f5).length c123_6], .int .i64 4] rfl (by (try simp only [List.map_toArray, List.map_cons, List.map_nil]); first | done | rfl | (simp only [List.length_drop, List.length_take]; rfl)) ?_; (with_reducible refine (gatewardenref11_Small.calls k1 ((rd_T39 l0 x5_1).f1.f0) ((rd_T39 l0 x5_1).f1.f1) _ _ ((rd_T39 l0 x5_1).f1.f2) ((rd_T39 l0 x5_1).f1.f3) ((rd_T39 l0 x5_1).f1.f4) _ _ ((rd_T39 l0 x5_1).f1.f5) 4 false _ ?side1 ?side2 ?side3 ?side4 A6.out).mono ?_); (case side1 => repeat (first | exact (Kd.C_below HR123_3.out HB.out) | (with_reducible refine Kd.C_alloc ?_ _) | (with_reducible refine Kd.C_drewN ?_ _) | (with_reducible refine Kd.C_drew ?_))); (case side2 => exact HC123_3.out); (case side3 => repeat (first | exact (Kd.C_below HR123_6.out HB.out) | (with_reducible refine Kd.C_alloc ?_ _) | (with_reducible refine Kd.C_drewN ?_ _) | (with_reducible refine Kd.C_drew ?_))); (case side4 => exact HC123_6.out); rintro e w9 ⟨rfl, hb⟩; refine ⟨_, rfl, ?_⟩; have n0_ := Aside0.mk (below_step (by repeat (first | (with_reducible first | exact HB.out | apply below_alloc | apply pw_below_drewN | apply below_drew1) | exact HB.out)) hb); clear HB; have HB := n0_; clear n0_; (try clear hb); (try clear hb2); (try clear hk); (try clear hi)))
       go_ret
       exact ⟨by first | rfl | (simp [errW_none, errW_some] <;> rfl) | (simp [*, errW_none, errW_some] <;> rfl), by repeat (first | (with_reducible first | exact HB.out | apply below_alloc | apply pw_below_drewN | apply below_drew1) | exact HB.out)⟩
     ·rw [if_neg c5] at H
      exact absurd H (by simp)
    ·rw [if_neg c4] at H
     have c4b0 : decide (x5_1 < (l0.length : Int)) = false := decide_eq_false c4
     clear c4
     obtain rfl := Option.some.inj H
     go_wp2
     go_ret
     exact ⟨by first | rfl | (simp [errW_none, errW_some] <;> rfl) | (simp [*, errW_none, errW_some] <;> rfl), by repeat (first | (with_reducible first | exact HB.out | apply below_alloc | apply pw_below_drewN | apply below_drew1) | exact HB.out)⟩


/-! ### gatewardenlaw15_few: function 12 -/
def gatewardenlaw15_few.f (a0_0 : Int) (a0_1 : Int) (a0_2 : Int) (l0_3 : List (S55)) (l0_4 : List Int) (l0_5 : List Int) : Option (Bool) := if (l0_3.length : Int) ≤ 20 then (if (l0_4.length : Int) ≤ 300 then (some (decide ((l0_5.length : Int) ≤ 300))) else (some false)) else (some false)
set_option maxHeartbeats 8000000 in
set_option maxRecDepth 100000 in
theorem gatewardenlaw15_few.calls (a0_0 : Int) (a0_1 : Int) (a0_2 : Int) (A0_3 : Option Addr) (c0_3 : Nat) (l0_3 : List (S55)) (A0_4 : Option Addr) (c0_4 : Nat) (l0_4 : List Int) (A0_5 : Option Addr) (c0_5 : Nat) (l0_5 : List Int) (r : Bool) (w : World) (hr0_3 : Kd.C k55 w A0_3 l0_3.length l0_3) (hc0_3 : l0_3.length ≤ c0_3) (hr0_4 : Kd.C (Kd.int .i64) w A0_4 l0_4.length l0_4) (hc0_4 : l0_4.length ≤ c0_4) (hr0_5 : Kd.C (Kd.int .i64) w A0_5 l0_5.length l0_5) (hc0_5 : l0_5.length ≤ c0_5) (h : gatewardenlaw15_few.f a0_0 a0_1 a0_2 l0_3 l0_4 l0_5 = some r) :
  Calls Try.prog 12 #[.agg #[.int .i64 a0_0, .int .i64 a0_1, .int .i64 a0_2, .slice A0_3 l0_3.length c0_3, .slice A0_4 l0_4.length c0_4, .slice A0_5 l0_5.length c0_5]] w fun e w' => e = .returned (.bool r) ∧ Below w.heap.size w w' := by
 have hu30 := Try.underlying30
 have HR0_3 := Aside0.mk hr0_3
 have HC0_3 := Aside0.mk hc0_3
 clear hr0_3 hc0_3
 have HR0_4 := Aside0.mk hr0_4
 have HC0_4 := Aside0.mk hc0_4
 clear hr0_4 hc0_4
 have HR0_5 := Aside0.mk hr0_5
 have HC0_5 := Aside0.mk hc0_5
 clear hr0_5 hc0_5
 have HB := Aside0.mk (Below.refl w.heap.size w)
 have H : (if (l0_3.length : Int) ≤ 20 then (if (l0_4.length : Int) ≤ 300 then (some (decide ((l0_5.length : Int) ≤ 300))) else (some false)) else (some false)) = some r := h
 clear h
 by_cases c2 : (l0_3.length : Int) ≤ 20
 ·rw [if_pos c2] at H
  have c2b0 : decide ((l0_3.length : Int) ≤ 20) = true := decide_eq_true c2
  have c2b1 : decide (l0_3.length ≤ 20) = true := decide_eq_true (by omega)
  clear c2
  by_cases c3 : (l0_4.length : Int) ≤ 300
  ·rw [if_pos c3] at H
   have c3b0 : decide ((l0_4.length : Int) ≤ 300) = true := decide_eq_true c3
   have c3b1 : decide (l0_4.length ≤ 300) = true := decide_eq_true (by omega)
   clear c3
   obtain rfl := Option.some.inj H
   go_enter Try.func12, Try.ntmps12
   go_wp2_with (first | ((with_reducible refine gate_dst (N := 1) rfl ?_); (try (refine gate_guard (by rfl) ?_; dsimp only)); refine box_event ?hg (N := 1) ?hd (cs := #[.int .i64 a0_0, .int .i64 a0_1, .int .i64 a0_2, .slice A0_3 l0_3.length c0_3, .slice A0_4 l0_4.length c0_4, .slice A0_5 l0_5.length c0_5]) (t := 30) ?hr ?_; (case hd => rfl); (case hg => rfl); (case hr => first | (go_simp; done) | (go_simp; rfl)); intro gb125 hg w4 hbox hb; have n0_ := Aside0.mk (below_step (by repeat (first | (with_reducible first | exact HB.out | apply below_alloc | apply pw_below_drewN | apply below_drew1) | exact HB.out)) hb); have n1_ := Aside0.mk (hbox); have n2_ := Aside0.mk ((by rw [hg]; exact (below_size (by repeat (first | (with_reducible first | exact HB.out | apply below_alloc | apply pw_below_drewN | apply below_drew1) | exact HB.out))) : w.heap.size ≤ gb125)); have n3_ := Aside0.mk ((by rw [hg]; exact (below_size (by repeat (first | (with_reducible first | exact HB.out | apply below_alloc | apply pw_below_drewN | apply below_drew1) | exact HB.out))) : w.heap.size ≤ gb125)); clear HB; have HB := n0_; have BK125 := n1_; have GW125 := n2_; have GE125 := n3_; clear n0_ n1_ n2_ n3_; clear hb hbox hg; have hcz5_0 : w4.cell? ⟨gb125, 0, none⟩ = some (.int .i64 a0_0) := (blk_cell BK125.out 0).trans rfl; have hcz5_1 : w4.cell? ⟨gb125, 1, none⟩ = some (.int .i64 a0_1) := (blk_cell BK125.out 1).trans rfl; have hcz5_2 : w4.cell? ⟨gb125, 2, none⟩ = some (.int .i64 a0_2) := (blk_cell BK125.out 2).trans rfl; have hcz5_3 : w4.cell? ⟨gb125, 3, none⟩ = some (.slice A0_3 l0_3.length c0_3) := (blk_cell BK125.out 3).trans rfl; have hcz5_4 : w4.cell? ⟨gb125, 4, none⟩ = some (.slice A0_4 l0_4.length c0_4) := (blk_cell BK125.out 4).trans rfl; have hcz5_5 : w4.cell? ⟨gb125, 5, none⟩ = some (.slice A0_5 l0_5.length c0_5) := (blk_cell BK125.out 5).trans rfl; have hfz5_0 := blk_frozen BK125.out 0; have hfz5_1 := blk_frozen BK125.out 1; have hfz5_2 := blk_frozen BK125.out 2; have hfz5_3 := blk_frozen BK125.out 3; have hfz5_4 := blk_frozen BK125.out 4; have hfz5_5 := blk_frozen BK125.out 5))
   go_ret
   exact ⟨by first | rfl | (simp [errW_none, errW_some] <;> rfl) | (simp [*, errW_none, errW_some] <;> rfl), by repeat (first | (with_reducible first | exact HB.out | apply below_alloc | apply pw_below_drewN | apply below_drew1 | refine below_set ?_ GE125.out) | exact HB.out)⟩
  ·rw [if_neg c3] at H
   have c3b0 : decide ((l0_4.length : Int) ≤ 300) = false := decide_eq_false c3
   have c3b1 : decide (l0_4.length ≤ 300) = false := decide_eq_false (by omega)
   clear c3
   obtain rfl := Option.some.inj H
   go_enter Try.func12, Try.ntmps12
   go_wp2_with (first | ((with_reducible refine gate_dst (N := 1) rfl ?_); (try (refine gate_guard (by rfl) ?_; dsimp only)); refine box_event ?hg (N := 1) ?hd (cs := #[.int .i64 a0_0, .int .i64 a0_1, .int .i64 a0_2, .slice A0_3 l0_3.length c0_3, .slice A0_4 l0_4.length c0_4, .slice A0_5 l0_5.length c0_5]) (t := 30) ?hr ?_; (case hd => rfl); (case hg => rfl); (case hr => first | (go_simp; done) | (go_simp; rfl)); intro gb125 hg w6 hbox hb; have n0_ := Aside0.mk (below_step (by repeat (first | (with_reducible first | exact HB.out | apply below_alloc | apply pw_below_drewN | apply below_drew1) | exact HB.out)) hb); have n1_ := Aside0.mk (hbox); have n2_ := Aside0.mk ((by rw [hg]; exact (below_size (by repeat (first | (with_reducible first | exact HB.out | apply below_alloc | apply pw_below_drewN | apply below_drew1) | exact HB.out))) : w.heap.size ≤ gb125)); have n3_ := Aside0.mk ((by rw [hg]; exact (below_size (by repeat (first | (with_reducible first | exact HB.out | apply below_alloc | apply pw_below_drewN | apply below_drew1) | exact HB.out))) : w.heap.size ≤ gb125)); clear HB; have HB := n0_; have BK125 := n1_; have GW125 := n2_; have GE125 := n3_; clear n0_ n1_ n2_ n3_; clear hb hbox hg; have hcz7_0 : w6.cell? ⟨gb125, 0, none⟩ = some (.int .i64 a0_0) := (blk_cell BK125.out 0).trans rfl; have hcz7_1 : w6.cell? ⟨gb125, 1, none⟩ = some (.int .i64 a0_1) := (blk_cell BK125.out 1).trans rfl; have hcz7_2 : w6.cell? ⟨gb125, 2, none⟩ = some (.int .i64 a0_2) := (blk_cell BK125.out 2).trans rfl; have hcz7_3 : w6.cell? ⟨gb125, 3, none⟩ = some (.slice A0_3 l0_3.length c0_3) := (blk_cell BK125.out 3).trans rfl; have hcz7_4 : w6.cell? ⟨gb125, 4, none⟩ = some (.slice A0_4 l0_4.length c0_4) := (blk_cell BK125.out 4).trans rfl; have hcz7_5 : w6.cell? ⟨gb125, 5, none⟩ = some (.slice A0_5 l0_5.length c0_5) := (blk_cell BK125.out 5).trans rfl; have hfz7_0 := blk_frozen BK125.out 0; have hfz7_1 := blk_frozen BK125.out 1; have hfz7_2 := blk_frozen BK125.out 2; have hfz7_3 := blk_frozen BK125.out 3; have hfz7_4 := blk_frozen BK125.out 4; have hfz7_5 := blk_frozen BK125.out 5))
   go_ret
   exact ⟨by first | rfl | (simp [errW_none, errW_some] <;> rfl) | (simp [*, errW_none, errW_some] <;> rfl), by repeat (first | (with_reducible first | exact HB.out | apply below_alloc | apply pw_below_drewN | apply below_drew1 | refine below_set ?_ GE125.out) | exact HB.out)⟩
 ·rw [if_neg c2] at H
  have c2b0 : decide ((l0_3.length : Int) ≤ 20) = false := decide_eq_false c2
  have c2b1 : decide (l0_3.length ≤ 20) = false := decide_eq_false (by omega)
  clear c2
  obtain rfl := Option.some.inj H
  go_enter Try.func12, Try.ntmps12
  go_wp2_with (first | ((with_reducible refine gate_dst (N := 1) rfl ?_); (try (refine gate_guard (by rfl) ?_; dsimp only)); refine box_event ?hg (N := 1) ?hd (cs := #[.int .i64 a0_0, .int .i64 a0_1, .int .i64 a0_2, .slice A0_3 l0_3.length c0_3, .slice A0_4 l0_4.length c0_4, .slice A0_5 l0_5.length c0_5]) (t := 30) ?hr ?_; (case hd => rfl); (case hg => rfl); (case hr => first | (go_simp; done) | (go_simp; rfl)); intro gb125 hg w8 hbox hb; have n0_ := Aside0.mk (below_step (by repeat (first | (with_reducible first | exact HB.out | apply below_alloc | apply pw_below_drewN | apply below_drew1) | exact HB.out)) hb); have n1_ := Aside0.mk (hbox); have n2_ := Aside0.mk ((by rw [hg]; exact (below_size (by repeat (first | (with_reducible first | exact HB.out | apply below_alloc | apply pw_below_drewN | apply below_drew1) | exact HB.out))) : w.heap.size ≤ gb125)); have n3_ := Aside0.mk ((by rw [hg]; exact (below_size (by repeat (first | (with_reducible first | exact HB.out | apply below_alloc | apply pw_below_drewN | apply below_drew1) | exact HB.out))) : w.heap.size ≤ gb125)); clear HB; have HB := n0_; have BK125 := n1_; have GW125 := n2_; have GE125 := n3_; clear n0_ n1_ n2_ n3_; clear hb hbox hg; have hcz9_0 : w8.cell? ⟨gb125, 0, none⟩ = some (.int .i64 a0_0) := (blk_cell BK125.out 0).trans rfl; have hcz9_1 : w8.cell? ⟨gb125, 1, none⟩ = some (.int .i64 a0_1) := (blk_cell BK125.out 1).trans rfl; have hcz9_2 : w8.cell? ⟨gb125, 2, none⟩ = some (.int .i64 a0_2) := (blk_cell BK125.out 2).trans rfl; have hcz9_3 : w8.cell? ⟨gb125, 3, none⟩ = some (.slice A0_3 l0_3.length c0_3) := (blk_cell BK125.out 3).trans rfl; have hcz9_4 : w8.cell? ⟨gb125, 4, none⟩ = some (.slice A0_4 l0_4.length c0_4) := (blk_cell BK125.out 4).trans rfl; have hcz9_5 : w8.cell? ⟨gb125, 5, none⟩ = some (.slice A0_5 l0_5.length c0_5) := (blk_cell BK125.out 5).trans rfl; have hfz9_0 := blk_frozen BK125.out 0; have hfz9_1 := blk_frozen BK125.out 1; have hfz9_2 := blk_frozen BK125.out 2; have hfz9_3 := blk_frozen BK125.out 3; have hfz9_4 := blk_frozen BK125.out 4; have hfz9_5 := blk_frozen BK125.out 5))
  go_ret
  exact ⟨by first | rfl | (simp [errW_none, errW_some] <;> rfl) | (simp [*, errW_none, errW_some] <;> rfl), by repeat (first | (with_reducible first | exact HB.out | apply below_alloc | apply pw_below_drewN | apply below_drew1 | refine below_set ?_ GE125.out) | exact HB.out)⟩
end Go.Proofs.Ytppmcbkcohiodaa.PMeanTells
namespace Go.Proofs.YtppmcbkcohiodaaW.PrintWords
open Go.ChangeShapes Go.WideShapes Go.RowKit Go.Deep
/-- Data of type t read as something of kind d, of which 'good' holds. -/
def Opens (P : Program) (t : TypeId) {α : Type} (d : Kd α) (good : α → Prop) : Prop :=
  ∀ (fuel : Nat) {H : Type} (enc : TypeId × Value → H) (w : World) (cs : List Value) (x : DataW H × List MemPlace), DataW.trod enc P w 0 (fun _ => true) true fuel t cs = some x → (∀ n ∈ x.1.weights P t, n ≤ reachBytes) → ∃ y, d.K w y cs ∧ good y
theorem opens_int {P : Program} {t : TypeId} {k : IntKind} (ht : P.underlying t = some (.int k)) : Opens P t (Kd.int k) (fun n => (Lit.int k n).wf = true) := by
  intro fuel H enc w cs x hx _
  obtain ⟨n, rfl, rfl, hw⟩ := DataW.trod_int ht hx
  exact ⟨n, rfl, hw⟩
theorem opens_bool {P : Program} {t : TypeId} (ht : P.underlying t = some .bool) : Opens P t Kd.bool (fun _ => True) := by
  intro fuel H enc w cs x hx _
  obtain ⟨b, rfl, rfl⟩ := DataW.trod_bool ht hx
  exact ⟨b, rfl, trivial⟩
theorem opens_string {P : Program} {t : TypeId} (ht : P.underlying t = some .string) : Opens P t Kd.string (fun s => s.size ≤ 140737488351232) := by
  intro fuel H enc w cs x hx hs
  obtain ⟨s, rfl, rfl, _⟩ := DataW.trod_string ht hx
  have := hs s.data.toList.length (by simp [DataW.weights])
  rw [Array.length_toList] at this
  exact ⟨s, rfl, this⟩
theorem weightsAll_mem {H : Type} {P : Program} {e : TypeId} : ∀ {ds : List (DataW H)} {d : DataW H}, d ∈ ds → ∀ n ∈ d.weights P e, n ∈ DataW.weightsAll P e ds := by
  intro ds
  induction ds with
  | nil => intro d hd; cases hd
  | cons a t ih =>
    intro d hd n hn
    rw [DataW.weightsAll, List.mem_append]
    rcases List.mem_cons.1 hd with rfl | hd
    · exact .inl hn
    · exact .inr (ih hd n hn)
theorem opens_slice {P : Program} {t e : TypeId} {α : Type} {d : Kd α} {good : α → Prop} {B : Nat} (ht : P.underlying t = some (.slice e)) (hc : P.cellsOf e = d.sz) (hB : P.bytesOf e = B) (he : Opens P e d good) :
    Opens P t (Kd.slice e d) (fun xs => xs.length ≤ maxLen ∧ xs.length * B ≤ 140737488351232 ∧ ∀ x ∈ xs, good x) := by
  intro fuel H enc w cs x hx hs
  rcases open_slice ht hx with ⟨rfl, rfl⟩ | ⟨a, len, cap, m, n, D, Pl, rfl, _, hl, hm, hme, rfl, hel⟩
  · exact ⟨[], ⟨none, 0, rfl, Nat.le_refl _, Kd.C_nil _ _⟩, Nat.zero_le _, by simp, fun x hx => by cases hx⟩
  · have hmc : m = cap := by simpa using hme
    have hw : ∀ q ∈ (DataW.slice ((List.range len).map D) ((List.range (m - len)).map fun j => D (len + j)) : DataW H).weights P t, q ≤ reachBytes := hs
    rw [DataW.weights, ht] at hw
    have hb := hw _ List.mem_cons_self
    simp only [List.length_map, List.length_range] at hb
    have hex : ∀ i, i < len → ∃ y, (∃ cs', w.cells? 0 (a.add (i * P.cellsOf e)) (P.cellsOf e) = some cs' ∧ d.K w y cs') ∧ good y := by
      intro i hi
      obtain ⟨cs', hcs, htr⟩ := hel i (by omega)
      obtain ⟨y, hy, hg⟩ := he n enc w cs' (D i, Pl i) htr (fun q hq => hw q (List.mem_cons_of_mem _ (List.mem_append_left _ (weightsAll_mem (List.mem_map.2 ⟨i, List.mem_range.2 hi, rfl⟩) q hq))))
      exact ⟨y, ⟨cs', hcs, hy⟩, hg⟩
    have hys : ∃ ys : List α, ys.length = len ∧ ∀ i (h : i < ys.length), (∃ cs', w.cells? 0 (a.add (i * P.cellsOf e)) (P.cellsOf e) = some cs' ∧ d.K w ys[i] cs') ∧ good ys[i] := by
      have key : ∀ j, j ≤ len → ∃ ys : List α, ys.length = j ∧ ∀ i (h : i < ys.length), (∃ cs', w.cells? 0 (a.add (i * P.cellsOf e)) (P.cellsOf e) = some cs' ∧ d.K w ys[i] cs') ∧ good ys[i] := by
        intro j
        induction j with
        | zero => intro _; exact ⟨[], rfl, fun i h => absurd h (Nat.not_lt_zero _)⟩
        | succ j ih =>
          intro hj
          obtain ⟨ys, hy1, hy2⟩ := ih (by omega)
          obtain ⟨y, hy⟩ := hex j (by omega)
          refine ⟨ys ++ [y], by rw [List.length_append, hy1]; rfl, fun i h => ?_⟩
          by_cases hi : i < ys.length
          · rw [List.getElem_append_left hi]; exact hy2 i hi
          · have e : i = ys.length := by rw [List.length_append, List.length_singleton] at h; omega
            subst e
            rw [List.getElem_append_right (Nat.le_refl _)]
            simp only [Nat.sub_self, List.getElem_cons_zero]
            rw [hy1]; exact hy
      exact key len (Nat.le_refl _)
    obtain ⟨ys, hy1, hy2⟩ := hys
    subst hy1
    refine ⟨ys, ⟨some a, cap, rfl, hl, rfl, by unfold maxLen at hm; omega, fun _ => ⟨a, rfl, fun j p hp => ?_⟩⟩, by omega, ?_, fun x hx => ?_⟩
    · obtain ⟨hj, rfl⟩ := List.getElem?_eq_some_iff.1 hp
      obtain ⟨⟨cs', hcs, hk⟩, _⟩ := hy2 j hj
      obtain ⟨_, hlen, hcell⟩ := World.cells?_some hcs
      refine ⟨cs', by rw [hlen, hc], hk, fun i u hu => ?_⟩
      have hi : i < cs'.length := (List.getElem?_eq_some_iff.1 hu).1
      have := hcell i (by omega)
      rw [add_add, hc] at this
      rw [this, hu]
    · rw [← hB]
      have : ys.length * P.bytesOf e ≤ (ys.length + (m - ys.length)) * P.bytesOf e := Nat.mul_le_mul_right _ (by omega)
      exact Nat.le_trans this hb
    · obtain ⟨i, hi, rfl⟩ := List.getElem_of_mem hx
      exact (hy2 i hi).2
/-- Fields, one behind the other, from a cell on. -/
def OpensF (P : Program) (fs : List Field) (off : Nat) {α : Type} (d : Kd α) (good : α → Prop) : Prop :=
  ∀ (fuel : Nat) {H : Type} (enc : TypeId × Value → H) (w : World) (cs : List Value) (xs : List (DataW H × List MemPlace)), xs.length = fs.length →
    (∀ (j : Nat) (f : Field), fs[j]? = some f → DataW.trod enc P w 0 (fun _ => true) true fuel f.type ((cs.drop f.offset).take (P.cellsOf f.type)) = xs[j]?) → (∀ n ∈ DataW.weightsEach P (fs.map (·.type)) (xs.map (·.1)), n ≤ reachBytes) →
    ∃ y, d.K w y ((cs.drop off).take d.sz) ∧ good y
theorem opensF_one {P : Program} {f : Field} {off : Nat} {α : Type} {d : Kd α} {good : α → Prop} (ho : f.offset = off) (hc : P.cellsOf f.type = d.sz) (h : Opens P f.type d good) : OpensF P [f] off d good := by
  intro fuel H enc w cs xs hl hf hs
  obtain ⟨x, rfl⟩ : ∃ x, xs = [x] := by
    match xs, hl with
    | [x], _ => exact ⟨x, rfl⟩
  have h0 := hf 0 f rfl
  rw [ho, hc] at h0
  exact h fuel enc w _ x h0 (fun n hn => hs n (by simpa [DataW.weightsEach] using hn))
theorem opensF_cons {P : Program} {f : Field} {fs : List Field} {off : Nat} {α β : Type} {d : Kd α} {d' : Kd β} {good : α → Prop} {good' : β → Prop} (ho : f.offset = off) (hc : P.cellsOf f.type = d.sz) (h : Opens P f.type d good) (h' : OpensF P fs (off + d.sz) d' good') :
    OpensF P (f :: fs) off (Kd.pair d d') (fun y => good y.1 ∧ good' y.2) := by
  intro fuel H enc w cs xs hl hf hs
  obtain ⟨x, xt, rfl⟩ : ∃ x xt, xs = x :: xt := by
    match xs, hl with
    | x :: xt, _ => exact ⟨x, xt, rfl⟩
  have h0 := hf 0 f rfl
  rw [ho, hc] at h0
  obtain ⟨y, hy, hg⟩ := h fuel enc w _ x h0 (fun n hn => hs n (by simp only [List.map_cons, DataW.weightsEach]; exact List.mem_append_left _ hn))
  obtain ⟨z, hz, hg'⟩ := h' fuel enc w cs xt (by simpa using hl) (fun j f' hj => hf (j + 1) f' hj) (fun n hn => hs n (by simp only [List.map_cons, DataW.weightsEach]; exact List.mem_append_right _ hn))
  refine ⟨(y, z), ⟨(cs.drop off).take d.sz, (cs.drop (off + d.sz)).take d'.sz, ?_, hy, hz⟩, hg, hg'⟩
  show List.take (d.sz + d'.sz) (List.drop off cs) = _
  rw [List.take_add, List.drop_drop]
theorem opens_struct {P : Program} {t : TypeId} {fs : Array Field} {α : Type} {d : Kd α} {good : α → Prop} (ht : P.underlying t = some (.struct fs)) (hc : P.cellsOf t = d.sz) (h : OpensF P fs.toList 0 d good) : Opens P t d good := by
  intro fuel H enc w cs x hx hs
  obtain ⟨xs, n, _, rfl, hl, hlen, hf⟩ := DataW.trod_struct ht hx
  rw [show ((DataW.agg (xs.map (·.1)), xs.flatMap (·.2)) : DataW H × List MemPlace).1 = DataW.agg (xs.map (·.1)) from rfl, DataW.weights, ht] at hs
  obtain ⟨y, hy, hg⟩ := h n enc w cs xs (by rw [hlen, Array.length_toList]) (fun j f hj => hf j f (by rw [← Array.getElem?_toList]; exact hj)) hs
  rw [List.drop_zero, List.take_of_length_le (by omega)] at hy
  exact ⟨y, hy, hg⟩
theorem opens_iso {P : Program} {t : TypeId} {α β : Type} {d : Kd α} {good : α → Prop} {f : β → α} (mk : α → β) (hmk : ∀ a, f (mk a) = a) (h : Opens P t d good) : Opens P t (Kd.iso d f) (fun b => good (f b)) := by
  intro fuel H enc w cs x hx hs
  obtain ⟨y, hy, hg⟩ := h fuel enc w cs x hx hs
  exact ⟨mk y, (by show d.K w (f (mk y)) cs; rw [hmk]; exact hy), (by show good (f (mk y)); rw [hmk]; exact hg)⟩
theorem opens_at {P : Program} {t : TypeId} {α : Type} {d : Kd α} {good : α → Prop} (h : Opens P t d good) {H : Type} {enc : TypeId × Value → H} {w : World} {v : Value} {x : DataW H} {p : List MemPlace} (ht : DataW.Trod enc P w 0 (fun _ => true) true t v x p)
    {ts : List TypeId} {ds : List (DataW H)} (hsz : (DataW.weightsEach P ts ds).all (· ≤ reachBytes) = true) {j : Nat} (hj : ts[j]? = some t) (hd : ds[j]? = some x) : ∃ y, d.K w y v.cells.toList ∧ good y := by
  obtain ⟨fuel, hf⟩ := ht
  refine h fuel enc w _ _ hf (fun n hn => ?_)
  have := List.all_eq_true.1 hsz n (DataW.weights_mem_each hj hd n hn)
  simpa using this
end Go.Proofs.YtppmcbkcohiodaaW.PrintWords
