-- written by a turned copy of the printer (wip/patchprint.py) for this claim: no row of the kit's own printer
import Derived.Test.YtinoabkfekomcaaPAskSizesx0
import Derived.Test.YtinoabkfekomcaaPAskSizesy7
import Derived.Test.YtinoabkfekomcaaPAskSizesy8
import Derived.Test.YtinoabkfekomcaaPAskSizesy9
import Derived.Test.YtinoabkfekomcaaPAskSizesy13
namespace Go.Proofs.Ytinoabkfekomcaa.PAskSizes
open Go.RowKit Go.Proofs.YtinoabkfekomcaaW.PrintWords Go.Proofs.YtinoabkfekomcaaW.PrintLast Go.Proofs.YtinoabkfekomcaaW.PrintMore
attribute [local go_sem] read_m0 read_m1 read_m2 read_look max2_int min2_int max_two min_two max_three min_three max_four min_four   -- for this text's walks alone
set_option linter.unusedVariables false
set_option linter.unusedSimpArgs false

/-! ### gatewardenref06_Get: function 33 -/
mutual
def gatewardenref06_Get.j0 : Nat → ByteArray → Bool → Option (Int × Int × Int × Int × Int × List Int × Int)
  | 0, _, _ => none
  | k + 1, x0, x15 => if x15 = true then (some (0, 0, 0, 0, 0, ([] : List Int), 2)) else ((gatewardenref06_read.f k x0).bind fun bt342 => (if bt342.2.2.2.2.2.2 = true then ((gatewardenref06_Formed.f k bt342.1 bt342.2.1 bt342.2.2.1 bt342.2.2.2.1 bt342.2.2.2.2.1 bt342.2.2.2.2.2.1).bind fun t352 => (gatewardenref06_Get.j1 k (!t352) bt342.1 bt342.2.1 bt342.2.2.1 bt342.2.2.2.1 bt342.2.2.2.2.1 bt342.2.2.2.2.2.1)) else (gatewardenref06_Get.j1 k true bt342.1 bt342.2.1 bt342.2.2.1 bt342.2.2.2.1 bt342.2.2.2.2.1 bt342.2.2.2.2.2.1)))
def gatewardenref06_Get.j1 : Nat → Bool → Int → Int → Int → Int → Int → List Int → Option (Int × Int × Int × Int × Int × List Int × Int)
  | 0, _, _, _, _, _, _, _ => none
  | k + 1, x28, x352000, x352001, x352002, x352003, x352004, x352005 => if x28 = true then (some (0, 0, 0, 0, 0, ([] : List Int), 4)) else ((gatewardenref06_Right.f k x352000 x352001 x352002 x352003 x352004 x352005).bind fun t353 => (if t353 = true then (some (x352000, x352001, x352002, x352003, x352004, x352005, 0)) else (some (0, 0, 0, 0, 0, ([] : List Int), 3))))
end
def gatewardenref06_Get.f (k : Nat) (a0 : ByteArray) : Option (Int × Int × Int × Int × Int × List Int × Int) := if (a0.size : Int) = 0 then (gatewardenref06_Get.j0 k a0 true) else (if 0 < (a0.size : Int) then ((gatewardenref06_Known.f (wrap64 (bt a0 0))).bind fun t341 => (gatewardenref06_Get.j0 k a0 (!t341))) else (none))
theorem gatewardenref06_Get.mono_l : ∀ k, (∀ y0 y1, LeO (gatewardenref06_Get.j0 k y0 y1) (gatewardenref06_Get.j0 (k + 1) y0 y1)) ∧ (∀ y0 y1 y2 y3 y4 y5 y6, LeO (gatewardenref06_Get.j1 k y0 y1 y2 y3 y4 y5 y6) (gatewardenref06_Get.j1 (k + 1) y0 y1 y2 y3 y4 y5 y6))
  | 0 => ⟨fun _ _ r h => by simp [gatewardenref06_Get.j0] at h, fun _ _ _ _ _ _ _ r h => by simp [gatewardenref06_Get.j1] at h⟩
  | k + 1 => by
    obtain ⟨ih0, ih1⟩ := gatewardenref06_Get.mono_l k
    refine ⟨?_, ?_⟩
    · intro y0 y1
      unfold gatewardenref06_Get.j0
      repeat' first
      | (with_reducible exact ih0 _ _)
      | (with_reducible exact ih1 _ _ _ _ _ _ _)
      | (with_reducible exact gatewardenref06_Formed.mono _ _ _ _ _ _ _)
      | (with_reducible exact gatewardenref06_Right.mono _ _ _ _ _ _ _)
      | (with_reducible exact gatewardenref06_read.mono _ _)
      | (with_reducible exact LeO.refl _)
      | (with_reducible exact LeO.none _)
      | (with_reducible refine LeO.ite ?_ ?_)
      | (with_reducible refine LeO.bind ?_ (fun _ => ?_))
      | exact ih0 _ _
      | exact ih1 _ _ _ _ _ _ _
      | exact gatewardenref06_Formed.mono _ _ _ _ _ _ _
      | exact gatewardenref06_Right.mono _ _ _ _ _ _ _
      | exact gatewardenref06_read.mono _ _
      | exact LeO.none _
      | refine LeO.ite ?_ ?_
      | refine LeO.bind ?_ (fun _ => ?_)
    · intro y0 y1 y2 y3 y4 y5 y6
      unfold gatewardenref06_Get.j1
      repeat' first
      | (with_reducible exact ih0 _ _)
      | (with_reducible exact ih1 _ _ _ _ _ _ _)
      | (with_reducible exact gatewardenref06_Formed.mono _ _ _ _ _ _ _)
      | (with_reducible exact gatewardenref06_Right.mono _ _ _ _ _ _ _)
      | (with_reducible exact gatewardenref06_read.mono _ _)
      | (with_reducible exact LeO.refl _)
      | (with_reducible exact LeO.none _)
      | (with_reducible refine LeO.ite ?_ ?_)
      | (with_reducible refine LeO.bind ?_ (fun _ => ?_))
      | exact ih0 _ _
      | exact ih1 _ _ _ _ _ _ _
      | exact gatewardenref06_Formed.mono _ _ _ _ _ _ _
      | exact gatewardenref06_Right.mono _ _ _ _ _ _ _
      | exact gatewardenref06_read.mono _ _
      | exact LeO.none _
      | refine LeO.ite ?_ ?_
      | refine LeO.bind ?_ (fun _ => ?_)
theorem gatewardenref06_Get.mono : ∀ a0 k, LeO (gatewardenref06_Get.f k a0) (gatewardenref06_Get.f (k + 1) a0) := by
  intro a0 k
  obtain ⟨ih0, ih1⟩ := gatewardenref06_Get.mono_l k
  unfold gatewardenref06_Get.f
  repeat' first
      | (with_reducible exact ih0 _ _)
      | (with_reducible exact ih1 _ _ _ _ _ _ _)
      | (with_reducible exact gatewardenref06_Formed.mono _ _ _ _ _ _ _)
      | (with_reducible exact gatewardenref06_Right.mono _ _ _ _ _ _ _)
      | (with_reducible exact gatewardenref06_read.mono _ _)
      | (with_reducible exact LeO.refl _)
      | (with_reducible exact LeO.none _)
      | (with_reducible refine LeO.ite ?_ ?_)
      | (with_reducible refine LeO.bind ?_ (fun _ => ?_))
      | exact ih0 _ _
      | exact ih1 _ _ _ _ _ _ _
      | exact gatewardenref06_Formed.mono _ _ _ _ _ _ _
      | exact gatewardenref06_Right.mono _ _ _ _ _ _ _
      | exact gatewardenref06_read.mono _ _
      | exact LeO.none _
      | refine LeO.ite ?_ ?_
      | refine LeO.bind ?_ (fun _ => ?_)
set_option maxHeartbeats 8000000 in
set_option maxRecDepth 100000 in
theorem gatewardenref06_Get.calls (k : Nat) (a0 : ByteArray) (r1 : Int) (r2 : Int) (r3 : Int) (r4 : Int) (r5 : Int) (r6 : List Int) (r7 : Int) (w : World) (h : gatewardenref06_Get.f k a0 = some (r1, r2, r3, r4, r5, r6, r7)) :
    Calls Try.prog 33 #[.string a0] w fun e w' => ∃ v5_ : Value, e = .returned (.tuple #[.agg #[.int .i64 r1, .int .i64 r2, .int .i64 r3, .int .i64 r4, .int .i64 r5, v5_], .int .i64 r7]) ∧ Kd.R (Kd.int .i64) 3 w' w.heap.size (fun _ => True) v5_ r6 ∧ Below w.heap.size w w' := by
  have hu24 := Try.underlying24
  have HB := Aside0.mk (Below.refl w.heap.size w)
  have H : (if (a0.size : Int) = 0 then (gatewardenref06_Get.j0 k a0 true) else (if 0 < (a0.size : Int) then ((gatewardenref06_Known.f (wrap64 (bt a0 0))).bind fun t341 => (gatewardenref06_Get.j0 k a0 (!t341))) else (none))) = some (r1, r2, r3, r4, r5, r6, r7) := h
  clear h
  have HC2 := Aside0.mk H
  clear H
  go_enter Try.func33, Try.ntmps33
  go_upto_region 1 with (first | ((with_reducible refine gate_dst (N := 2) rfl ?_); refine box_event ?hg (N := 2) ?hd (cs := #[.int .i64 0, .int .i64 0, .int .i64 0, .int .i64 0, .int .i64 0, .slice none 0 0]) (t := 24) ?hr ?_; (case hd => rfl); (case hg => rfl); (case hr => first | (go_simp; done) | (go_simp; rfl)); intro gb340 hg w3 hbox hb; have n0_ := Aside0.mk (below_step (by repeat (first | (with_reducible first | exact HB.out | apply below_alloc | apply pw_below_drewN | apply below_drew1) | exact HB.out)) hb); have n1_ := Aside0.mk (hbox); have n2_ := Aside0.mk ((by rw [hg]; exact (below_size (by repeat (first | (with_reducible first | exact HB.out | apply below_alloc | apply pw_below_drewN | apply below_drew1) | exact HB.out))) : w.heap.size ≤ gb340)); have n3_ := Aside0.mk ((by rw [hg]; exact (below_size (by repeat (first | (with_reducible first | exact HB.out | apply below_alloc | apply pw_below_drewN | apply below_drew1) | exact HB.out))) : w.heap.size ≤ gb340)); clear HB; have HB := n0_; have BK340 := n1_; have GW340 := n2_; have GE340 := n3_; clear n0_ n1_ n2_ n3_; clear hb hbox hg))
  (try simp only [Act.put, List.setIfInBounds_toArray, List.set_cons_zero, List.set_cons_succ])
  go_cut [15] (fun v15 wc => ∃ (kq : Nat) (x15_1 : Bool), v15 = .bool x15_1 ∧ Aside0 (gatewardenref06_Get.j0 kq a0 x15_1 = some (r1, r2, r3, r4, r5, r6, r7)) ∧ Aside0 (kq ≤ k) ∧ Aside0 (wc.heap[gb340]? = some (.cells #[.int .i64 0, .int .i64 0, .int .i64 0, .int .i64 0, .int .i64 0, (.slice none 0 0)] 24 (0, 0))) ∧ Aside0 (Below w.heap.size w wc))
  case first =>
    have H := HC2.out
    clear HC2
    by_cases c4 : (a0.size : Int) = 0
    · rw [if_pos c4] at H
      have c4b0 : ((a0.size : Int) == 0) = true := beq_iff_eq.mpr c4
      have c4b1 : ((a0.size : Int) != 0) = false := bne_eq_false_iff_eq.mpr c4
      clear c4
      (first | rw [c4b0] | (simp only [i64_w, i32_w]; rw [c4b0]) | skip)
      have H' := Aside0.mk H
      clear H
      go_wp2
      go_meet
      case rel => exact ⟨_, (true), (by first | rfl | (simp; done) | (simp [*]; done)), H', ⟨by first | omega | exact Nat.le_refl _⟩, ⟨by (with_reducible repeat (first | refine blk_drewN ?_ _ | refine blk_drew ?_ | refine blk_alloc ?_ _)); exact BK340.out⟩, ⟨by repeat (first | (with_reducible first | exact HB.out | apply below_alloc | apply pw_below_drewN | apply below_drew1 | refine below_set ?_ GE340.out) | exact HB.out)⟩⟩
    · rw [if_neg c4] at H
      have c4b0 : ((a0.size : Int) == 0) = false := beq_eq_false_iff_ne.mpr c4
      have c4b1 : ((a0.size : Int) != 0) = true := bne_iff_ne.mpr c4
      (first | rw [c4b0] | (simp only [i64_w, i32_w]; rw [c4b0]) | skip)
      by_cases c5 : 0 < (a0.size : Int)
      · rw [if_pos c5] at H
        have c5b0 : decide (0 < (a0.size : Int)) = true := decide_eq_true c5
        have c5b1 : decide (0 < a0.size) = true := decide_eq_true (by omega)
        clear c5
        replace H := Option.bind_eq_some_iff.mp H
        obtain ⟨t341, A70, H⟩ := H
        replace H : (gatewardenref06_Get.j0 k a0 (!t341)) = some (r1, r2, r3, r4, r5, r6, r7) := H
        have A7 := Aside0.mk A70
        clear A70
        have H' := Aside0.mk H
        clear H
        have p6 : 0 ≤ (0 : Int) := (by omega)
        have q6 : 0 < a0.size := (by have : (0 : Int) < (a0.size : Int) := of_decide_eq_true (by first | (with_reducible assumption) | assumption); omega)
        have hx6 : ∀ h : 0 < a0.size, ((a0[0]'h).toNat : Int) = bt a0 0 := bt_at a0 0
        clear p6
        have qi6 : (0 < (a0.size : Int)) = True := eq_true (of_decide_eq_true (by first | (with_reducible assumption) | assumption))
        replace q6 := eq_true q6
        go_wp2_with (first | (go_at_call 35; (with_reducible refine (gatewardenref06_Known.calls (wrap64 (bt a0 0)) t341 _ A7.out).mono ?_); rintro e w' ⟨rfl, ⟨nd, rfl⟩⟩))
        go_meet
        case rel => exact ⟨_, (!t341), (by first | rfl | (simp; done) | (simp [*]; done)), H', ⟨by first | omega | exact Nat.le_refl _⟩, ⟨by (with_reducible repeat (first | refine blk_drewN ?_ _ | refine blk_drew ?_ | refine blk_alloc ?_ _)); exact BK340.out⟩, ⟨by repeat (first | (with_reducible first | exact HB.out | apply below_alloc | apply pw_below_drewN | apply below_drew1 | refine below_set ?_ GE340.out) | exact HB.out)⟩⟩
      · rw [if_neg c5] at H
        exact absurd H (by simp)
  case rest =>
    clear HC2
    try clear p2
    try clear c3
    try clear c4
    try clear c4b0
    try clear c4b1
    try clear c5
    try clear c5b0
    try clear c5b1
    try clear p6
    try clear q6
    try clear hx6
    try clear qi6
    try clear p6
    try clear q6
    obtain ⟨kq, x15_1, rfl, HA, HJ1, BK340, HB⟩ := hcut
    cases kq with
    | zero => exact absurd HA.out (by simp [gatewardenref06_Get.j0])
    | succ kj1 =>
      have H := HA.out
      clear HA
      simp only [gatewardenref06_Get.j0] at H
      by_cases c8 : x15_1 = true
      · subst c8
        have H1 : (some (0, 0, 0, 0, 0, ([] : List Int), 2)) = some (r1, r2, r3, r4, r5, r6, r7) := by rw [if_pos rfl] at H; exact H
        clear H
        have H := H1
        clear H1
        simp only [Option.some.injEq, Prod.mk.injEq] at H
        obtain ⟨rfl, rfl, rfl, rfl, rfl, rfl, rfl⟩ := H
        have hcz9_0 : wc.cell? ⟨gb340, 0, none⟩ = some (.int .i64 0) := (blk_cell BK340.out 0).trans rfl
        have hcz9_1 : wc.cell? ⟨gb340, 1, none⟩ = some (.int .i64 0) := (blk_cell BK340.out 1).trans rfl
        have hcz9_2 : wc.cell? ⟨gb340, 2, none⟩ = some (.int .i64 0) := (blk_cell BK340.out 2).trans rfl
        have hcz9_3 : wc.cell? ⟨gb340, 3, none⟩ = some (.int .i64 0) := (blk_cell BK340.out 3).trans rfl
        have hcz9_4 : wc.cell? ⟨gb340, 4, none⟩ = some (.int .i64 0) := (blk_cell BK340.out 4).trans rfl
        have hcz9_5 : wc.cell? ⟨gb340, 5, none⟩ = some (.slice none 0 0) := (blk_cell BK340.out 5).trans rfl
        have hfz9_0 := blk_frozen BK340.out 0
        have hfz9_1 := blk_frozen BK340.out 1
        have hfz9_2 := blk_frozen BK340.out 2
        have hfz9_3 := blk_frozen BK340.out 3
        have hfz9_4 := blk_frozen BK340.out 4
        have hfz9_5 := blk_frozen BK340.out 5
        go_wp2
        refine bodyPost_ret (results_ct rfl _ _ gb340 24 #[.int .i64 0, .int .i64 0, .int .i64 0, .int .i64 0, .int .i64 0, .slice none 0 0] (0, 0) _ rfl (by (with_reducible repeat (first | refine blk_drewN ?_ _ | refine blk_drew ?_ | refine blk_alloc ?_ _)); refine blk_put (cs := #[.int .i64 0, .int .i64 0, .int .i64 0, .int .i64 0, .int .i64 0, .slice none 0 0]) ?_ 5 _ rfl; (with_reducible repeat (first | refine blk_drewN ?_ _ | refine blk_drew ?_ | refine blk_alloc ?_ _)); refine blk_put (cs := #[.int .i64 0, .int .i64 0, .int .i64 0, .int .i64 0, .int .i64 0, .slice none 0 0]) ?_ 4 _ rfl; (with_reducible repeat (first | refine blk_drewN ?_ _ | refine blk_drew ?_ | refine blk_alloc ?_ _)); refine blk_put (cs := #[.int .i64 0, .int .i64 0, .int .i64 0, .int .i64 0, .int .i64 0, .slice none 0 0]) ?_ 3 _ rfl; (with_reducible repeat (first | refine blk_drewN ?_ _ | refine blk_drew ?_ | refine blk_alloc ?_ _)); refine blk_put (cs := #[.int .i64 0, .int .i64 0, .int .i64 0, .int .i64 0, .int .i64 0, .slice none 0 0]) ?_ 2 _ rfl; (with_reducible repeat (first | refine blk_drewN ?_ _ | refine blk_drew ?_ | refine blk_alloc ?_ _)); refine blk_put (cs := #[.int .i64 0, .int .i64 0, .int .i64 0, .int .i64 0, .int .i64 0, .slice none 0 0]) ?_ 1 _ rfl; (with_reducible repeat (first | refine blk_drewN ?_ _ | refine blk_drew ?_ | refine blk_alloc ?_ _)); refine blk_put (cs := #[.int .i64 0, .int .i64 0, .int .i64 0, .int .i64 0, .int .i64 0, .slice none 0 0]) ?_ 0 _ rfl; (with_reducible repeat (first | refine blk_drewN ?_ _ | refine blk_drew ?_ | refine blk_alloc ?_ _)); exact BK340.out) Try.underlying24 rfl (by kernel_rfl)) rfl ?_
        exact ⟨_, by first | rfl | (simp [errW_none, errW_some] <;> rfl) | (simp [*, errW_none, errW_some] <;> rfl), by first | exact Kd.R_nil _ _ _ _ _ | exact Kd.N_nil _ _ _ _ _ | exact Kd.V_nil _ _ _ _ _ | exact Kd.Q_nil _ _ _ _ _ | exact Kd.S_nil _ _ _ _ _, by repeat (first | (with_reducible first | exact HB.out | apply below_alloc | apply pw_below_drewN | apply below_drew1 | refine below_set ?_ GE340.out) | exact HB.out)⟩
      · replace c8 := Bool.eq_false_iff.mpr c8
        subst c8
        have H1 : ((gatewardenref06_read.f kj1 a0).bind fun bt342 => (if bt342.2.2.2.2.2.2 = true then ((gatewardenref06_Formed.f kj1 bt342.1 bt342.2.1 bt342.2.2.1 bt342.2.2.2.1 bt342.2.2.2.2.1 bt342.2.2.2.2.2.1).bind fun t352 => (gatewardenref06_Get.j1 kj1 (!t352) bt342.1 bt342.2.1 bt342.2.2.1 bt342.2.2.2.1 bt342.2.2.2.2.1 bt342.2.2.2.2.2.1)) else (gatewardenref06_Get.j1 kj1 true bt342.1 bt342.2.1 bt342.2.2.1 bt342.2.2.2.1 bt342.2.2.2.2.1 bt342.2.2.2.2.2.1))) = some (r1, r2, r3, r4, r5, r6, r7) := by rw [if_neg (show ¬ (false = true) by decide)] at H; exact H
        clear H
        have H := H1
        clear H1
        replace H := Option.bind_eq_some_iff.mp H
        obtain ⟨⟨t342, t343, t344, t345, t346, t347, t350⟩, A100, H⟩ := H
        replace H : (if t350 = true then ((gatewardenref06_Formed.f kj1 t342 t343 t344 t345 t346 t347).bind fun t352 => (gatewardenref06_Get.j1 kj1 (!t352) t342 t343 t344 t345 t346 t347)) else (gatewardenref06_Get.j1 kj1 true t342 t343 t344 t345 t346 t347)) = some (r1, r2, r3, r4, r5, r6, r7) := H
        have A10 := Aside0.mk A100
        clear A100
        have HC11 := Aside0.mk H
        clear H
        go_upto_region 4 with (first | ((with_reducible refine gate_callee (f := 64) rfl ?_); refine goesL_ (some 19) rfl rfl Try.func64 (by kernel_rfl) rfl #[.string a0] rfl (by (try simp only [List.map_toArray, List.map_cons, List.map_nil]); first | done | rfl | (simp only [List.length_drop, List.length_take]; rfl)) ?_; (with_reducible refine (gatewardenref06_read.calls kj1 a0 t342 t343 t344 t345 t346 t347 t350 _ A10.out).mono ?_); rintro e w12 ⟨v348, rfl, ho0, hb⟩; refine ⟨_, rfl, ?_⟩; have n0_ := Aside0.mk (Kd.R_lower ho0 (below_size (by repeat (first | (with_reducible first | exact HB.out | apply below_alloc | apply pw_below_drewN | apply below_drew1 | refine below_set ?_ GE340.out) | exact HB.out)))); have n1_ := Aside0.mk (blk_below (g := gb340) (o := .cells #[.int .i64 0, .int .i64 0, .int .i64 0, .int .i64 0, .int .i64 0, .slice none 0 0] 24 (0, 0)) (by (with_reducible repeat (first | refine blk_drewN ?_ _ | refine blk_drew ?_ | refine blk_alloc ?_ _)); exact BK340.out) hb); have n2_ := Aside0.mk (below_step (by repeat (first | (with_reducible first | exact HB.out | apply below_alloc | apply pw_below_drewN | apply below_drew1 | refine below_set ?_ GE340.out) | exact HB.out)) hb); clear BK340; clear HB; have HO349 := n0_; have BK340 := n1_; have HB := n2_; clear n0_ n1_ n2_; (try clear hb); (try clear hb2); (try clear hk); (try clear hi); (try clear ho0)) | ((with_reducible refine gate_dst (N := 4) rfl ?_); refine box_event ?hg (N := 4) ?hd (cs := #[.int .i64 0, .int .i64 0, .int .i64 0, .int .i64 0, .int .i64 0, .slice none 0 0]) (t := 24) ?hr ?_; (case hd => rfl); (case hg => rfl); (case hr => first | (go_simp; done) | (go_simp; rfl)); intro gb351 hg w13 hbox hb; have n0_ := Aside0.mk (Kd.R_below (by (with_reducible repeat (first | apply Kd.R_alloc | apply Kd.R_drewN | apply Kd.R_drew)); exact HO349.out) hb); have n1_ := Aside0.mk (blk_below (g := gb340) (o := .cells #[.int .i64 0, .int .i64 0, .int .i64 0, .int .i64 0, .int .i64 0, .slice none 0 0] 24 (0, 0)) (by (with_reducible repeat (first | refine blk_drewN ?_ _ | refine blk_drew ?_ | refine blk_alloc ?_ _)); exact BK340.out) hb); have n2_ := Aside0.mk (below_step (by repeat (first | (with_reducible first | exact HB.out | apply below_alloc | apply pw_below_drewN | apply below_drew1 | refine below_set ?_ GE340.out) | exact HB.out)) hb); have n3_ := Aside0.mk (hbox); have n4_ := Aside0.mk ((by rw [hg]; exact (below_size (by repeat (first | (with_reducible first | exact HB.out | apply below_alloc | apply pw_below_drewN | apply below_drew1 | refine below_set ?_ GE340.out) | exact HB.out))) : w.heap.size ≤ gb351)); have n5_ := Aside0.mk ((by rw [hg]; exact (below_size (by repeat (first | (with_reducible first | exact HB.out | apply below_alloc | apply pw_below_drewN | apply below_drew1 | refine below_set ?_ GE340.out) | exact HB.out))) : w.heap.size ≤ gb351)); have n6_ := Aside0.mk ((by rw [hg]; exact Nat.ne_of_lt (blk_lt (g := gb340) (o := .cells #[.int .i64 0, .int .i64 0, .int .i64 0, .int .i64 0, .int .i64 0, .slice none 0 0] 24 (0, 0)) (by (with_reducible repeat (first | refine blk_drewN ?_ _ | refine blk_drew ?_ | refine blk_alloc ?_ _)); exact BK340.out)) : gb340 ≠ gb351)); have n7_ := Aside0.mk ((by rw [hg]; exact Nat.ne_of_gt (blk_lt (g := gb340) (o := .cells #[.int .i64 0, .int .i64 0, .int .i64 0, .int .i64 0, .int .i64 0, .slice none 0 0] 24 (0, 0)) (by (with_reducible repeat (first | refine blk_drewN ?_ _ | refine blk_drew ?_ | refine blk_alloc ?_ _)); exact BK340.out)) : gb351 ≠ gb340)); clear HO349; clear BK340; clear HB; have HO349 := n0_; have BK340 := n1_; have HB := n2_; have BK351 := n3_; have GW351 := n4_; have GE351 := n5_; have NB340_351 := n6_; have NB351_340 := n7_; clear n0_ n1_ n2_ n3_ n4_ n5_ n6_ n7_; clear hb hbox hg; have hnb14 := NB351_340.out; have hnc14 := NB340_351.out; have hcz15_0 : w13.cell? ⟨gb351, 0, none⟩ = some (.int .i64 0) := (blk_cell BK351.out 0).trans rfl; have hcz15_1 : w13.cell? ⟨gb351, 1, none⟩ = some (.int .i64 0) := (blk_cell BK351.out 1).trans rfl; have hcz15_2 : w13.cell? ⟨gb351, 2, none⟩ = some (.int .i64 0) := (blk_cell BK351.out 2).trans rfl; have hcz15_3 : w13.cell? ⟨gb351, 3, none⟩ = some (.int .i64 0) := (blk_cell BK351.out 3).trans rfl; have hcz15_4 : w13.cell? ⟨gb351, 4, none⟩ = some (.int .i64 0) := (blk_cell BK351.out 4).trans rfl; have hcz15_5 : w13.cell? ⟨gb351, 5, none⟩ = some (.slice none 0 0) := (blk_cell BK351.out 5).trans rfl; have hfz15_0 := blk_frozen BK351.out 0; have hfz15_1 := blk_frozen BK351.out 1; have hfz15_2 := blk_frozen BK351.out 2; have hfz15_3 := blk_frozen BK351.out 3; have hfz15_4 := blk_frozen BK351.out 4; have hfz15_5 := blk_frozen BK351.out 5; obtain ⟨Ao16, co16, eo16⟩ := Kd.R_slice HO349.out; subst eo16))
        (try simp only [Act.put, List.setIfInBounds_toArray, List.set_cons_zero, List.set_cons_succ])
        go_cut [28] (fun v28 wc => ∃ (kq : Nat) (x28_10 : Bool), v28 = .bool x28_10 ∧ Aside0 (gatewardenref06_Get.j1 kq x28_10 t342 t343 t344 t345 t346 t347 = some (r1, r2, r3, r4, r5, r6, r7)) ∧ Aside0 (kq ≤ kj1) ∧ Aside0 (Kd.R (Kd.int .i64) 3 wc w.heap.size (fun _ => True) (.slice Ao16 t347.length co16) t347) ∧ Aside0 (wc.heap[gb340]? = some (.cells #[.int .i64 0, .int .i64 0, .int .i64 0, .int .i64 0, .int .i64 0, (.slice none 0 0)] 24 (0, 0))) ∧ Aside0 (wc.heap[gb351]? = some (.cells #[.int .i64 t342, .int .i64 t343, .int .i64 t344, .int .i64 t345, .int .i64 t346, (.slice Ao16 t347.length co16)] 24 (0, 0))) ∧ Aside0 (Below w.heap.size w wc))
        case first =>
          have H := HC11.out
          clear HC11
          by_cases c17 : t350 = true
          · subst c17
            have H1 : ((gatewardenref06_Formed.f kj1 t342 t343 t344 t345 t346 t347).bind fun t352 => (gatewardenref06_Get.j1 kj1 (!t352) t342 t343 t344 t345 t346 t347)) = some (r1, r2, r3, r4, r5, r6, r7) := by rw [if_pos rfl] at H; exact H
            clear H
            have H := H1
            clear H1
            replace H := Option.bind_eq_some_iff.mp H
            obtain ⟨t352, A180, H⟩ := H
            replace H : (gatewardenref06_Get.j1 kj1 (!t352) t342 t343 t344 t345 t346 t347) = some (r1, r2, r3, r4, r5, r6, r7) := H
            have A18 := Aside0.mk A180
            clear A180
            have H' := Aside0.mk H
            clear H
            have hnb19 := NB351_340.out
            have hnc19 := NB340_351.out
            have hcz20_0 : w13.cell? ⟨gb351, 0, none⟩ = some (.int .i64 0) := (blk_cell BK351.out 0).trans rfl
            have hcz20_1 : w13.cell? ⟨gb351, 1, none⟩ = some (.int .i64 0) := (blk_cell BK351.out 1).trans rfl
            have hcz20_2 : w13.cell? ⟨gb351, 2, none⟩ = some (.int .i64 0) := (blk_cell BK351.out 2).trans rfl
            have hcz20_3 : w13.cell? ⟨gb351, 3, none⟩ = some (.int .i64 0) := (blk_cell BK351.out 3).trans rfl
            have hcz20_4 : w13.cell? ⟨gb351, 4, none⟩ = some (.int .i64 0) := (blk_cell BK351.out 4).trans rfl
            have hcz20_5 : w13.cell? ⟨gb351, 5, none⟩ = some (.slice none 0 0) := (blk_cell BK351.out 5).trans rfl
            have hfz20_0 := blk_frozen BK351.out 0
            have hfz20_1 := blk_frozen BK351.out 1
            have hfz20_2 := blk_frozen BK351.out 2
            have hfz20_3 := blk_frozen BK351.out 3
            have hfz20_4 := blk_frozen BK351.out 4
            have hfz20_5 := blk_frozen BK351.out 5
            go_wp2_with (first | (go_at_call 60; (with_reducible refine (gatewardenref06_Formed.calls kj1 t342 t343 t344 t345 t346 _ _ t347 t352 _ ?side1 ?side2 A18.out).mono ?_); (case side1 => refine (Kd.R_reads' (e := 3) (base := w.heap.size) (ok := fun k_ => True) (n := t347.length) (c := co16) ?_).2.2; exact (by (with_reducible repeat (first | apply Kd.R_alloc | apply Kd.R_drewN | apply Kd.R_drew)); exact (Kd.R_mono (Kd.R_far (p := ⟨gb351, 5, none⟩) (Kd.R_far (p := ⟨gb351, 4, none⟩) (Kd.R_far (p := ⟨gb351, 3, none⟩) (Kd.R_far (p := ⟨gb351, 2, none⟩) (Kd.R_far (p := ⟨gb351, 1, none⟩) (Kd.R_far (p := ⟨gb351, 0, none⟩) (Kd.R_types HO349.out BK351.out (by decide)) (fun _ hk => hk.2) (.int .i64 t342)) (fun _ hk => hk.2) (.int .i64 t343)) (fun _ hk => hk.2) (.int .i64 t344)) (fun _ hk => hk.2) (.int .i64 t345)) (fun _ hk => hk.2) (.int .i64 t346)) (fun _ hk => hk.2) (.slice Ao16 t347.length co16)) (fun _ h_ => h_.1)))); (case side2 => exact (Kd.R_reads' HO349.out).2.1); rintro e w21 ⟨rfl, hb⟩; have n0_ := Aside0.mk (Kd.R_below (by (with_reducible repeat (first | apply Kd.R_alloc | apply Kd.R_drewN | apply Kd.R_drew)); exact (Kd.R_mono (Kd.R_far (p := ⟨gb351, 5, none⟩) (Kd.R_far (p := ⟨gb351, 4, none⟩) (Kd.R_far (p := ⟨gb351, 3, none⟩) (Kd.R_far (p := ⟨gb351, 2, none⟩) (Kd.R_far (p := ⟨gb351, 1, none⟩) (Kd.R_far (p := ⟨gb351, 0, none⟩) (Kd.R_types HO349.out BK351.out (by decide)) (fun _ hk => hk.2) (.int .i64 t342)) (fun _ hk => hk.2) (.int .i64 t343)) (fun _ hk => hk.2) (.int .i64 t344)) (fun _ hk => hk.2) (.int .i64 t345)) (fun _ hk => hk.2) (.int .i64 t346)) (fun _ hk => hk.2) (.slice Ao16 t347.length co16)) (fun _ h_ => h_.1))) hb); have n1_ := Aside0.mk (blk_below (g := gb340) (o := .cells #[.int .i64 0, .int .i64 0, .int .i64 0, .int .i64 0, .int .i64 0, .slice none 0 0] 24 (0, 0)) (by (with_reducible repeat (first | refine blk_drewN ?_ _ | refine blk_drew ?_ | refine blk_alloc ?_ _)); refine blk_far ?_ NB340_351.out _; (with_reducible repeat (first | refine blk_drewN ?_ _ | refine blk_drew ?_ | refine blk_alloc ?_ _)); refine blk_far ?_ NB340_351.out _; (with_reducible repeat (first | refine blk_drewN ?_ _ | refine blk_drew ?_ | refine blk_alloc ?_ _)); refine blk_far ?_ NB340_351.out _; (with_reducible repeat (first | refine blk_drewN ?_ _ | refine blk_drew ?_ | refine blk_alloc ?_ _)); refine blk_far ?_ NB340_351.out _; (with_reducible repeat (first | refine blk_drewN ?_ _ | refine blk_drew ?_ | refine blk_alloc ?_ _)); refine blk_far ?_ NB340_351.out _; (with_reducible repeat (first | refine blk_drewN ?_ _ | refine blk_drew ?_ | refine blk_alloc ?_ _)); refine blk_far ?_ NB340_351.out _; (with_reducible repeat (first | refine blk_drewN ?_ _ | refine blk_drew ?_ | refine blk_alloc ?_ _)); exact BK340.out) hb); have n2_ := Aside0.mk (blk_below (g := gb351) (o := .cells #[.int .i64 t342, .int .i64 t343, .int .i64 t344, .int .i64 t345, .int .i64 t346, .slice Ao16 t347.length co16] 24 (0, 0)) (by (with_reducible repeat (first | refine blk_drewN ?_ _ | refine blk_drew ?_ | refine blk_alloc ?_ _)); refine blk_put (cs := #[.int .i64 t342, .int .i64 t343, .int .i64 t344, .int .i64 t345, .int .i64 t346, .slice none 0 0]) ?_ 5 _ rfl; (with_reducible repeat (first | refine blk_drewN ?_ _ | refine blk_drew ?_ | refine blk_alloc ?_ _)); refine blk_put (cs := #[.int .i64 t342, .int .i64 t343, .int .i64 t344, .int .i64 t345, .int .i64 0, .slice none 0 0]) ?_ 4 _ rfl; (with_reducible repeat (first | refine blk_drewN ?_ _ | refine blk_drew ?_ | refine blk_alloc ?_ _)); refine blk_put (cs := #[.int .i64 t342, .int .i64 t343, .int .i64 t344, .int .i64 0, .int .i64 0, .slice none 0 0]) ?_ 3 _ rfl; (with_reducible repeat (first | refine blk_drewN ?_ _ | refine blk_drew ?_ | refine blk_alloc ?_ _)); refine blk_put (cs := #[.int .i64 t342, .int .i64 t343, .int .i64 0, .int .i64 0, .int .i64 0, .slice none 0 0]) ?_ 2 _ rfl; (with_reducible repeat (first | refine blk_drewN ?_ _ | refine blk_drew ?_ | refine blk_alloc ?_ _)); refine blk_put (cs := #[.int .i64 t342, .int .i64 0, .int .i64 0, .int .i64 0, .int .i64 0, .slice none 0 0]) ?_ 1 _ rfl; (with_reducible repeat (first | refine blk_drewN ?_ _ | refine blk_drew ?_ | refine blk_alloc ?_ _)); refine blk_put (cs := #[.int .i64 0, .int .i64 0, .int .i64 0, .int .i64 0, .int .i64 0, .slice none 0 0]) ?_ 0 _ rfl; (with_reducible repeat (first | refine blk_drewN ?_ _ | refine blk_drew ?_ | refine blk_alloc ?_ _)); exact BK351.out) hb); have n3_ := Aside0.mk (below_step (by repeat (first | (with_reducible first | exact HB.out | apply below_alloc | apply pw_below_drewN | apply below_drew1 | refine below_set ?_ GE340.out | refine below_set ?_ GE351.out) | exact HB.out)) hb); clear HO349; clear BK340; clear BK351; clear HB; have HO349 := n0_; have BK340 := n1_; have BK351 := n2_; have HB := n3_; clear n0_ n1_ n2_ n3_; (try clear hb); (try clear hb2); (try clear hk); (try clear hi)))
            go_meet
            case rel => exact ⟨_, (!t352), (by first | rfl | (simp; done) | (simp [*]; done)), H', ⟨by have := HJ1.out; first | omega | exact Nat.le_refl _⟩, ⟨by (with_reducible repeat (first | apply Kd.R_alloc | apply Kd.R_drewN | apply Kd.R_drew)); exact HO349.out⟩, ⟨by (with_reducible repeat (first | refine blk_drewN ?_ _ | refine blk_drew ?_ | refine blk_alloc ?_ _)); exact BK340.out⟩, ⟨by (with_reducible repeat (first | refine blk_drewN ?_ _ | refine blk_drew ?_ | refine blk_alloc ?_ _)); exact BK351.out⟩, ⟨by repeat (first | (with_reducible first | exact HB.out | apply below_alloc | apply pw_below_drewN | apply below_drew1 | refine below_set ?_ GE340.out | refine below_set ?_ GE351.out) | exact HB.out)⟩⟩
          · replace c17 := Bool.eq_false_iff.mpr c17
            subst c17
            have H1 : (gatewardenref06_Get.j1 kj1 true t342 t343 t344 t345 t346 t347) = some (r1, r2, r3, r4, r5, r6, r7) := by rw [if_neg (show ¬ (false = true) by decide)] at H; exact H
            clear H
            have H := H1
            clear H1
            have H' := Aside0.mk H
            clear H
            go_wp2
            go_meet
            case rel => exact ⟨_, (true), (by first | rfl | (simp; done) | (simp [*]; done)), H', ⟨by have := HJ1.out; first | omega | exact Nat.le_refl _⟩, ⟨by (with_reducible repeat (first | apply Kd.R_alloc | apply Kd.R_drewN | apply Kd.R_drew)); exact Kd.R_mono (Kd.R_far (p := ⟨gb351, 5, none⟩) (Kd.R_far (p := ⟨gb351, 4, none⟩) (Kd.R_far (p := ⟨gb351, 3, none⟩) (Kd.R_far (p := ⟨gb351, 2, none⟩) (Kd.R_far (p := ⟨gb351, 1, none⟩) (Kd.R_far (p := ⟨gb351, 0, none⟩) (Kd.R_types HO349.out BK351.out (by decide)) (fun _ hk => hk.2) (.int .i64 t342)) (fun _ hk => hk.2) (.int .i64 t343)) (fun _ hk => hk.2) (.int .i64 t344)) (fun _ hk => hk.2) (.int .i64 t345)) (fun _ hk => hk.2) (.int .i64 t346)) (fun _ hk => hk.2) (.slice Ao16 t347.length co16)) (fun _ hk => trivial)⟩, ⟨by (with_reducible repeat (first | refine blk_drewN ?_ _ | refine blk_drew ?_ | refine blk_alloc ?_ _)); refine blk_far ?_ NB340_351.out _; (with_reducible repeat (first | refine blk_drewN ?_ _ | refine blk_drew ?_ | refine blk_alloc ?_ _)); refine blk_far ?_ NB340_351.out _; (with_reducible repeat (first | refine blk_drewN ?_ _ | refine blk_drew ?_ | refine blk_alloc ?_ _)); refine blk_far ?_ NB340_351.out _; (with_reducible repeat (first | refine blk_drewN ?_ _ | refine blk_drew ?_ | refine blk_alloc ?_ _)); refine blk_far ?_ NB340_351.out _; (with_reducible repeat (first | refine blk_drewN ?_ _ | refine blk_drew ?_ | refine blk_alloc ?_ _)); refine blk_far ?_ NB340_351.out _; (with_reducible repeat (first | refine blk_drewN ?_ _ | refine blk_drew ?_ | refine blk_alloc ?_ _)); refine blk_far ?_ NB340_351.out _; (with_reducible repeat (first | refine blk_drewN ?_ _ | refine blk_drew ?_ | refine blk_alloc ?_ _)); exact BK340.out⟩, ⟨by (with_reducible repeat (first | refine blk_drewN ?_ _ | refine blk_drew ?_ | refine blk_alloc ?_ _)); refine blk_put (cs := #[.int .i64 t342, .int .i64 t343, .int .i64 t344, .int .i64 t345, .int .i64 t346, .slice none 0 0]) ?_ 5 _ rfl; (with_reducible repeat (first | refine blk_drewN ?_ _ | refine blk_drew ?_ | refine blk_alloc ?_ _)); refine blk_put (cs := #[.int .i64 t342, .int .i64 t343, .int .i64 t344, .int .i64 t345, .int .i64 0, .slice none 0 0]) ?_ 4 _ rfl; (with_reducible repeat (first | refine blk_drewN ?_ _ | refine blk_drew ?_ | refine blk_alloc ?_ _)); refine blk_put (cs := #[.int .i64 t342, .int .i64 t343, .int .i64 t344, .int .i64 0, .int .i64 0, .slice none 0 0]) ?_ 3 _ rfl; (with_reducible repeat (first | refine blk_drewN ?_ _ | refine blk_drew ?_ | refine blk_alloc ?_ _)); refine blk_put (cs := #[.int .i64 t342, .int .i64 t343, .int .i64 0, .int .i64 0, .int .i64 0, .slice none 0 0]) ?_ 2 _ rfl; (with_reducible repeat (first | refine blk_drewN ?_ _ | refine blk_drew ?_ | refine blk_alloc ?_ _)); refine blk_put (cs := #[.int .i64 t342, .int .i64 0, .int .i64 0, .int .i64 0, .int .i64 0, .slice none 0 0]) ?_ 1 _ rfl; (with_reducible repeat (first | refine blk_drewN ?_ _ | refine blk_drew ?_ | refine blk_alloc ?_ _)); refine blk_put (cs := #[.int .i64 0, .int .i64 0, .int .i64 0, .int .i64 0, .int .i64 0, .slice none 0 0]) ?_ 0 _ rfl; (with_reducible repeat (first | refine blk_drewN ?_ _ | refine blk_drew ?_ | refine blk_alloc ?_ _)); exact BK351.out⟩, ⟨by repeat (first | (with_reducible first | exact HB.out | apply below_alloc | apply pw_below_drewN | apply below_drew1 | refine below_set ?_ GE340.out | refine below_set ?_ GE351.out) | exact HB.out)⟩⟩
        case rest =>
          clear HC11
          try clear c1
          try clear p2
          try clear c3
          try clear c4
          try clear c4b0
          try clear c4b1
          try clear c5
          try clear c5b0
          try clear c5b1
          try clear c6
          try clear p6
          try clear q6
          try clear hx6
          try clear qi6
          try clear c8
          try clear c14
          try clear c17
          try clear c19
          try clear hcz15_0
          try clear hcz15_1
          try clear hcz15_2
          try clear hcz15_3
          try clear hcz15_4
          try clear hcz15_5
          try clear hcz20_0
          try clear hcz20_1
          try clear hcz20_2
          try clear hcz20_3
          try clear hcz20_4
          try clear hcz20_5
          try clear hcz9_0
          try clear hcz9_1
          try clear hcz9_2
          try clear hcz9_3
          try clear hcz9_4
          try clear hcz9_5
          try clear hfz15_0
          try clear hfz15_1
          try clear hfz15_2
          try clear hfz15_3
          try clear hfz15_4
          try clear hfz15_5
          try clear hfz20_0
          try clear hfz20_1
          try clear hfz20_2
          try clear hfz20_3
          try clear hfz20_4
          try clear hfz20_5
          try clear hfz9_0
          try clear hfz9_1
          try clear hfz9_2
          try clear hfz9_3
          try clear hfz9_4
          try clear hfz9_5
          try clear p2
          try clear p6
          try clear q6
          obtain ⟨kq, x28_10, rfl, HA, HJ10, HO_352005, BK340, BK351, HB⟩ := hcut
          cases kq with
          | zero => exact absurd HA.out (by simp [gatewardenref06_Get.j1])
          | succ kj10 =>
            have H := HA.out
            clear HA
            simp only [gatewardenref06_Get.j1] at H
            by_cases c22 : x28_10 = true
            · subst c22
              have H1 : (some (0, 0, 0, 0, 0, ([] : List Int), 4)) = some (r1, r2, r3, r4, r5, r6, r7) := by rw [if_pos rfl] at H; exact H
              clear H
              have H := H1
              clear H1
              simp only [Option.some.injEq, Prod.mk.injEq] at H
              obtain ⟨rfl, rfl, rfl, rfl, rfl, rfl, rfl⟩ := H
              have hnb23 := NB340_351.out
              have hnc23 := NB351_340.out
              have hcz24_0 : wc.cell? ⟨gb340, 0, none⟩ = some (.int .i64 0) := (blk_cell BK340.out 0).trans rfl
              have hcz24_1 : wc.cell? ⟨gb340, 1, none⟩ = some (.int .i64 0) := (blk_cell BK340.out 1).trans rfl
              have hcz24_2 : wc.cell? ⟨gb340, 2, none⟩ = some (.int .i64 0) := (blk_cell BK340.out 2).trans rfl
              have hcz24_3 : wc.cell? ⟨gb340, 3, none⟩ = some (.int .i64 0) := (blk_cell BK340.out 3).trans rfl
              have hcz24_4 : wc.cell? ⟨gb340, 4, none⟩ = some (.int .i64 0) := (blk_cell BK340.out 4).trans rfl
              have hcz24_5 : wc.cell? ⟨gb340, 5, none⟩ = some (.slice none 0 0) := (blk_cell BK340.out 5).trans rfl
              have hfz24_0 := blk_frozen BK340.out 0
              have hfz24_1 := blk_frozen BK340.out 1
              have hfz24_2 := blk_frozen BK340.out 2
              have hfz24_3 := blk_frozen BK340.out 3
              have hfz24_4 := blk_frozen BK340.out 4
              have hfz24_5 := blk_frozen BK340.out 5
              go_wp2
              refine bodyPost_ret (results_ct rfl _ _ gb340 24 #[.int .i64 0, .int .i64 0, .int .i64 0, .int .i64 0, .int .i64 0, .slice none 0 0] (0, 0) _ rfl (by (with_reducible repeat (first | refine blk_drewN ?_ _ | refine blk_drew ?_ | refine blk_alloc ?_ _)); refine blk_put (cs := #[.int .i64 0, .int .i64 0, .int .i64 0, .int .i64 0, .int .i64 0, .slice none 0 0]) ?_ 5 _ rfl; (with_reducible repeat (first | refine blk_drewN ?_ _ | refine blk_drew ?_ | refine blk_alloc ?_ _)); refine blk_put (cs := #[.int .i64 0, .int .i64 0, .int .i64 0, .int .i64 0, .int .i64 0, .slice none 0 0]) ?_ 4 _ rfl; (with_reducible repeat (first | refine blk_drewN ?_ _ | refine blk_drew ?_ | refine blk_alloc ?_ _)); refine blk_put (cs := #[.int .i64 0, .int .i64 0, .int .i64 0, .int .i64 0, .int .i64 0, .slice none 0 0]) ?_ 3 _ rfl; (with_reducible repeat (first | refine blk_drewN ?_ _ | refine blk_drew ?_ | refine blk_alloc ?_ _)); refine blk_put (cs := #[.int .i64 0, .int .i64 0, .int .i64 0, .int .i64 0, .int .i64 0, .slice none 0 0]) ?_ 2 _ rfl; (with_reducible repeat (first | refine blk_drewN ?_ _ | refine blk_drew ?_ | refine blk_alloc ?_ _)); refine blk_put (cs := #[.int .i64 0, .int .i64 0, .int .i64 0, .int .i64 0, .int .i64 0, .slice none 0 0]) ?_ 1 _ rfl; (with_reducible repeat (first | refine blk_drewN ?_ _ | refine blk_drew ?_ | refine blk_alloc ?_ _)); refine blk_put (cs := #[.int .i64 0, .int .i64 0, .int .i64 0, .int .i64 0, .int .i64 0, .slice none 0 0]) ?_ 0 _ rfl; (with_reducible repeat (first | refine blk_drewN ?_ _ | refine blk_drew ?_ | refine blk_alloc ?_ _)); exact BK340.out) Try.underlying24 rfl (by kernel_rfl)) rfl ?_
              exact ⟨_, by first | rfl | (simp [errW_none, errW_some] <;> rfl) | (simp [*, errW_none, errW_some] <;> rfl), by first | exact Kd.R_nil _ _ _ _ _ | exact Kd.N_nil _ _ _ _ _ | exact Kd.V_nil _ _ _ _ _ | exact Kd.Q_nil _ _ _ _ _ | exact Kd.S_nil _ _ _ _ _, by repeat (first | (with_reducible first | exact HB.out | apply below_alloc | apply pw_below_drewN | apply below_drew1 | refine below_set ?_ GE340.out | refine below_set ?_ GE351.out) | exact HB.out)⟩
            · replace c22 := Bool.eq_false_iff.mpr c22
              subst c22
              have H1 : ((gatewardenref06_Right.f kj10 t342 t343 t344 t345 t346 t347).bind fun t353 => (if t353 = true then (some (t342, t343, t344, t345, t346, t347, 0)) else (some (0, 0, 0, 0, 0, ([] : List Int), 3)))) = some (r1, r2, r3, r4, r5, r6, r7) := by rw [if_neg (show ¬ (false = true) by decide)] at H; exact H
              clear H
              have H := H1
              clear H1
              replace H := Option.bind_eq_some_iff.mp H
              obtain ⟨t353, A250, H⟩ := H
              replace H : (if t353 = true then (some (t342, t343, t344, t345, t346, t347, 0)) else (some (0, 0, 0, 0, 0, ([] : List Int), 3))) = some (r1, r2, r3, r4, r5, r6, r7) := H
              have A25 := Aside0.mk A250
              clear A250
              by_cases c26 : t353 = true
              · subst c26
                have H1 : (some (t342, t343, t344, t345, t346, t347, 0)) = some (r1, r2, r3, r4, r5, r6, r7) := by rw [if_pos rfl] at H; exact H
                clear H
                have H := H1
                clear H1
                simp only [Option.some.injEq, Prod.mk.injEq] at H
                obtain ⟨rfl, rfl, rfl, rfl, rfl, rfl, rfl⟩ := H
                have hnb27 := NB351_340.out
                have hnc27 := NB340_351.out
                have hcz28_0 : wc.cell? ⟨gb351, 0, none⟩ = some (.int .i64 t342) := (blk_cell BK351.out 0).trans rfl
                have hcz28_1 : wc.cell? ⟨gb351, 1, none⟩ = some (.int .i64 t343) := (blk_cell BK351.out 1).trans rfl
                have hcz28_2 : wc.cell? ⟨gb351, 2, none⟩ = some (.int .i64 t344) := (blk_cell BK351.out 2).trans rfl
                have hcz28_3 : wc.cell? ⟨gb351, 3, none⟩ = some (.int .i64 t345) := (blk_cell BK351.out 3).trans rfl
                have hcz28_4 : wc.cell? ⟨gb351, 4, none⟩ = some (.int .i64 t346) := (blk_cell BK351.out 4).trans rfl
                have hcz28_5 : wc.cell? ⟨gb351, 5, none⟩ = some (.slice Ao16 t347.length co16) := (blk_cell BK351.out 5).trans rfl
                have hfz28_0 := blk_frozen BK351.out 0
                have hfz28_1 := blk_frozen BK351.out 1
                have hfz28_2 := blk_frozen BK351.out 2
                have hfz28_3 := blk_frozen BK351.out 3
                have hfz28_4 := blk_frozen BK351.out 4
                have hfz28_5 := blk_frozen BK351.out 5
                go_wp2_with (first | ((with_reducible refine gate_callee (f := 31) rfl ?_); refine goesL_ (some 31) rfl rfl Try.func31 (by kernel_rfl) rfl #[.agg #[.int .i64 t342, .int .i64 t343, .int .i64 t344, .int .i64 t345, .int .i64 t346, .slice Ao16 t347.length co16]] rfl (by (try simp only [List.map_toArray, List.map_cons, List.map_nil]); first | done | rfl | (simp only [List.length_drop, List.length_take]; rfl)) ?_; (with_reducible refine (gatewardenref06_Right.calls kj10 t342 t343 t344 t345 t346 _ _ t347 true _ ?side1 ?side2 A25.out).mono ?_); (case side1 => repeat (first | exact (Kd.R_reads' HO_352005.out).2.2 | (with_reducible refine Kd.C_alloc ?_ _) | (with_reducible refine Kd.C_drewN ?_ _) | (with_reducible refine Kd.C_drew ?_))); (case side2 => exact (Kd.R_reads' HO_352005.out).2.1); rintro e w29 ⟨rfl, hb⟩; refine ⟨_, rfl, ?_⟩; have n0_ := Aside0.mk (Kd.R_below (by (with_reducible repeat (first | apply Kd.R_alloc | apply Kd.R_drewN | apply Kd.R_drew)); exact HO_352005.out) hb); have n1_ := Aside0.mk (blk_below (g := gb340) (o := .cells #[.int .i64 0, .int .i64 0, .int .i64 0, .int .i64 0, .int .i64 0, .slice none 0 0] 24 (0, 0)) (by (with_reducible repeat (first | refine blk_drewN ?_ _ | refine blk_drew ?_ | refine blk_alloc ?_ _)); exact BK340.out) hb); have n2_ := Aside0.mk (blk_below (g := gb351) (o := .cells #[.int .i64 t342, .int .i64 t343, .int .i64 t344, .int .i64 t345, .int .i64 t346, .slice Ao16 t347.length co16] 24 (0, 0)) (by (with_reducible repeat (first | refine blk_drewN ?_ _ | refine blk_drew ?_ | refine blk_alloc ?_ _)); exact BK351.out) hb); have n3_ := Aside0.mk (below_step (by repeat (first | (with_reducible first | exact HB.out | apply below_alloc | apply pw_below_drewN | apply below_drew1 | refine below_set ?_ GE340.out | refine below_set ?_ GE351.out) | exact HB.out)) hb); clear HO_352005; clear BK340; clear BK351; clear HB; have HO_352005 := n0_; have BK340 := n1_; have BK351 := n2_; have HB := n3_; clear n0_ n1_ n2_ n3_; (try clear hb); (try clear hb2); (try clear hk); (try clear hi); have hcz30_0 : w29.cell? ⟨gb351, 0, none⟩ = some (.int .i64 t342) := (blk_cell BK351.out 0).trans rfl; have hcz30_1 : w29.cell? ⟨gb351, 1, none⟩ = some (.int .i64 t343) := (blk_cell BK351.out 1).trans rfl; have hcz30_2 : w29.cell? ⟨gb351, 2, none⟩ = some (.int .i64 t344) := (blk_cell BK351.out 2).trans rfl; have hcz30_3 : w29.cell? ⟨gb351, 3, none⟩ = some (.int .i64 t345) := (blk_cell BK351.out 3).trans rfl; have hcz30_4 : w29.cell? ⟨gb351, 4, none⟩ = some (.int .i64 t346) := (blk_cell BK351.out 4).trans rfl; have hcz30_5 : w29.cell? ⟨gb351, 5, none⟩ = some (.slice Ao16 t347.length co16) := (blk_cell BK351.out 5).trans rfl; have hfz30_0 := blk_frozen BK351.out 0; have hfz30_1 := blk_frozen BK351.out 1; have hfz30_2 := blk_frozen BK351.out 2; have hfz30_3 := blk_frozen BK351.out 3; have hfz30_4 := blk_frozen BK351.out 4; have hfz30_5 := blk_frozen BK351.out 5; have hcz31_0 : w29.cell? ⟨gb340, 0, none⟩ = some (.int .i64 0) := (blk_cell BK340.out 0).trans rfl; have hcz31_1 : w29.cell? ⟨gb340, 1, none⟩ = some (.int .i64 0) := (blk_cell BK340.out 1).trans rfl; have hcz31_2 : w29.cell? ⟨gb340, 2, none⟩ = some (.int .i64 0) := (blk_cell BK340.out 2).trans rfl; have hcz31_3 : w29.cell? ⟨gb340, 3, none⟩ = some (.int .i64 0) := (blk_cell BK340.out 3).trans rfl; have hcz31_4 : w29.cell? ⟨gb340, 4, none⟩ = some (.int .i64 0) := (blk_cell BK340.out 4).trans rfl; have hcz31_5 : w29.cell? ⟨gb340, 5, none⟩ = some (.slice none 0 0) := (blk_cell BK340.out 5).trans rfl; have hfz31_0 := blk_frozen BK340.out 0; have hfz31_1 := blk_frozen BK340.out 1; have hfz31_2 := blk_frozen BK340.out 2; have hfz31_3 := blk_frozen BK340.out 3; have hfz31_4 := blk_frozen BK340.out 4; have hfz31_5 := blk_frozen BK340.out 5))
                refine bodyPost_ret (results_ct rfl _ _ gb340 24 #[.int .i64 t342, .int .i64 t343, .int .i64 t344, .int .i64 t345, .int .i64 t346, .slice Ao16 t347.length co16] (0, 0) _ rfl (by (with_reducible repeat (first | refine blk_drewN ?_ _ | refine blk_drew ?_ | refine blk_alloc ?_ _)); refine blk_put (cs := #[.int .i64 t342, .int .i64 t343, .int .i64 t344, .int .i64 t345, .int .i64 t346, .slice none 0 0]) ?_ 5 _ rfl; (with_reducible repeat (first | refine blk_drewN ?_ _ | refine blk_drew ?_ | refine blk_alloc ?_ _)); refine blk_put (cs := #[.int .i64 t342, .int .i64 t343, .int .i64 t344, .int .i64 t345, .int .i64 0, .slice none 0 0]) ?_ 4 _ rfl; (with_reducible repeat (first | refine blk_drewN ?_ _ | refine blk_drew ?_ | refine blk_alloc ?_ _)); refine blk_put (cs := #[.int .i64 t342, .int .i64 t343, .int .i64 t344, .int .i64 0, .int .i64 0, .slice none 0 0]) ?_ 3 _ rfl; (with_reducible repeat (first | refine blk_drewN ?_ _ | refine blk_drew ?_ | refine blk_alloc ?_ _)); refine blk_put (cs := #[.int .i64 t342, .int .i64 t343, .int .i64 0, .int .i64 0, .int .i64 0, .slice none 0 0]) ?_ 2 _ rfl; (with_reducible repeat (first | refine blk_drewN ?_ _ | refine blk_drew ?_ | refine blk_alloc ?_ _)); refine blk_put (cs := #[.int .i64 t342, .int .i64 0, .int .i64 0, .int .i64 0, .int .i64 0, .slice none 0 0]) ?_ 1 _ rfl; (with_reducible repeat (first | refine blk_drewN ?_ _ | refine blk_drew ?_ | refine blk_alloc ?_ _)); refine blk_put (cs := #[.int .i64 0, .int .i64 0, .int .i64 0, .int .i64 0, .int .i64 0, .slice none 0 0]) ?_ 0 _ rfl; (with_reducible repeat (first | refine blk_drewN ?_ _ | refine blk_drew ?_ | refine blk_alloc ?_ _)); exact BK340.out) Try.underlying24 rfl (by kernel_rfl)) rfl ?_
                exact ⟨_, by first | rfl | (simp [errW_none, errW_some] <;> rfl) | (simp [*, errW_none, errW_some] <;> rfl), by (with_reducible repeat (first | apply Kd.R_alloc | apply Kd.R_drewN | apply Kd.R_drew)); exact Kd.R_mono (Kd.R_far (p := ⟨gb340, 5, none⟩) (Kd.R_far (p := ⟨gb340, 4, none⟩) (Kd.R_far (p := ⟨gb340, 3, none⟩) (Kd.R_far (p := ⟨gb340, 2, none⟩) (Kd.R_far (p := ⟨gb340, 1, none⟩) (Kd.R_far (p := ⟨gb340, 0, none⟩) (Kd.R_types HO_352005.out BK340.out (by decide)) (fun _ hk => hk.2) (.int .i64 t342)) (fun _ hk => hk.2) (.int .i64 t343)) (fun _ hk => hk.2) (.int .i64 t344)) (fun _ hk => hk.2) (.int .i64 t345)) (fun _ hk => hk.2) (.int .i64 t346)) (fun _ hk => hk.2) (.slice Ao16 t347.length co16)) (fun _ hk => trivial), by repeat (first | (with_reducible first | exact HB.out | apply below_alloc | apply pw_below_drewN | apply below_drew1 | refine below_set ?_ GE340.out | refine below_set ?_ GE351.out) | exact HB.out)⟩
              · replace c26 := Bool.eq_false_iff.mpr c26
                subst c26
                have H1 : (some (0, 0, 0, 0, 0, ([] : List Int), 3)) = some (r1, r2, r3, r4, r5, r6, r7) := by rw [if_neg (show ¬ (false = true) by decide)] at H; exact H
                clear H
                have H := H1
                clear H1
                simp only [Option.some.injEq, Prod.mk.injEq] at H
                obtain ⟨rfl, rfl, rfl, rfl, rfl, rfl, rfl⟩ := H
                have hnb32 := NB351_340.out
                have hnc32 := NB340_351.out
                have hcz33_0 : wc.cell? ⟨gb351, 0, none⟩ = some (.int .i64 t342) := (blk_cell BK351.out 0).trans rfl
                have hcz33_1 : wc.cell? ⟨gb351, 1, none⟩ = some (.int .i64 t343) := (blk_cell BK351.out 1).trans rfl
                have hcz33_2 : wc.cell? ⟨gb351, 2, none⟩ = some (.int .i64 t344) := (blk_cell BK351.out 2).trans rfl
                have hcz33_3 : wc.cell? ⟨gb351, 3, none⟩ = some (.int .i64 t345) := (blk_cell BK351.out 3).trans rfl
                have hcz33_4 : wc.cell? ⟨gb351, 4, none⟩ = some (.int .i64 t346) := (blk_cell BK351.out 4).trans rfl
                have hcz33_5 : wc.cell? ⟨gb351, 5, none⟩ = some (.slice Ao16 t347.length co16) := (blk_cell BK351.out 5).trans rfl
                have hfz33_0 := blk_frozen BK351.out 0
                have hfz33_1 := blk_frozen BK351.out 1
                have hfz33_2 := blk_frozen BK351.out 2
                have hfz33_3 := blk_frozen BK351.out 3
                have hfz33_4 := blk_frozen BK351.out 4
                have hfz33_5 := blk_frozen BK351.out 5
                go_wp2_with (first | ((with_reducible refine gate_callee (f := 31) rfl ?_); refine goesL_ (some 31) rfl rfl Try.func31 (by kernel_rfl) rfl #[.agg #[.int .i64 t342, .int .i64 t343, .int .i64 t344, .int .i64 t345, .int .i64 t346, .slice Ao16 t347.length co16]] rfl (by (try simp only [List.map_toArray, List.map_cons, List.map_nil]); first | done | rfl | (simp only [List.length_drop, List.length_take]; rfl)) ?_; (with_reducible refine (gatewardenref06_Right.calls kj10 t342 t343 t344 t345 t346 _ _ t347 false _ ?side1 ?side2 A25.out).mono ?_); (case side1 => repeat (first | exact (Kd.R_reads' HO_352005.out).2.2 | (with_reducible refine Kd.C_alloc ?_ _) | (with_reducible refine Kd.C_drewN ?_ _) | (with_reducible refine Kd.C_drew ?_))); (case side2 => exact (Kd.R_reads' HO_352005.out).2.1); rintro e w34 ⟨rfl, hb⟩; refine ⟨_, rfl, ?_⟩; have n0_ := Aside0.mk (Kd.R_below (by (with_reducible repeat (first | apply Kd.R_alloc | apply Kd.R_drewN | apply Kd.R_drew)); exact HO_352005.out) hb); have n1_ := Aside0.mk (blk_below (g := gb340) (o := .cells #[.int .i64 0, .int .i64 0, .int .i64 0, .int .i64 0, .int .i64 0, .slice none 0 0] 24 (0, 0)) (by (with_reducible repeat (first | refine blk_drewN ?_ _ | refine blk_drew ?_ | refine blk_alloc ?_ _)); exact BK340.out) hb); have n2_ := Aside0.mk (blk_below (g := gb351) (o := .cells #[.int .i64 t342, .int .i64 t343, .int .i64 t344, .int .i64 t345, .int .i64 t346, .slice Ao16 t347.length co16] 24 (0, 0)) (by (with_reducible repeat (first | refine blk_drewN ?_ _ | refine blk_drew ?_ | refine blk_alloc ?_ _)); exact BK351.out) hb); have n3_ := Aside0.mk (below_step (by repeat (first | (with_reducible first | exact HB.out | apply below_alloc | apply pw_below_drewN | apply below_drew1 | refine below_set ?_ GE340.out | refine below_set ?_ GE351.out) | exact HB.out)) hb); clear HO_352005; clear BK340; clear BK351; clear HB; have HO_352005 := n0_; have BK340 := n1_; have BK351 := n2_; have HB := n3_; clear n0_ n1_ n2_ n3_; (try clear hb); (try clear hb2); (try clear hk); (try clear hi); have hcz35_0 : w34.cell? ⟨gb340, 0, none⟩ = some (.int .i64 0) := (blk_cell BK340.out 0).trans rfl; have hcz35_1 : w34.cell? ⟨gb340, 1, none⟩ = some (.int .i64 0) := (blk_cell BK340.out 1).trans rfl; have hcz35_2 : w34.cell? ⟨gb340, 2, none⟩ = some (.int .i64 0) := (blk_cell BK340.out 2).trans rfl; have hcz35_3 : w34.cell? ⟨gb340, 3, none⟩ = some (.int .i64 0) := (blk_cell BK340.out 3).trans rfl; have hcz35_4 : w34.cell? ⟨gb340, 4, none⟩ = some (.int .i64 0) := (blk_cell BK340.out 4).trans rfl; have hcz35_5 : w34.cell? ⟨gb340, 5, none⟩ = some (.slice none 0 0) := (blk_cell BK340.out 5).trans rfl; have hfz35_0 := blk_frozen BK340.out 0; have hfz35_1 := blk_frozen BK340.out 1; have hfz35_2 := blk_frozen BK340.out 2; have hfz35_3 := blk_frozen BK340.out 3; have hfz35_4 := blk_frozen BK340.out 4; have hfz35_5 := blk_frozen BK340.out 5))
                refine bodyPost_ret (results_ct rfl _ _ gb340 24 #[.int .i64 0, .int .i64 0, .int .i64 0, .int .i64 0, .int .i64 0, .slice none 0 0] (0, 0) _ rfl (by (with_reducible repeat (first | refine blk_drewN ?_ _ | refine blk_drew ?_ | refine blk_alloc ?_ _)); refine blk_put (cs := #[.int .i64 0, .int .i64 0, .int .i64 0, .int .i64 0, .int .i64 0, .slice none 0 0]) ?_ 5 _ rfl; (with_reducible repeat (first | refine blk_drewN ?_ _ | refine blk_drew ?_ | refine blk_alloc ?_ _)); refine blk_put (cs := #[.int .i64 0, .int .i64 0, .int .i64 0, .int .i64 0, .int .i64 0, .slice none 0 0]) ?_ 4 _ rfl; (with_reducible repeat (first | refine blk_drewN ?_ _ | refine blk_drew ?_ | refine blk_alloc ?_ _)); refine blk_put (cs := #[.int .i64 0, .int .i64 0, .int .i64 0, .int .i64 0, .int .i64 0, .slice none 0 0]) ?_ 3 _ rfl; (with_reducible repeat (first | refine blk_drewN ?_ _ | refine blk_drew ?_ | refine blk_alloc ?_ _)); refine blk_put (cs := #[.int .i64 0, .int .i64 0, .int .i64 0, .int .i64 0, .int .i64 0, .slice none 0 0]) ?_ 2 _ rfl; (with_reducible repeat (first | refine blk_drewN ?_ _ | refine blk_drew ?_ | refine blk_alloc ?_ _)); refine blk_put (cs := #[.int .i64 0, .int .i64 0, .int .i64 0, .int .i64 0, .int .i64 0, .slice none 0 0]) ?_ 1 _ rfl; (with_reducible repeat (first | refine blk_drewN ?_ _ | refine blk_drew ?_ | refine blk_alloc ?_ _)); refine blk_put (cs := #[.int .i64 0, .int .i64 0, .int .i64 0, .int .i64 0, .int .i64 0, .slice none 0 0]) ?_ 0 _ rfl; (with_reducible repeat (first | refine blk_drewN ?_ _ | refine blk_drew ?_ | refine blk_alloc ?_ _)); exact BK340.out) Try.underlying24 rfl (by kernel_rfl)) rfl ?_
                exact ⟨_, by first | rfl | (simp [errW_none, errW_some] <;> rfl) | (simp [*, errW_none, errW_some] <;> rfl), by first | exact Kd.R_nil _ _ _ _ _ | exact Kd.N_nil _ _ _ _ _ | exact Kd.V_nil _ _ _ _ _ | exact Kd.Q_nil _ _ _ _ _ | exact Kd.S_nil _ _ _ _ _, by repeat (first | (with_reducible first | exact HB.out | apply below_alloc | apply pw_below_drewN | apply below_drew1 | refine below_set ?_ GE340.out | refine below_set ?_ GE351.out) | exact HB.out)⟩

/-! ### slices_Equal_int_int: function 66 -/
def slices_Equal_int_int.l0 : Nat → List Int → List Int → Int → Int → Option (Bool)
  | 0, _, _, _, _ => none
  | k + 1, x0, x1, x12, x13 => if x13 < x12 then (if 0 ≤ x13 then (if x13 < (x0.length : Int) then (if x13 < (x1.length : Int) then (if (rd x0 x13) = (rd x1 x13) then (slices_Equal_int_int.l0 k x0 x1 x12 (wrap64 (x13 + 1))) else (some false)) else (none)) else (none)) else (none)) else (some true)
def slices_Equal_int_int.f (k : Nat) (l0 : List Int) (l1 : List Int) : Option (Bool) := if (l0.length : Int) = (l1.length : Int) then (slices_Equal_int_int.l0 k l0 l1 (l0.length : Int) 0) else (some false)
theorem slices_Equal_int_int.mono_l : ∀ k, (∀ y0 y1 y2 y3, LeO (slices_Equal_int_int.l0 k y0 y1 y2 y3) (slices_Equal_int_int.l0 (k + 1) y0 y1 y2 y3))
  | 0 => fun _ _ _ _ r h => by simp [slices_Equal_int_int.l0] at h
  | k + 1 => by
    have ih0 := slices_Equal_int_int.mono_l k
    · intro y0 y1 y2 y3
      unfold slices_Equal_int_int.l0
      repeat' first
      | (with_reducible exact ih0 _ _ _ _)
      | (with_reducible exact LeO.refl _)
      | (with_reducible exact LeO.none _)
      | (with_reducible refine LeO.ite ?_ ?_)
      | (with_reducible refine LeO.bind ?_ (fun _ => ?_))
      | exact ih0 _ _ _ _
      | exact LeO.none _
      | refine LeO.ite ?_ ?_
      | refine LeO.bind ?_ (fun _ => ?_)
theorem slices_Equal_int_int.mono : ∀ a0 a1 k, LeO (slices_Equal_int_int.f k a0 a1) (slices_Equal_int_int.f (k + 1) a0 a1) := by
  intro a0 a1 k
  have ih0 := slices_Equal_int_int.mono_l k
  unfold slices_Equal_int_int.f
  repeat' first
      | (with_reducible exact ih0 _ _ _ _)
      | (with_reducible exact LeO.refl _)
      | (with_reducible exact LeO.none _)
      | (with_reducible refine LeO.ite ?_ ?_)
      | (with_reducible refine LeO.bind ?_ (fun _ => ?_))
      | exact ih0 _ _ _ _
      | exact LeO.none _
      | refine LeO.ite ?_ ?_
      | refine LeO.bind ?_ (fun _ => ?_)
set_option maxHeartbeats 8000000 in
set_option maxRecDepth 100000 in
theorem slices_Equal_int_int.calls (k : Nat) (A0 : Option Addr) (c0 : Nat) (l0 : List Int) (A1 : Option Addr) (c1 : Nat) (l1 : List Int) (r : Bool) (w : World) (hr0 : Kd.C (Kd.int .i64) w A0 l0.length l0) (hc0 : l0.length ≤ c0) (hr1 : Kd.C (Kd.int .i64) w A1 l1.length l1) (hc1 : l1.length ≤ c1) (h : slices_Equal_int_int.f k l0 l1 = some r) :
    Calls Try.prog 66 #[.slice A0 l0.length c0, .slice A1 l1.length c1] w fun e w' => e = .returned (.bool r) ∧ Drawn0 w w' := by
  have HR0 := Aside0.mk hr0
  have HC0 := Aside0.mk hc0
  clear hr0 hc0
  have HR1 := Aside0.mk hr1
  have HC1 := Aside0.mk hc1
  clear hr1 hc1
  have H : (if (l0.length : Int) = (l1.length : Int) then (slices_Equal_int_int.l0 k l0 l1 (l0.length : Int) 0) else (some false)) = some r := h
  clear h
  by_cases c3 : (l0.length : Int) = (l1.length : Int)
  · rw [if_pos c3] at H
    have c3b0 : ((l0.length : Int) == (l1.length : Int)) = true := beq_iff_eq.mpr c3
    have c3b1 : ((l0.length : Int) != (l1.length : Int)) = false := bne_eq_false_iff_eq.mpr c3
    have c3b2 : (l0.length == l1.length) = true := by first | simpa using c3 | (simp at c3 ⊢; omega)
    clear c3
    have H' := Aside0.mk H
    clear H
    go_enter Try.func66, Try.ntmps66
    go_wp2
    repeat (go_quiet (fail); try go_wp2)
    go_loopg [13] k (fun kq v13 w' => ∃ (x13_1 : Int), v13 = .int .i64 x13_1 ∧ Aside0 (slices_Equal_int_int.l0 kq l0 l1 (l0.length : Int) x13_1 = some r) ∧ Aside0 (kq ≤ k) ∧ Drawn0 w w')
    case atStart => exact ⟨(0), (by first | rfl | (simp; done) | (simp [*]; done)), H', ⟨Nat.le_refl _⟩, by repeat (first | exact Drawn0.refl _ | apply Drawn0.step)⟩
    case round =>
      clear H'
      try clear c1
      try clear p2
      try clear c3
      try clear c3b0
      try clear c3b1
      try clear c3b2
      obtain ⟨x13_1, rfl, HA, HK1, ⟨m1, rfl⟩⟩ := hrel
      cases gk with
      | zero => exact absurd HA.out (by simp [slices_Equal_int_int.l0])
      | succ k1 =>
        have H := HA.out
        clear HA
        simp only [slices_Equal_int_int.l0] at H
        by_cases c4 : x13_1 < (l0.length : Int)
        · rw [if_pos c4] at H
          have c4b0 : decide (x13_1 < (l0.length : Int)) = true := decide_eq_true c4
          clear c4
          by_cases c5 : 0 ≤ x13_1
          · rw [if_pos c5] at H
            have c5b0 : decide (0 ≤ x13_1) = true := decide_eq_true c5
            clear c5
            by_cases c6 : x13_1 < (l0.length : Int)
            · rw [if_pos c6] at H
              have c6b0 : decide (x13_1 < (l0.length : Int)) = true := decide_eq_true c6
              clear c6
              by_cases c7 : x13_1 < (l1.length : Int)
              · rw [if_pos c7] at H
                have c7b0 : decide (x13_1 < (l1.length : Int)) = true := decide_eq_true c7
                clear c7
                by_cases c8 : (rd l0 x13_1) = (rd l1 x13_1)
                · rw [if_pos c8] at H
                  have c8b0 : ((rd l0 x13_1) == (rd l1 x13_1)) = true := beq_iff_eq.mpr c8
                  have c8b1 : ((rd l0 x13_1) != (rd l1 x13_1)) = false := bne_eq_false_iff_eq.mpr c8
                  clear c8
                  have H' := Aside0.mk H
                  clear H
                  have p354 : 0 ≤ (x13_1 : Int) := of_decide_eq_true (by first | (with_reducible assumption) | assumption)
                  have q354 : x13_1 < (l0.length : Int) := of_decide_eq_true (by first | (with_reducible assumption) | assumption)
                  obtain ⟨ad354, e354, hx354_0⟩ := Kd.at_int HR0.out x13_1 p354 q354
                  cases e354
                  replace p354 := eq_true p354
                  replace q354 := eq_true q354
                  have p355 : 0 ≤ (x13_1 : Int) := of_decide_eq_true (by first | (with_reducible assumption) | assumption)
                  have q355 : x13_1 < (l1.length : Int) := of_decide_eq_true (by first | (with_reducible assumption) | assumption)
                  obtain ⟨ad355, e355, hx355_0⟩ := Kd.at_int HR1.out x13_1 p355 q355
                  cases e355
                  replace p355 := eq_true p355
                  replace q355 := eq_true q355
                  go_wp2
                  repeat (go_quiet (fail); try go_wp2)
                  go_roundg k1
                  case measure => have := HK1.out; omega
                  case rel => exact ⟨(wrap64 (x13_1 + 1)), (by first | rfl | (simp; done) | (simp [*]; done)), H', ⟨by have := HK1.out; omega⟩, by repeat (first | exact Drawn0.refl _ | apply Drawn0.step)⟩
                · rw [if_neg c8] at H
                  have c8b0 : ((rd l0 x13_1) == (rd l1 x13_1)) = false := beq_eq_false_iff_ne.mpr c8
                  have c8b1 : ((rd l0 x13_1) != (rd l1 x13_1)) = true := bne_iff_ne.mpr c8
                  obtain rfl := Option.some.inj H
                  have p354 : 0 ≤ (x13_1 : Int) := of_decide_eq_true (by first | (with_reducible assumption) | assumption)
                  have q354 : x13_1 < (l0.length : Int) := of_decide_eq_true (by first | (with_reducible assumption) | assumption)
                  obtain ⟨ad354, e354, hx354_0⟩ := Kd.at_int HR0.out x13_1 p354 q354
                  cases e354
                  replace p354 := eq_true p354
                  replace q354 := eq_true q354
                  have p355 : 0 ≤ (x13_1 : Int) := of_decide_eq_true (by first | (with_reducible assumption) | assumption)
                  have q355 : x13_1 < (l1.length : Int) := of_decide_eq_true (by first | (with_reducible assumption) | assumption)
                  obtain ⟨ad355, e355, hx355_0⟩ := Kd.at_int HR1.out x13_1 p355 q355
                  cases e355
                  replace p355 := eq_true p355
                  replace q355 := eq_true q355
                  go_wp2
                  repeat (go_quiet (fail); try go_wp2)
                  go_ret
                  exact ⟨by first | rfl | (simp; done) | (simp [*]; done), by repeat (first | exact Drawn0.refl _ | apply Drawn0.step)⟩
              · rw [if_neg c7] at H
                exact absurd H (by simp)
            · rw [if_neg c6] at H
              exact absurd H (by simp)
          · rw [if_neg c5] at H
            exact absurd H (by simp)
        · rw [if_neg c4] at H
          have c4b0 : decide (x13_1 < (l0.length : Int)) = false := decide_eq_false c4
          clear c4
          obtain rfl := Option.some.inj H
          go_wp2
          repeat (go_quiet (fail); try go_wp2)
          go_ret
          exact ⟨by first | rfl | (simp; done) | (simp [*]; done), by repeat (first | exact Drawn0.refl _ | apply Drawn0.step)⟩
  · rw [if_neg c3] at H
    have c3b0 : ((l0.length : Int) == (l1.length : Int)) = false := beq_eq_false_iff_ne.mpr c3
    have c3b1 : ((l0.length : Int) != (l1.length : Int)) = true := bne_iff_ne.mpr c3
    have c3b2 : (l0.length == l1.length) = false := by first | simpa using c3 | (simp at c3 ⊢; omega)
    obtain rfl := Option.some.inj H
    go_enter Try.func66, Try.ntmps66
    go_wp2
    repeat (go_quiet (fail); try go_wp2)
    go_ret
    exact ⟨by first | rfl | (simp; done) | (simp [*]; done), by repeat (first | exact Drawn0.refl _ | apply Drawn0.step)⟩

/-! ### ask_Same: function 36 -/
def ask_Same.f (k : Nat) (a0_0 : Int) (a0_1 : Int) (a0_2 : Int) (a0_3 : Int) (a0_4 : Int) (l0_5 : List Int) (a1_0 : Int) (a1_1 : Int) (a1_2 : Int) (a1_3 : Int) (a1_4 : Int) (l1_5 : List Int) : Option (Bool) := if a0_0 = a1_0 then (if a0_1 = a1_1 then (if a0_2 = a1_2 then (if a0_3 = a1_3 then (if a0_4 = a1_4 then ((slices_Equal_int_int.f k l0_5 l1_5).bind fun t358 => (some t358)) else (some false)) else (some false)) else (some false)) else (some false)) else (some false)
theorem ask_Same.mono : ∀ a0 a1 a2 a3 a4 a5 a6 a7 a8 a9 a10 a11 k, LeO (ask_Same.f k a0 a1 a2 a3 a4 a5 a6 a7 a8 a9 a10 a11) (ask_Same.f (k + 1) a0 a1 a2 a3 a4 a5 a6 a7 a8 a9 a10 a11) := by
  intro a0 a1 a2 a3 a4 a5 a6 a7 a8 a9 a10 a11 k
  unfold ask_Same.f
  repeat' first
      | (with_reducible exact slices_Equal_int_int.mono _ _ _)
      | (with_reducible exact LeO.refl _)
      | (with_reducible exact LeO.none _)
      | (with_reducible refine LeO.ite ?_ ?_)
      | (with_reducible refine LeO.bind ?_ (fun _ => ?_))
      | exact slices_Equal_int_int.mono _ _ _
      | exact LeO.none _
      | refine LeO.ite ?_ ?_
      | refine LeO.bind ?_ (fun _ => ?_)
set_option maxHeartbeats 8000000 in
set_option maxRecDepth 100000 in
theorem ask_Same.calls (k : Nat) (a0_0 : Int) (a0_1 : Int) (a0_2 : Int) (a0_3 : Int) (a0_4 : Int) (A0_5 : Option Addr) (c0_5 : Nat) (l0_5 : List Int) (a1_0 : Int) (a1_1 : Int) (a1_2 : Int) (a1_3 : Int) (a1_4 : Int) (A1_5 : Option Addr) (c1_5 : Nat) (l1_5 : List Int) (r : Bool) (w : World) (hr0_5 : Kd.C (Kd.int .i64) w A0_5 l0_5.length l0_5) (hc0_5 : l0_5.length ≤ c0_5) (hr1_5 : Kd.C (Kd.int .i64) w A1_5 l1_5.length l1_5) (hc1_5 : l1_5.length ≤ c1_5) (h : ask_Same.f k a0_0 a0_1 a0_2 a0_3 a0_4 l0_5 a1_0 a1_1 a1_2 a1_3 a1_4 l1_5 = some r) :
    Calls Try.prog 36 #[.agg #[.int .i64 a0_0, .int .i64 a0_1, .int .i64 a0_2, .int .i64 a0_3, .int .i64 a0_4, .slice A0_5 l0_5.length c0_5], .agg #[.int .i64 a1_0, .int .i64 a1_1, .int .i64 a1_2, .int .i64 a1_3, .int .i64 a1_4, .slice A1_5 l1_5.length c1_5]] w fun e w' => e = .returned (.bool r) ∧ Below w.heap.size w w' := by
  have hu24 := Try.underlying24
  have HR0_5 := Aside0.mk hr0_5
  have HC0_5 := Aside0.mk hc0_5
  clear hr0_5 hc0_5
  have HR1_5 := Aside0.mk hr1_5
  have HC1_5 := Aside0.mk hc1_5
  clear hr1_5 hc1_5
  have HB := Aside0.mk (Below.refl w.heap.size w)
  have H : (if a0_0 = a1_0 then (if a0_1 = a1_1 then (if a0_2 = a1_2 then (if a0_3 = a1_3 then (if a0_4 = a1_4 then ((slices_Equal_int_int.f k l0_5 l1_5).bind fun t358 => (some t358)) else (some false)) else (some false)) else (some false)) else (some false)) else (some false)) = some r := h
  clear h
  by_cases c3 : a0_0 = a1_0
  · rw [if_pos c3] at H
    have c3b0 : (a0_0 == a1_0) = true := beq_iff_eq.mpr c3
    have c3b1 : (a0_0 != a1_0) = false := bne_eq_false_iff_eq.mpr c3
    clear c3
    by_cases c4 : a0_1 = a1_1
    · rw [if_pos c4] at H
      have c4b0 : (a0_1 == a1_1) = true := beq_iff_eq.mpr c4
      have c4b1 : (a0_1 != a1_1) = false := bne_eq_false_iff_eq.mpr c4
      clear c4
      by_cases c5 : a0_2 = a1_2
      · rw [if_pos c5] at H
        have c5b0 : (a0_2 == a1_2) = true := beq_iff_eq.mpr c5
        have c5b1 : (a0_2 != a1_2) = false := bne_eq_false_iff_eq.mpr c5
        clear c5
        by_cases c6 : a0_3 = a1_3
        · rw [if_pos c6] at H
          have c6b0 : (a0_3 == a1_3) = true := beq_iff_eq.mpr c6
          have c6b1 : (a0_3 != a1_3) = false := bne_eq_false_iff_eq.mpr c6
          clear c6
          by_cases c7 : a0_4 = a1_4
          · rw [if_pos c7] at H
            have c7b0 : (a0_4 == a1_4) = true := beq_iff_eq.mpr c7
            have c7b1 : (a0_4 != a1_4) = false := bne_eq_false_iff_eq.mpr c7
            clear c7
            replace H := Option.bind_eq_some_iff.mp H
            obtain ⟨t358, A80, H⟩ := H
            replace H : (some t358) = some r := H
            have A8 := Aside0.mk A80
            clear A80
            obtain rfl := Option.some.inj H
            go_enter Try.func36, Try.ntmps36
            go_wp2_with (first | ((with_reducible refine gate_dst (N := 2) rfl ?_); refine box_event ?hg (N := 2) ?hd (cs := #[.int .i64 a0_0, .int .i64 a0_1, .int .i64 a0_2, .int .i64 a0_3, .int .i64 a0_4, .slice A0_5 l0_5.length c0_5]) (t := 24) ?hr ?_; (case hd => rfl); (case hg => rfl); (case hr => first | (go_simp; done) | (go_simp; rfl)); intro gb356 hg w9 hbox hb; have n0_ := Aside0.mk (below_step (by repeat (first | (with_reducible first | exact HB.out | apply below_alloc | apply pw_below_drewN | apply below_drew1) | exact HB.out)) hb); have n1_ := Aside0.mk (hbox); have n2_ := Aside0.mk ((by rw [hg]; exact (below_size (by repeat (first | (with_reducible first | exact HB.out | apply below_alloc | apply pw_below_drewN | apply below_drew1) | exact HB.out))) : w.heap.size ≤ gb356)); have n3_ := Aside0.mk ((by rw [hg]; exact (below_size (by repeat (first | (with_reducible first | exact HB.out | apply below_alloc | apply pw_below_drewN | apply below_drew1) | exact HB.out))) : w.heap.size ≤ gb356)); clear HB; have HB := n0_; have BK356 := n1_; have GW356 := n2_; have GE356 := n3_; clear n0_ n1_ n2_ n3_; clear hb hbox hg) | ((with_reducible refine gate_dst (N := 3) rfl ?_); refine box_event ?hg (N := 3) ?hd (cs := #[.int .i64 a1_0, .int .i64 a1_1, .int .i64 a1_2, .int .i64 a1_3, .int .i64 a1_4, .slice A1_5 l1_5.length c1_5]) (t := 24) ?hr ?_; (case hd => rfl); (case hg => rfl); (case hr => first | (go_simp; done) | (go_simp; rfl)); intro gb357 hg w10 hbox hb; have n0_ := Aside0.mk (blk_below (g := gb356) (o := .cells #[.int .i64 a0_0, .int .i64 a0_1, .int .i64 a0_2, .int .i64 a0_3, .int .i64 a0_4, .slice A0_5 l0_5.length c0_5] 24 (0, 0)) (by (with_reducible repeat (first | refine blk_drewN ?_ _ | refine blk_drew ?_ | refine blk_alloc ?_ _)); exact BK356.out) hb); have n1_ := Aside0.mk (below_step (by repeat (first | (with_reducible first | exact HB.out | apply below_alloc | apply pw_below_drewN | apply below_drew1 | refine below_set ?_ GE356.out) | exact HB.out)) hb); have n2_ := Aside0.mk (hbox); have n3_ := Aside0.mk ((by rw [hg]; exact (below_size (by repeat (first | (with_reducible first | exact HB.out | apply below_alloc | apply pw_below_drewN | apply below_drew1 | refine below_set ?_ GE356.out) | exact HB.out))) : w.heap.size ≤ gb357)); have n4_ := Aside0.mk ((by rw [hg]; exact (below_size (by repeat (first | (with_reducible first | exact HB.out | apply below_alloc | apply pw_below_drewN | apply below_drew1 | refine below_set ?_ GE356.out) | exact HB.out))) : w.heap.size ≤ gb357)); have n5_ := Aside0.mk ((by rw [hg]; exact Nat.ne_of_lt (blk_lt (g := gb356) (o := .cells #[.int .i64 a0_0, .int .i64 a0_1, .int .i64 a0_2, .int .i64 a0_3, .int .i64 a0_4, .slice A0_5 l0_5.length c0_5] 24 (0, 0)) (by (with_reducible repeat (first | refine blk_drewN ?_ _ | refine blk_drew ?_ | refine blk_alloc ?_ _)); exact BK356.out)) : gb356 ≠ gb357)); have n6_ := Aside0.mk ((by rw [hg]; exact Nat.ne_of_gt (blk_lt (g := gb356) (o := .cells #[.int .i64 a0_0, .int .i64 a0_1, .int .i64 a0_2, .int .i64 a0_3, .int .i64 a0_4, .slice A0_5 l0_5.length c0_5] 24 (0, 0)) (by (with_reducible repeat (first | refine blk_drewN ?_ _ | refine blk_drew ?_ | refine blk_alloc ?_ _)); exact BK356.out)) : gb357 ≠ gb356)); clear BK356; clear HB; have BK356 := n0_; have HB := n1_; have BK357 := n2_; have GW357 := n3_; have GE357 := n4_; have NB356_357 := n5_; have NB357_356 := n6_; clear n0_ n1_ n2_ n3_ n4_ n5_ n6_; clear hb hbox hg; have hnb11 := NB356_357.out; have hnc11 := NB357_356.out; have hcz12_0 : w10.cell? ⟨gb356, 0, none⟩ = some (.int .i64 a0_0) := (blk_cell BK356.out 0).trans rfl; have hcz12_1 : w10.cell? ⟨gb356, 1, none⟩ = some (.int .i64 a0_1) := (blk_cell BK356.out 1).trans rfl; have hcz12_2 : w10.cell? ⟨gb356, 2, none⟩ = some (.int .i64 a0_2) := (blk_cell BK356.out 2).trans rfl; have hcz12_3 : w10.cell? ⟨gb356, 3, none⟩ = some (.int .i64 a0_3) := (blk_cell BK356.out 3).trans rfl; have hcz12_4 : w10.cell? ⟨gb356, 4, none⟩ = some (.int .i64 a0_4) := (blk_cell BK356.out 4).trans rfl; have hcz12_5 : w10.cell? ⟨gb356, 5, none⟩ = some (.slice A0_5 l0_5.length c0_5) := (blk_cell BK356.out 5).trans rfl; have hfz12_0 := blk_frozen BK356.out 0; have hfz12_1 := blk_frozen BK356.out 1; have hfz12_2 := blk_frozen BK356.out 2; have hfz12_3 := blk_frozen BK356.out 3; have hfz12_4 := blk_frozen BK356.out 4; have hfz12_5 := blk_frozen BK356.out 5; have hcz13_0 : w10.cell? ⟨gb357, 0, none⟩ = some (.int .i64 a1_0) := (blk_cell BK357.out 0).trans rfl; have hcz13_1 : w10.cell? ⟨gb357, 1, none⟩ = some (.int .i64 a1_1) := (blk_cell BK357.out 1).trans rfl; have hcz13_2 : w10.cell? ⟨gb357, 2, none⟩ = some (.int .i64 a1_2) := (blk_cell BK357.out 2).trans rfl; have hcz13_3 : w10.cell? ⟨gb357, 3, none⟩ = some (.int .i64 a1_3) := (blk_cell BK357.out 3).trans rfl; have hcz13_4 : w10.cell? ⟨gb357, 4, none⟩ = some (.int .i64 a1_4) := (blk_cell BK357.out 4).trans rfl; have hcz13_5 : w10.cell? ⟨gb357, 5, none⟩ = some (.slice A1_5 l1_5.length c1_5) := (blk_cell BK357.out 5).trans rfl; have hfz13_0 := blk_frozen BK357.out 0; have hfz13_1 := blk_frozen BK357.out 1; have hfz13_2 := blk_frozen BK357.out 2; have hfz13_3 := blk_frozen BK357.out 3; have hfz13_4 := blk_frozen BK357.out 4; have hfz13_5 := blk_frozen BK357.out 5) | (go_at_call 66; (with_reducible refine (slices_Equal_int_int.calls k _ _ l0_5 _ _ l1_5 t358 _ ?side1 ?side2 ?side3 ?side4 A8.out).mono ?_); (case side1 => repeat (first | exact (Kd.C_below HR0_5.out HB.out) | (with_reducible refine Kd.C_alloc ?_ _) | (with_reducible refine Kd.C_drewN ?_ _) | (with_reducible refine Kd.C_drew ?_))); (case side2 => exact HC0_5.out); (case side3 => repeat (first | exact (Kd.C_below HR1_5.out HB.out) | (with_reducible refine Kd.C_alloc ?_ _) | (with_reducible refine Kd.C_drewN ?_ _) | (with_reducible refine Kd.C_drew ?_))); (case side4 => exact HC1_5.out); rintro e w' ⟨rfl, ⟨nd, rfl⟩⟩))
            go_ret
            exact ⟨by first | rfl | (simp [errW_none, errW_some] <;> rfl) | (simp [*, errW_none, errW_some] <;> rfl), by repeat (first | (with_reducible first | exact HB.out | apply below_alloc | apply pw_below_drewN | apply below_drew1 | refine below_set ?_ GE356.out | refine below_set ?_ GE357.out) | exact HB.out)⟩
          · rw [if_neg c7] at H
            have c7b0 : (a0_4 == a1_4) = false := beq_eq_false_iff_ne.mpr c7
            have c7b1 : (a0_4 != a1_4) = true := bne_iff_ne.mpr c7
            obtain rfl := Option.some.inj H
            go_enter Try.func36, Try.ntmps36
            go_wp2_with (first | ((with_reducible refine gate_dst (N := 2) rfl ?_); refine box_event ?hg (N := 2) ?hd (cs := #[.int .i64 a0_0, .int .i64 a0_1, .int .i64 a0_2, .int .i64 a0_3, .int .i64 a0_4, .slice A0_5 l0_5.length c0_5]) (t := 24) ?hr ?_; (case hd => rfl); (case hg => rfl); (case hr => first | (go_simp; done) | (go_simp; rfl)); intro gb356 hg w14 hbox hb; have n0_ := Aside0.mk (below_step (by repeat (first | (with_reducible first | exact HB.out | apply below_alloc | apply pw_below_drewN | apply below_drew1) | exact HB.out)) hb); have n1_ := Aside0.mk (hbox); have n2_ := Aside0.mk ((by rw [hg]; exact (below_size (by repeat (first | (with_reducible first | exact HB.out | apply below_alloc | apply pw_below_drewN | apply below_drew1) | exact HB.out))) : w.heap.size ≤ gb356)); have n3_ := Aside0.mk ((by rw [hg]; exact (below_size (by repeat (first | (with_reducible first | exact HB.out | apply below_alloc | apply pw_below_drewN | apply below_drew1) | exact HB.out))) : w.heap.size ≤ gb356)); clear HB; have HB := n0_; have BK356 := n1_; have GW356 := n2_; have GE356 := n3_; clear n0_ n1_ n2_ n3_; clear hb hbox hg) | ((with_reducible refine gate_dst (N := 3) rfl ?_); refine box_event ?hg (N := 3) ?hd (cs := #[.int .i64 a1_0, .int .i64 a1_1, .int .i64 a1_2, .int .i64 a1_3, .int .i64 a1_4, .slice A1_5 l1_5.length c1_5]) (t := 24) ?hr ?_; (case hd => rfl); (case hg => rfl); (case hr => first | (go_simp; done) | (go_simp; rfl)); intro gb357 hg w15 hbox hb; have n0_ := Aside0.mk (blk_below (g := gb356) (o := .cells #[.int .i64 a0_0, .int .i64 a0_1, .int .i64 a0_2, .int .i64 a0_3, .int .i64 a0_4, .slice A0_5 l0_5.length c0_5] 24 (0, 0)) (by (with_reducible repeat (first | refine blk_drewN ?_ _ | refine blk_drew ?_ | refine blk_alloc ?_ _)); exact BK356.out) hb); have n1_ := Aside0.mk (below_step (by repeat (first | (with_reducible first | exact HB.out | apply below_alloc | apply pw_below_drewN | apply below_drew1 | refine below_set ?_ GE356.out) | exact HB.out)) hb); have n2_ := Aside0.mk (hbox); have n3_ := Aside0.mk ((by rw [hg]; exact (below_size (by repeat (first | (with_reducible first | exact HB.out | apply below_alloc | apply pw_below_drewN | apply below_drew1 | refine below_set ?_ GE356.out) | exact HB.out))) : w.heap.size ≤ gb357)); have n4_ := Aside0.mk ((by rw [hg]; exact (below_size (by repeat (first | (with_reducible first | exact HB.out | apply below_alloc | apply pw_below_drewN | apply below_drew1 | refine below_set ?_ GE356.out) | exact HB.out))) : w.heap.size ≤ gb357)); have n5_ := Aside0.mk ((by rw [hg]; exact Nat.ne_of_lt (blk_lt (g := gb356) (o := .cells #[.int .i64 a0_0, .int .i64 a0_1, .int .i64 a0_2, .int .i64 a0_3, .int .i64 a0_4, .slice A0_5 l0_5.length c0_5] 24 (0, 0)) (by (with_reducible repeat (first | refine blk_drewN ?_ _ | refine blk_drew ?_ | refine blk_alloc ?_ _)); exact BK356.out)) : gb356 ≠ gb357)); have n6_ := Aside0.mk ((by rw [hg]; exact Nat.ne_of_gt (blk_lt (g := gb356) (o := .cells #[.int .i64 a0_0, .int .i64 a0_1, .int .i64 a0_2, .int .i64 a0_3, .int .i64 a0_4, .slice A0_5 l0_5.length c0_5] 24 (0, 0)) (by (with_reducible repeat (first | refine blk_drewN ?_ _ | refine blk_drew ?_ | refine blk_alloc ?_ _)); exact BK356.out)) : gb357 ≠ gb356)); clear BK356; clear HB; have BK356 := n0_; have HB := n1_; have BK357 := n2_; have GW357 := n3_; have GE357 := n4_; have NB356_357 := n5_; have NB357_356 := n6_; clear n0_ n1_ n2_ n3_ n4_ n5_ n6_; clear hb hbox hg; have hnb16 := NB356_357.out; have hnc16 := NB357_356.out; have hcz17_0 : w15.cell? ⟨gb356, 0, none⟩ = some (.int .i64 a0_0) := (blk_cell BK356.out 0).trans rfl; have hcz17_1 : w15.cell? ⟨gb356, 1, none⟩ = some (.int .i64 a0_1) := (blk_cell BK356.out 1).trans rfl; have hcz17_2 : w15.cell? ⟨gb356, 2, none⟩ = some (.int .i64 a0_2) := (blk_cell BK356.out 2).trans rfl; have hcz17_3 : w15.cell? ⟨gb356, 3, none⟩ = some (.int .i64 a0_3) := (blk_cell BK356.out 3).trans rfl; have hcz17_4 : w15.cell? ⟨gb356, 4, none⟩ = some (.int .i64 a0_4) := (blk_cell BK356.out 4).trans rfl; have hcz17_5 : w15.cell? ⟨gb356, 5, none⟩ = some (.slice A0_5 l0_5.length c0_5) := (blk_cell BK356.out 5).trans rfl; have hfz17_0 := blk_frozen BK356.out 0; have hfz17_1 := blk_frozen BK356.out 1; have hfz17_2 := blk_frozen BK356.out 2; have hfz17_3 := blk_frozen BK356.out 3; have hfz17_4 := blk_frozen BK356.out 4; have hfz17_5 := blk_frozen BK356.out 5; have hcz18_0 : w15.cell? ⟨gb357, 0, none⟩ = some (.int .i64 a1_0) := (blk_cell BK357.out 0).trans rfl; have hcz18_1 : w15.cell? ⟨gb357, 1, none⟩ = some (.int .i64 a1_1) := (blk_cell BK357.out 1).trans rfl; have hcz18_2 : w15.cell? ⟨gb357, 2, none⟩ = some (.int .i64 a1_2) := (blk_cell BK357.out 2).trans rfl; have hcz18_3 : w15.cell? ⟨gb357, 3, none⟩ = some (.int .i64 a1_3) := (blk_cell BK357.out 3).trans rfl; have hcz18_4 : w15.cell? ⟨gb357, 4, none⟩ = some (.int .i64 a1_4) := (blk_cell BK357.out 4).trans rfl; have hcz18_5 : w15.cell? ⟨gb357, 5, none⟩ = some (.slice A1_5 l1_5.length c1_5) := (blk_cell BK357.out 5).trans rfl; have hfz18_0 := blk_frozen BK357.out 0; have hfz18_1 := blk_frozen BK357.out 1; have hfz18_2 := blk_frozen BK357.out 2; have hfz18_3 := blk_frozen BK357.out 3; have hfz18_4 := blk_frozen BK357.out 4; have hfz18_5 := blk_frozen BK357.out 5))
            go_ret
            exact ⟨by first | rfl | (simp [errW_none, errW_some] <;> rfl) | (simp [*, errW_none, errW_some] <;> rfl), by repeat (first | (with_reducible first | exact HB.out | apply below_alloc | apply pw_below_drewN | apply below_drew1 | refine below_set ?_ GE356.out | refine below_set ?_ GE357.out) | exact HB.out)⟩
        · rw [if_neg c6] at H
          have c6b0 : (a0_3 == a1_3) = false := beq_eq_false_iff_ne.mpr c6
          have c6b1 : (a0_3 != a1_3) = true := bne_iff_ne.mpr c6
          obtain rfl := Option.some.inj H
          go_enter Try.func36, Try.ntmps36
          go_wp2_with (first | ((with_reducible refine gate_dst (N := 2) rfl ?_); refine box_event ?hg (N := 2) ?hd (cs := #[.int .i64 a0_0, .int .i64 a0_1, .int .i64 a0_2, .int .i64 a0_3, .int .i64 a0_4, .slice A0_5 l0_5.length c0_5]) (t := 24) ?hr ?_; (case hd => rfl); (case hg => rfl); (case hr => first | (go_simp; done) | (go_simp; rfl)); intro gb356 hg w19 hbox hb; have n0_ := Aside0.mk (below_step (by repeat (first | (with_reducible first | exact HB.out | apply below_alloc | apply pw_below_drewN | apply below_drew1) | exact HB.out)) hb); have n1_ := Aside0.mk (hbox); have n2_ := Aside0.mk ((by rw [hg]; exact (below_size (by repeat (first | (with_reducible first | exact HB.out | apply below_alloc | apply pw_below_drewN | apply below_drew1) | exact HB.out))) : w.heap.size ≤ gb356)); have n3_ := Aside0.mk ((by rw [hg]; exact (below_size (by repeat (first | (with_reducible first | exact HB.out | apply below_alloc | apply pw_below_drewN | apply below_drew1) | exact HB.out))) : w.heap.size ≤ gb356)); clear HB; have HB := n0_; have BK356 := n1_; have GW356 := n2_; have GE356 := n3_; clear n0_ n1_ n2_ n3_; clear hb hbox hg) | ((with_reducible refine gate_dst (N := 3) rfl ?_); refine box_event ?hg (N := 3) ?hd (cs := #[.int .i64 a1_0, .int .i64 a1_1, .int .i64 a1_2, .int .i64 a1_3, .int .i64 a1_4, .slice A1_5 l1_5.length c1_5]) (t := 24) ?hr ?_; (case hd => rfl); (case hg => rfl); (case hr => first | (go_simp; done) | (go_simp; rfl)); intro gb357 hg w20 hbox hb; have n0_ := Aside0.mk (blk_below (g := gb356) (o := .cells #[.int .i64 a0_0, .int .i64 a0_1, .int .i64 a0_2, .int .i64 a0_3, .int .i64 a0_4, .slice A0_5 l0_5.length c0_5] 24 (0, 0)) (by (with_reducible repeat (first | refine blk_drewN ?_ _ | refine blk_drew ?_ | refine blk_alloc ?_ _)); exact BK356.out) hb); have n1_ := Aside0.mk (below_step (by repeat (first | (with_reducible first | exact HB.out | apply below_alloc | apply pw_below_drewN | apply below_drew1 | refine below_set ?_ GE356.out) | exact HB.out)) hb); have n2_ := Aside0.mk (hbox); have n3_ := Aside0.mk ((by rw [hg]; exact (below_size (by repeat (first | (with_reducible first | exact HB.out | apply below_alloc | apply pw_below_drewN | apply below_drew1 | refine below_set ?_ GE356.out) | exact HB.out))) : w.heap.size ≤ gb357)); have n4_ := Aside0.mk ((by rw [hg]; exact (below_size (by repeat (first | (with_reducible first | exact HB.out | apply below_alloc | apply pw_below_drewN | apply below_drew1 | refine below_set ?_ GE356.out) | exact HB.out))) : w.heap.size ≤ gb357)); have n5_ := Aside0.mk ((by rw [hg]; exact Nat.ne_of_lt (blk_lt (g := gb356) (o := .cells #[.int .i64 a0_0, .int .i64 a0_1, .int .i64 a0_2, .int .i64 a0_3, .int .i64 a0_4, .slice A0_5 l0_5.length c0_5] 24 (0, 0)) (by (with_reducible repeat (first | refine blk_drewN ?_ _ | refine blk_drew ?_ | refine blk_alloc ?_ _)); exact BK356.out)) : gb356 ≠ gb357)); have n6_ := Aside0.mk ((by rw [hg]; exact Nat.ne_of_gt (blk_lt (g := gb356) (o := .cells #[.int .i64 a0_0, .int .i64 a0_1, .int .i64 a0_2, .int .i64 a0_3, .int .i64 a0_4, .slice A0_5 l0_5.length c0_5] 24 (0, 0)) (by (with_reducible repeat (first | refine blk_drewN ?_ _ | refine blk_drew ?_ | refine blk_alloc ?_ _)); exact BK356.out)) : gb357 ≠ gb356)); clear BK356; clear HB; have BK356 := n0_; have HB := n1_; have BK357 := n2_; have GW357 := n3_; have GE357 := n4_; have NB356_357 := n5_; have NB357_356 := n6_; clear n0_ n1_ n2_ n3_ n4_ n5_ n6_; clear hb hbox hg; have hnb21 := NB356_357.out; have hnc21 := NB357_356.out; have hcz22_0 : w20.cell? ⟨gb356, 0, none⟩ = some (.int .i64 a0_0) := (blk_cell BK356.out 0).trans rfl; have hcz22_1 : w20.cell? ⟨gb356, 1, none⟩ = some (.int .i64 a0_1) := (blk_cell BK356.out 1).trans rfl; have hcz22_2 : w20.cell? ⟨gb356, 2, none⟩ = some (.int .i64 a0_2) := (blk_cell BK356.out 2).trans rfl; have hcz22_3 : w20.cell? ⟨gb356, 3, none⟩ = some (.int .i64 a0_3) := (blk_cell BK356.out 3).trans rfl; have hcz22_4 : w20.cell? ⟨gb356, 4, none⟩ = some (.int .i64 a0_4) := (blk_cell BK356.out 4).trans rfl; have hcz22_5 : w20.cell? ⟨gb356, 5, none⟩ = some (.slice A0_5 l0_5.length c0_5) := (blk_cell BK356.out 5).trans rfl; have hfz22_0 := blk_frozen BK356.out 0; have hfz22_1 := blk_frozen BK356.out 1; have hfz22_2 := blk_frozen BK356.out 2; have hfz22_3 := blk_frozen BK356.out 3; have hfz22_4 := blk_frozen BK356.out 4; have hfz22_5 := blk_frozen BK356.out 5; have hcz23_0 : w20.cell? ⟨gb357, 0, none⟩ = some (.int .i64 a1_0) := (blk_cell BK357.out 0).trans rfl; have hcz23_1 : w20.cell? ⟨gb357, 1, none⟩ = some (.int .i64 a1_1) := (blk_cell BK357.out 1).trans rfl; have hcz23_2 : w20.cell? ⟨gb357, 2, none⟩ = some (.int .i64 a1_2) := (blk_cell BK357.out 2).trans rfl; have hcz23_3 : w20.cell? ⟨gb357, 3, none⟩ = some (.int .i64 a1_3) := (blk_cell BK357.out 3).trans rfl; have hcz23_4 : w20.cell? ⟨gb357, 4, none⟩ = some (.int .i64 a1_4) := (blk_cell BK357.out 4).trans rfl; have hcz23_5 : w20.cell? ⟨gb357, 5, none⟩ = some (.slice A1_5 l1_5.length c1_5) := (blk_cell BK357.out 5).trans rfl; have hfz23_0 := blk_frozen BK357.out 0; have hfz23_1 := blk_frozen BK357.out 1; have hfz23_2 := blk_frozen BK357.out 2; have hfz23_3 := blk_frozen BK357.out 3; have hfz23_4 := blk_frozen BK357.out 4; have hfz23_5 := blk_frozen BK357.out 5))
          go_ret
          exact ⟨by first | rfl | (simp [errW_none, errW_some] <;> rfl) | (simp [*, errW_none, errW_some] <;> rfl), by repeat (first | (with_reducible first | exact HB.out | apply below_alloc | apply pw_below_drewN | apply below_drew1 | refine below_set ?_ GE356.out | refine below_set ?_ GE357.out) | exact HB.out)⟩
      · rw [if_neg c5] at H
        have c5b0 : (a0_2 == a1_2) = false := beq_eq_false_iff_ne.mpr c5
        have c5b1 : (a0_2 != a1_2) = true := bne_iff_ne.mpr c5
        obtain rfl := Option.some.inj H
        go_enter Try.func36, Try.ntmps36
        go_wp2_with (first | ((with_reducible refine gate_dst (N := 2) rfl ?_); refine box_event ?hg (N := 2) ?hd (cs := #[.int .i64 a0_0, .int .i64 a0_1, .int .i64 a0_2, .int .i64 a0_3, .int .i64 a0_4, .slice A0_5 l0_5.length c0_5]) (t := 24) ?hr ?_; (case hd => rfl); (case hg => rfl); (case hr => first | (go_simp; done) | (go_simp; rfl)); intro gb356 hg w24 hbox hb; have n0_ := Aside0.mk (below_step (by repeat (first | (with_reducible first | exact HB.out | apply below_alloc | apply pw_below_drewN | apply below_drew1) | exact HB.out)) hb); have n1_ := Aside0.mk (hbox); have n2_ := Aside0.mk ((by rw [hg]; exact (below_size (by repeat (first | (with_reducible first | exact HB.out | apply below_alloc | apply pw_below_drewN | apply below_drew1) | exact HB.out))) : w.heap.size ≤ gb356)); have n3_ := Aside0.mk ((by rw [hg]; exact (below_size (by repeat (first | (with_reducible first | exact HB.out | apply below_alloc | apply pw_below_drewN | apply below_drew1) | exact HB.out))) : w.heap.size ≤ gb356)); clear HB; have HB := n0_; have BK356 := n1_; have GW356 := n2_; have GE356 := n3_; clear n0_ n1_ n2_ n3_; clear hb hbox hg) | ((with_reducible refine gate_dst (N := 3) rfl ?_); refine box_event ?hg (N := 3) ?hd (cs := #[.int .i64 a1_0, .int .i64 a1_1, .int .i64 a1_2, .int .i64 a1_3, .int .i64 a1_4, .slice A1_5 l1_5.length c1_5]) (t := 24) ?hr ?_; (case hd => rfl); (case hg => rfl); (case hr => first | (go_simp; done) | (go_simp; rfl)); intro gb357 hg w25 hbox hb; have n0_ := Aside0.mk (blk_below (g := gb356) (o := .cells #[.int .i64 a0_0, .int .i64 a0_1, .int .i64 a0_2, .int .i64 a0_3, .int .i64 a0_4, .slice A0_5 l0_5.length c0_5] 24 (0, 0)) (by (with_reducible repeat (first | refine blk_drewN ?_ _ | refine blk_drew ?_ | refine blk_alloc ?_ _)); exact BK356.out) hb); have n1_ := Aside0.mk (below_step (by repeat (first | (with_reducible first | exact HB.out | apply below_alloc | apply pw_below_drewN | apply below_drew1 | refine below_set ?_ GE356.out) | exact HB.out)) hb); have n2_ := Aside0.mk (hbox); have n3_ := Aside0.mk ((by rw [hg]; exact (below_size (by repeat (first | (with_reducible first | exact HB.out | apply below_alloc | apply pw_below_drewN | apply below_drew1 | refine below_set ?_ GE356.out) | exact HB.out))) : w.heap.size ≤ gb357)); have n4_ := Aside0.mk ((by rw [hg]; exact (below_size (by repeat (first | (with_reducible first | exact HB.out | apply below_alloc | apply pw_below_drewN | apply below_drew1 | refine below_set ?_ GE356.out) | exact HB.out))) : w.heap.size ≤ gb357)); have n5_ := Aside0.mk ((by rw [hg]; exact Nat.ne_of_lt (blk_lt (g := gb356) (o := .cells #[.int .i64 a0_0, .int .i64 a0_1, .int .i64 a0_2, .int .i64 a0_3, .int .i64 a0_4, .slice A0_5 l0_5.length c0_5] 24 (0, 0)) (by (with_reducible repeat (first | refine blk_drewN ?_ _ | refine blk_drew ?_ | refine blk_alloc ?_ _)); exact BK356.out)) : gb356 ≠ gb357)); have n6_ := Aside0.mk ((by rw [hg]; exact Nat.ne_of_gt (blk_lt (g := gb356) (o := .cells #[.int .i64 a0_0, .int .i64 a0_1, .int .i64 a0_2, .int .i64 a0_3, .int .i64 a0_4, .slice A0_5 l0_5.length c0_5] 24 (0, 0)) (by (with_reducible repeat (first | refine blk_drewN ?_ _ | refine blk_drew ?_ | refine blk_alloc ?_ _)); exact BK356.out)) : gb357 ≠ gb356)); clear BK356; clear HB; have BK356 := n0_; have HB := n1_; have BK357 := n2_; have GW357 := n3_; have GE357 := n4_; have NB356_357 := n5_; have NB357_356 := n6_; clear n0_ n1_ n2_ n3_ n4_ n5_ n6_; clear hb hbox hg; have hnb26 := NB356_357.out; have hnc26 := NB357_356.out; have hcz27_0 : w25.cell? ⟨gb356, 0, none⟩ = some (.int .i64 a0_0) := (blk_cell BK356.out 0).trans rfl; have hcz27_1 : w25.cell? ⟨gb356, 1, none⟩ = some (.int .i64 a0_1) := (blk_cell BK356.out 1).trans rfl; have hcz27_2 : w25.cell? ⟨gb356, 2, none⟩ = some (.int .i64 a0_2) := (blk_cell BK356.out 2).trans rfl; have hcz27_3 : w25.cell? ⟨gb356, 3, none⟩ = some (.int .i64 a0_3) := (blk_cell BK356.out 3).trans rfl; have hcz27_4 : w25.cell? ⟨gb356, 4, none⟩ = some (.int .i64 a0_4) := (blk_cell BK356.out 4).trans rfl; have hcz27_5 : w25.cell? ⟨gb356, 5, none⟩ = some (.slice A0_5 l0_5.length c0_5) := (blk_cell BK356.out 5).trans rfl; have hfz27_0 := blk_frozen BK356.out 0; have hfz27_1 := blk_frozen BK356.out 1; have hfz27_2 := blk_frozen BK356.out 2; have hfz27_3 := blk_frozen BK356.out 3; have hfz27_4 := blk_frozen BK356.out 4; have hfz27_5 := blk_frozen BK356.out 5; have hcz28_0 : w25.cell? ⟨gb357, 0, none⟩ = some (.int .i64 a1_0) := (blk_cell BK357.out 0).trans rfl; have hcz28_1 : w25.cell? ⟨gb357, 1, none⟩ = some (.int .i64 a1_1) := (blk_cell BK357.out 1).trans rfl; have hcz28_2 : w25.cell? ⟨gb357, 2, none⟩ = some (.int .i64 a1_2) := (blk_cell BK357.out 2).trans rfl; have hcz28_3 : w25.cell? ⟨gb357, 3, none⟩ = some (.int .i64 a1_3) := (blk_cell BK357.out 3).trans rfl; have hcz28_4 : w25.cell? ⟨gb357, 4, none⟩ = some (.int .i64 a1_4) := (blk_cell BK357.out 4).trans rfl; have hcz28_5 : w25.cell? ⟨gb357, 5, none⟩ = some (.slice A1_5 l1_5.length c1_5) := (blk_cell BK357.out 5).trans rfl; have hfz28_0 := blk_frozen BK357.out 0; have hfz28_1 := blk_frozen BK357.out 1; have hfz28_2 := blk_frozen BK357.out 2; have hfz28_3 := blk_frozen BK357.out 3; have hfz28_4 := blk_frozen BK357.out 4; have hfz28_5 := blk_frozen BK357.out 5))
        go_ret
        exact ⟨by first | rfl | (simp [errW_none, errW_some] <;> rfl) | (simp [*, errW_none, errW_some] <;> rfl), by repeat (first | (with_reducible first | exact HB.out | apply below_alloc | apply pw_below_drewN | apply below_drew1 | refine below_set ?_ GE356.out | refine below_set ?_ GE357.out) | exact HB.out)⟩
    · rw [if_neg c4] at H
      have c4b0 : (a0_1 == a1_1) = false := beq_eq_false_iff_ne.mpr c4
      have c4b1 : (a0_1 != a1_1) = true := bne_iff_ne.mpr c4
      obtain rfl := Option.some.inj H
      go_enter Try.func36, Try.ntmps36
      go_wp2_with (first | ((with_reducible refine gate_dst (N := 2) rfl ?_); refine box_event ?hg (N := 2) ?hd (cs := #[.int .i64 a0_0, .int .i64 a0_1, .int .i64 a0_2, .int .i64 a0_3, .int .i64 a0_4, .slice A0_5 l0_5.length c0_5]) (t := 24) ?hr ?_; (case hd => rfl); (case hg => rfl); (case hr => first | (go_simp; done) | (go_simp; rfl)); intro gb356 hg w29 hbox hb; have n0_ := Aside0.mk (below_step (by repeat (first | (with_reducible first | exact HB.out | apply below_alloc | apply pw_below_drewN | apply below_drew1) | exact HB.out)) hb); have n1_ := Aside0.mk (hbox); have n2_ := Aside0.mk ((by rw [hg]; exact (below_size (by repeat (first | (with_reducible first | exact HB.out | apply below_alloc | apply pw_below_drewN | apply below_drew1) | exact HB.out))) : w.heap.size ≤ gb356)); have n3_ := Aside0.mk ((by rw [hg]; exact (below_size (by repeat (first | (with_reducible first | exact HB.out | apply below_alloc | apply pw_below_drewN | apply below_drew1) | exact HB.out))) : w.heap.size ≤ gb356)); clear HB; have HB := n0_; have BK356 := n1_; have GW356 := n2_; have GE356 := n3_; clear n0_ n1_ n2_ n3_; clear hb hbox hg) | ((with_reducible refine gate_dst (N := 3) rfl ?_); refine box_event ?hg (N := 3) ?hd (cs := #[.int .i64 a1_0, .int .i64 a1_1, .int .i64 a1_2, .int .i64 a1_3, .int .i64 a1_4, .slice A1_5 l1_5.length c1_5]) (t := 24) ?hr ?_; (case hd => rfl); (case hg => rfl); (case hr => first | (go_simp; done) | (go_simp; rfl)); intro gb357 hg w30 hbox hb; have n0_ := Aside0.mk (blk_below (g := gb356) (o := .cells #[.int .i64 a0_0, .int .i64 a0_1, .int .i64 a0_2, .int .i64 a0_3, .int .i64 a0_4, .slice A0_5 l0_5.length c0_5] 24 (0, 0)) (by (with_reducible repeat (first | refine blk_drewN ?_ _ | refine blk_drew ?_ | refine blk_alloc ?_ _)); exact BK356.out) hb); have n1_ := Aside0.mk (below_step (by repeat (first | (with_reducible first | exact HB.out | apply below_alloc | apply pw_below_drewN | apply below_drew1 | refine below_set ?_ GE356.out) | exact HB.out)) hb); have n2_ := Aside0.mk (hbox); have n3_ := Aside0.mk ((by rw [hg]; exact (below_size (by repeat (first | (with_reducible first | exact HB.out | apply below_alloc | apply pw_below_drewN | apply below_drew1 | refine below_set ?_ GE356.out) | exact HB.out))) : w.heap.size ≤ gb357)); have n4_ := Aside0.mk ((by rw [hg]; exact (below_size (by repeat (first | (with_reducible first | exact HB.out | apply below_alloc | apply pw_below_drewN | apply below_drew1 | refine below_set ?_ GE356.out) | exact HB.out))) : w.heap.size ≤ gb357)); have n5_ := Aside0.mk ((by rw [hg]; exact Nat.ne_of_lt (blk_lt (g := gb356) (o := .cells #[.int .i64 a0_0, .int .i64 a0_1, .int .i64 a0_2, .int .i64 a0_3, .int .i64 a0_4, .slice A0_5 l0_5.length c0_5] 24 (0, 0)) (by (with_reducible repeat (first | refine blk_drewN ?_ _ | refine blk_drew ?_ | refine blk_alloc ?_ _)); exact BK356.out)) : gb356 ≠ gb357)); have n6_ := Aside0.mk ((by rw [hg]; exact Nat.ne_of_gt (blk_lt (g := gb356) (o := .cells #[.int .i64 a0_0, .int .i64 a0_1, .int .i64 a0_2, .int .i64 a0_3, .int .i64 a0_4, .slice A0_5 l0_5.length c0_5] 24 (0, 0)) (by (with_reducible repeat (first | refine blk_drewN ?_ _ | refine blk_drew ?_ | refine blk_alloc ?_ _)); exact BK356.out)) : gb357 ≠ gb356)); clear BK356; clear HB; have BK356 := n0_; have HB := n1_; have BK357 := n2_; have GW357 := n3_; have GE357 := n4_; have NB356_357 := n5_; have NB357_356 := n6_; clear n0_ n1_ n2_ n3_ n4_ n5_ n6_; clear hb hbox hg; have hnb31 := NB356_357.out; have hnc31 := NB357_356.out; have hcz32_0 : w30.cell? ⟨gb356, 0, none⟩ = some (.int .i64 a0_0) := (blk_cell BK356.out 0).trans rfl; have hcz32_1 : w30.cell? ⟨gb356, 1, none⟩ = some (.int .i64 a0_1) := (blk_cell BK356.out 1).trans rfl; have hcz32_2 : w30.cell? ⟨gb356, 2, none⟩ = some (.int .i64 a0_2) := (blk_cell BK356.out 2).trans rfl; have hcz32_3 : w30.cell? ⟨gb356, 3, none⟩ = some (.int .i64 a0_3) := (blk_cell BK356.out 3).trans rfl; have hcz32_4 : w30.cell? ⟨gb356, 4, none⟩ = some (.int .i64 a0_4) := (blk_cell BK356.out 4).trans rfl; have hcz32_5 : w30.cell? ⟨gb356, 5, none⟩ = some (.slice A0_5 l0_5.length c0_5) := (blk_cell BK356.out 5).trans rfl; have hfz32_0 := blk_frozen BK356.out 0; have hfz32_1 := blk_frozen BK356.out 1; have hfz32_2 := blk_frozen BK356.out 2; have hfz32_3 := blk_frozen BK356.out 3; have hfz32_4 := blk_frozen BK356.out 4; have hfz32_5 := blk_frozen BK356.out 5; have hcz33_0 : w30.cell? ⟨gb357, 0, none⟩ = some (.int .i64 a1_0) := (blk_cell BK357.out 0).trans rfl; have hcz33_1 : w30.cell? ⟨gb357, 1, none⟩ = some (.int .i64 a1_1) := (blk_cell BK357.out 1).trans rfl; have hcz33_2 : w30.cell? ⟨gb357, 2, none⟩ = some (.int .i64 a1_2) := (blk_cell BK357.out 2).trans rfl; have hcz33_3 : w30.cell? ⟨gb357, 3, none⟩ = some (.int .i64 a1_3) := (blk_cell BK357.out 3).trans rfl; have hcz33_4 : w30.cell? ⟨gb357, 4, none⟩ = some (.int .i64 a1_4) := (blk_cell BK357.out 4).trans rfl; have hcz33_5 : w30.cell? ⟨gb357, 5, none⟩ = some (.slice A1_5 l1_5.length c1_5) := (blk_cell BK357.out 5).trans rfl; have hfz33_0 := blk_frozen BK357.out 0; have hfz33_1 := blk_frozen BK357.out 1; have hfz33_2 := blk_frozen BK357.out 2; have hfz33_3 := blk_frozen BK357.out 3; have hfz33_4 := blk_frozen BK357.out 4; have hfz33_5 := blk_frozen BK357.out 5))
      go_ret
      exact ⟨by first | rfl | (simp [errW_none, errW_some] <;> rfl) | (simp [*, errW_none, errW_some] <;> rfl), by repeat (first | (with_reducible first | exact HB.out | apply below_alloc | apply pw_below_drewN | apply below_drew1 | refine below_set ?_ GE356.out | refine below_set ?_ GE357.out) | exact HB.out)⟩
  · rw [if_neg c3] at H
    have c3b0 : (a0_0 == a1_0) = false := beq_eq_false_iff_ne.mpr c3
    have c3b1 : (a0_0 != a1_0) = true := bne_iff_ne.mpr c3
    obtain rfl := Option.some.inj H
    go_enter Try.func36, Try.ntmps36
    go_wp2_with (first | ((with_reducible refine gate_dst (N := 2) rfl ?_); refine box_event ?hg (N := 2) ?hd (cs := #[.int .i64 a0_0, .int .i64 a0_1, .int .i64 a0_2, .int .i64 a0_3, .int .i64 a0_4, .slice A0_5 l0_5.length c0_5]) (t := 24) ?hr ?_; (case hd => rfl); (case hg => rfl); (case hr => first | (go_simp; done) | (go_simp; rfl)); intro gb356 hg w34 hbox hb; have n0_ := Aside0.mk (below_step (by repeat (first | (with_reducible first | exact HB.out | apply below_alloc | apply pw_below_drewN | apply below_drew1) | exact HB.out)) hb); have n1_ := Aside0.mk (hbox); have n2_ := Aside0.mk ((by rw [hg]; exact (below_size (by repeat (first | (with_reducible first | exact HB.out | apply below_alloc | apply pw_below_drewN | apply below_drew1) | exact HB.out))) : w.heap.size ≤ gb356)); have n3_ := Aside0.mk ((by rw [hg]; exact (below_size (by repeat (first | (with_reducible first | exact HB.out | apply below_alloc | apply pw_below_drewN | apply below_drew1) | exact HB.out))) : w.heap.size ≤ gb356)); clear HB; have HB := n0_; have BK356 := n1_; have GW356 := n2_; have GE356 := n3_; clear n0_ n1_ n2_ n3_; clear hb hbox hg) | ((with_reducible refine gate_dst (N := 3) rfl ?_); refine box_event ?hg (N := 3) ?hd (cs := #[.int .i64 a1_0, .int .i64 a1_1, .int .i64 a1_2, .int .i64 a1_3, .int .i64 a1_4, .slice A1_5 l1_5.length c1_5]) (t := 24) ?hr ?_; (case hd => rfl); (case hg => rfl); (case hr => first | (go_simp; done) | (go_simp; rfl)); intro gb357 hg w35 hbox hb; have n0_ := Aside0.mk (blk_below (g := gb356) (o := .cells #[.int .i64 a0_0, .int .i64 a0_1, .int .i64 a0_2, .int .i64 a0_3, .int .i64 a0_4, .slice A0_5 l0_5.length c0_5] 24 (0, 0)) (by (with_reducible repeat (first | refine blk_drewN ?_ _ | refine blk_drew ?_ | refine blk_alloc ?_ _)); exact BK356.out) hb); have n1_ := Aside0.mk (below_step (by repeat (first | (with_reducible first | exact HB.out | apply below_alloc | apply pw_below_drewN | apply below_drew1 | refine below_set ?_ GE356.out) | exact HB.out)) hb); have n2_ := Aside0.mk (hbox); have n3_ := Aside0.mk ((by rw [hg]; exact (below_size (by repeat (first | (with_reducible first | exact HB.out | apply below_alloc | apply pw_below_drewN | apply below_drew1 | refine below_set ?_ GE356.out) | exact HB.out))) : w.heap.size ≤ gb357)); have n4_ := Aside0.mk ((by rw [hg]; exact (below_size (by repeat (first | (with_reducible first | exact HB.out | apply below_alloc | apply pw_below_drewN | apply below_drew1 | refine below_set ?_ GE356.out) | exact HB.out))) : w.heap.size ≤ gb357)); have n5_ := Aside0.mk ((by rw [hg]; exact Nat.ne_of_lt (blk_lt (g := gb356) (o := .cells #[.int .i64 a0_0, .int .i64 a0_1, .int .i64 a0_2, .int .i64 a0_3, .int .i64 a0_4, .slice A0_5 l0_5.length c0_5] 24 (0, 0)) (by (with_reducible repeat (first | refine blk_drewN ?_ _ | refine blk_drew ?_ | refine blk_alloc ?_ _)); exact BK356.out)) : gb356 ≠ gb357)); have n6_ := Aside0.mk ((by rw [hg]; exact Nat.ne_of_gt (blk_lt (g := gb356) (o := .cells #[.int .i64 a0_0, .int .i64 a0_1, .int .i64 a0_2, .int .i64 a0_3, .int .i64 a0_4, .slice A0_5 l0_5.length c0_5] 24 (0, 0)) (by (with_reducible repeat (first | refine blk_drewN ?_ _ | refine blk_drew ?_ | refine blk_alloc ?_ _)); exact BK356.out)) : gb357 ≠ gb356)); clear BK356; clear HB; have BK356 := n0_; have HB := n1_; have BK357 := n2_; have GW357 := n3_; have GE357 := n4_; have NB356_357 := n5_; have NB357_356 := n6_; clear n0_ n1_ n2_ n3_ n4_ n5_ n6_; clear hb hbox hg; have hnb36 := NB356_357.out; have hnc36 := NB357_356.out; have hcz37_0 : w35.cell? ⟨gb356, 0, none⟩ = some (.int .i64 a0_0) := (blk_cell BK356.out 0).trans rfl; have hcz37_1 : w35.cell? ⟨gb356, 1, none⟩ = some (.int .i64 a0_1) := (blk_cell BK356.out 1).trans rfl; have hcz37_2 : w35.cell? ⟨gb356, 2, none⟩ = some (.int .i64 a0_2) := (blk_cell BK356.out 2).trans rfl; have hcz37_3 : w35.cell? ⟨gb356, 3, none⟩ = some (.int .i64 a0_3) := (blk_cell BK356.out 3).trans rfl; have hcz37_4 : w35.cell? ⟨gb356, 4, none⟩ = some (.int .i64 a0_4) := (blk_cell BK356.out 4).trans rfl; have hcz37_5 : w35.cell? ⟨gb356, 5, none⟩ = some (.slice A0_5 l0_5.length c0_5) := (blk_cell BK356.out 5).trans rfl; have hfz37_0 := blk_frozen BK356.out 0; have hfz37_1 := blk_frozen BK356.out 1; have hfz37_2 := blk_frozen BK356.out 2; have hfz37_3 := blk_frozen BK356.out 3; have hfz37_4 := blk_frozen BK356.out 4; have hfz37_5 := blk_frozen BK356.out 5; have hcz38_0 : w35.cell? ⟨gb357, 0, none⟩ = some (.int .i64 a1_0) := (blk_cell BK357.out 0).trans rfl; have hcz38_1 : w35.cell? ⟨gb357, 1, none⟩ = some (.int .i64 a1_1) := (blk_cell BK357.out 1).trans rfl; have hcz38_2 : w35.cell? ⟨gb357, 2, none⟩ = some (.int .i64 a1_2) := (blk_cell BK357.out 2).trans rfl; have hcz38_3 : w35.cell? ⟨gb357, 3, none⟩ = some (.int .i64 a1_3) := (blk_cell BK357.out 3).trans rfl; have hcz38_4 : w35.cell? ⟨gb357, 4, none⟩ = some (.int .i64 a1_4) := (blk_cell BK357.out 4).trans rfl; have hcz38_5 : w35.cell? ⟨gb357, 5, none⟩ = some (.slice A1_5 l1_5.length c1_5) := (blk_cell BK357.out 5).trans rfl; have hfz38_0 := blk_frozen BK357.out 0; have hfz38_1 := blk_frozen BK357.out 1; have hfz38_2 := blk_frozen BK357.out 2; have hfz38_3 := blk_frozen BK357.out 3; have hfz38_4 := blk_frozen BK357.out 4; have hfz38_5 := blk_frozen BK357.out 5))
    go_ret
    exact ⟨by first | rfl | (simp [errW_none, errW_some] <;> rfl) | (simp [*, errW_none, errW_some] <;> rfl), by repeat (first | (with_reducible first | exact HB.out | apply below_alloc | apply pw_below_drewN | apply below_drew1 | refine below_set ?_ GE356.out | refine below_set ?_ GE357.out) | exact HB.out)⟩

-- NOT PRINTED: function 10 (gatewardenlaw06_AskTells)

end Go.Proofs.Ytinoabkfekomcaa.PAskSizes
