/- Texts of this claim, put together (wip/pack.py): PAskSizesx1. -/
import Derived.Test.YtinoabkfekomcaaK1
namespace Go.Proofs.Ytinoabkfekomcaa.PAskSizes
open Go.RowKit Go.Proofs.YtinoabkfekomcaaW.PrintWords Go.Proofs.YtinoabkfekomcaaW.PrintLast Go.Proofs.YtinoabkfekomcaaW.PrintMore
attribute [local go_sem] read_m0 read_m1 read_m2 read_look max2_int min2_int max_two min_two max_three min_three max_four min_four   -- for this text's walks alone
set_option linter.unusedVariables false
set_option linter.unusedSimpArgs false

/-! ### ask_of: function 65 -/
mutual
def ask_of.j0 : Nat → Int → Bool → Option (Int × Int × Int × Int × Bool)
 | 0, _, _ => none
 | k + 1, x4, x5 => if x5 = true then (some (2000, 0, 0, 0, true)) else (if x4 = 3 then (ask_of.j1 k x4 (x4 == 3)) else (ask_of.j1 k x4 (x4 == 4)))
def ask_of.j1 : Nat → Int → Bool → Option (Int × Int × Int × Int × Bool)
 | 0, _, _ => none
 | k + 1, x4, x9 => if x9 = true then (some (125, 0, 0, 0, true)) else (if x4 = 5 then (some (0, 1, 0, 1, true)) else (if x4 = 6 then (some (0, 1, 0, 65535, true)) else (if x4 = 15 then (some (0, 1968, 0, 1, true)) else (if x4 = 16 then (some (0, 123, 0, 65535, true)) else (if x4 = 22 then (some (0, 1, 2, 65535, true)) else (if x4 = 23 then (some (125, 121, 0, 65535, true)) else (some (0, 0, 0, 0, false))))))))
end
def ask_of.f (k : Nat) (a0 : Int) : Option (Int × Int × Int × Int × Bool) := if a0 = 1 then (ask_of.j0 k a0 (a0 == 1)) else (ask_of.j0 k a0 (a0 == 2))
theorem ask_of.mono_l : ∀ k, (∀ y0 y1, LeO (ask_of.j0 k y0 y1) (ask_of.j0 (k + 1) y0 y1)) ∧ (∀ y0 y1, LeO (ask_of.j1 k y0 y1) (ask_of.j1 (k + 1) y0 y1))
 | 0 => ⟨fun _ _ r h => by simp [ask_of.j0] at h, fun _ _ r h => by simp [ask_of.j1] at h⟩
 | k + 1 => by
  obtain ⟨ih0, ih1⟩ := ask_of.mono_l k
  refine ⟨?_, ?_⟩
  ·intro y0 y1
   unfold ask_of.j0
   repeat' first
   | (with_reducible exact ih0 _ _)
   | (with_reducible exact ih1 _ _)
   | (with_reducible exact LeO.refl _)
   | (with_reducible exact LeO.none _)
   | (with_reducible refine LeO.ite ?_ ?_)
   | (with_reducible refine LeO.bind ?_ (fun _ => ?_))
   | exact ih0 _ _
   | exact ih1 _ _
   | exact LeO.none _
   | refine LeO.ite ?_ ?_
   | refine LeO.bind ?_ (fun _ => ?_)
  ·intro y0 y1
   unfold ask_of.j1
   repeat' first
   | (with_reducible exact ih0 _ _)
   | (with_reducible exact ih1 _ _)
   | (with_reducible exact LeO.refl _)
   | (with_reducible exact LeO.none _)
   | (with_reducible refine LeO.ite ?_ ?_)
   | (with_reducible refine LeO.bind ?_ (fun _ => ?_))
   | exact ih0 _ _
   | exact ih1 _ _
   | exact LeO.none _
   | refine LeO.ite ?_ ?_
   | refine LeO.bind ?_ (fun _ => ?_)
theorem ask_of.mono : ∀ a0 k, LeO (ask_of.f k a0) (ask_of.f (k + 1) a0) := by
 intro a0 k
 obtain ⟨ih0, ih1⟩ := ask_of.mono_l k
 unfold ask_of.f
 repeat' first
   | (with_reducible exact ih0 _ _)
   | (with_reducible exact ih1 _ _)
   | (with_reducible exact LeO.refl _)
   | (with_reducible exact LeO.none _)
   | (with_reducible refine LeO.ite ?_ ?_)
   | (with_reducible refine LeO.bind ?_ (fun _ => ?_))
   | exact ih0 _ _
   | exact ih1 _ _
   | exact LeO.none _
   | refine LeO.ite ?_ ?_
   | refine LeO.bind ?_ (fun _ => ?_)
set_option maxHeartbeats 8000000 in
set_option maxRecDepth 100000 in
theorem ask_of.calls (k : Nat) (a0 : Int) (r1 : Int) (r2 : Int) (r3 : Int) (r4 : Int) (r5 : Bool) (w : World) (h : ask_of.f k a0 = some (r1, r2, r3, r4, r5)) :
  Calls Try.prog 65 #[.int .i64 a0] w fun e w' => e = .returned (.tuple #[.agg #[.int .i64 r1, .int .i64 r2, .int .i64 r3, .int .i64 r4], .bool r5]) ∧ Below w.heap.size w w' := by
 have hu76 := Try.underlying76
 have HB := Aside0.mk (Below.refl w.heap.size w)
 have H : (if a0 = 1 then (ask_of.j0 k a0 (a0 == 1)) else (ask_of.j0 k a0 (a0 == 2))) = some (r1, r2, r3, r4, r5) := h
 clear h
 have HC2 := Aside0.mk H
 clear H
 go_enter Try.func65, Try.ntmps65
 go_upto_if 5 with (first | ((with_reducible refine gate_dst (N := 2) rfl ?_); refine box_event ?hg (N := 2) ?hd (cs := #[.int .i64 0, .int .i64 0, .int .i64 0, .int .i64 0]) (t := 76) ?hr ?_; (case hd => rfl); (case hg => rfl); (case hr => first | (go_simp; done) | (go_simp; rfl)); intro gb101 hg w3 hbox hb; have n0_ := Aside0.mk (below_step (by repeat (first | (with_reducible first | exact HB.out | apply below_alloc | apply pw_below_drewN | apply below_drew1) | exact HB.out)) hb); have n1_ := Aside0.mk (hbox); have n2_ := Aside0.mk ((by rw [hg]; exact (below_size (by repeat (first | (with_reducible first | exact HB.out | apply below_alloc | apply pw_below_drewN | apply below_drew1) | exact HB.out))) : w.heap.size ≤ gb101)); have n3_ := Aside0.mk ((by rw [hg]; exact (below_size (by repeat (first | (with_reducible first | exact HB.out | apply below_alloc | apply pw_below_drewN | apply below_drew1) | exact HB.out))) : w.heap.size ≤ gb101)); clear HB; have HB := n0_; have BK101 := n1_; have GW101 := n2_; have GE101 := n3_; clear n0_ n1_ n2_ n3_; clear hb hbox hg))
 (try simp only [Act.put, List.setIfInBounds_toArray, List.set_cons_zero, List.set_cons_succ])
 go_cut [5] (fun v5 wc => ∃ (kq : Nat) (x5_1 : Bool), v5 = .bool x5_1 ∧ Aside0 (ask_of.j0 kq a0 x5_1 = some (r1, r2, r3, r4, r5)) ∧ Aside0 (kq ≤ k) ∧ Aside0 (wc.heap[gb101]? = some (.cells #[.int .i64 0, .int .i64 0, .int .i64 0, .int .i64 0] 76 (0, 0))) ∧ Aside0 (Below w.heap.size w wc))
 case first =>
  have H := HC2.out
  clear HC2
  by_cases c4 : a0 = 1
  ·rw [if_pos c4] at H
   have c4b0 : (a0 == 1) = true := beq_iff_eq.mpr c4
   have c4b1 : (a0 != 1) = false := bne_eq_false_iff_eq.mpr c4
   clear c4
   (first | rw [c4b0] | (simp only [i64_w, i32_w]; rw [c4b0]) | skip)
   have H' := Aside0.mk H
   clear H
   go_wp2
   go_meet
   case rel => exact ⟨_, ((a0 == 1)), (by first | rfl | (simp; done) | (simp [*]; done)), H', ⟨by first | omega | exact Nat.le_refl _⟩, ⟨by (with_reducible repeat (first | refine blk_drewN ?_ _ | refine blk_drew ?_ | refine blk_alloc ?_ _)); exact BK101.out⟩, ⟨by repeat (first | (with_reducible first | exact HB.out | apply below_alloc | apply pw_below_drewN | apply below_drew1 | refine below_set ?_ GE101.out) | exact HB.out)⟩⟩
  ·rw [if_neg c4] at H
   have c4b0 : (a0 == 1) = false := beq_eq_false_iff_ne.mpr c4
   have c4b1 : (a0 != 1) = true := bne_iff_ne.mpr c4
   (first | rw [c4b0] | (simp only [i64_w, i32_w]; rw [c4b0]) | skip)
   have H' := Aside0.mk H
   clear H
   go_wp2
   go_meet
   case rel => exact ⟨_, ((a0 == 2)), (by first | rfl | (simp; done) | (simp [*]; done)), H', ⟨by first | omega | exact Nat.le_refl _⟩, ⟨by (with_reducible repeat (first | refine blk_drewN ?_ _ | refine blk_drew ?_ | refine blk_alloc ?_ _)); exact BK101.out⟩, ⟨by repeat (first | (with_reducible first | exact HB.out | apply below_alloc | apply pw_below_drewN | apply below_drew1 | refine below_set ?_ GE101.out) | exact HB.out)⟩⟩
 case rest =>
  clear HC2
  try clear p2
  try clear c4
  try clear c4b0
  try clear c4b1
  obtain ⟨kq, x5_1, rfl, HA, HJ1, BK101, HB⟩ := hcut
  cases kq with
  | zero => exact absurd HA.out (by simp [ask_of.j0])
  | succ kj1 =>
   have H := HA.out
   clear HA
   simp only [ask_of.j0] at H
   by_cases c5 : x5_1 = true
   ·subst c5
    have H1 : (some (2000, 0, 0, 0, true)) = some (r1, r2, r3, r4, r5) := by rw [if_pos rfl] at H; exact H
    clear H
    have H := H1
    clear H1
    simp only [Option.some.injEq, Prod.mk.injEq] at H
    obtain ⟨rfl, rfl, rfl, rfl, rfl⟩ := H
    have hcz6_0 : wc.cell? ⟨gb101, 0, none⟩ = some (.int .i64 0) := (blk_cell BK101.out 0).trans rfl
    have hcz6_1 : wc.cell? ⟨gb101, 1, none⟩ = some (.int .i64 0) := (blk_cell BK101.out 1).trans rfl
    have hcz6_2 : wc.cell? ⟨gb101, 2, none⟩ = some (.int .i64 0) := (blk_cell BK101.out 2).trans rfl
    have hcz6_3 : wc.cell? ⟨gb101, 3, none⟩ = some (.int .i64 0) := (blk_cell BK101.out 3).trans rfl
    have hfz6_0 := blk_frozen BK101.out 0
    have hfz6_1 := blk_frozen BK101.out 1
    have hfz6_2 := blk_frozen BK101.out 2
    have hfz6_3 := blk_frozen BK101.out 3
    go_wp2
    refine bodyPost_ret (results_ct rfl _ _ gb101 76 #[.int .i64 2000, .int .i64 0, .int .i64 0, .int .i64 0] (0, 0) _ rfl (by (with_reducible repeat (first | refine blk_drewN ?_ _ | refine blk_drew ?_ | refine blk_alloc ?_ _)); refine blk_put (cs := #[.int .i64 2000, .int .i64 0, .int .i64 0, .int .i64 0]) ?_ 3 _ rfl; (with_reducible repeat (first | refine blk_drewN ?_ _ | refine blk_drew ?_ | refine blk_alloc ?_ _)); refine blk_put (cs := #[.int .i64 2000, .int .i64 0, .int .i64 0, .int .i64 0]) ?_ 2 _ rfl; (with_reducible repeat (first | refine blk_drewN ?_ _ | refine blk_drew ?_ | refine blk_alloc ?_ _)); refine blk_put (cs := #[.int .i64 2000, .int .i64 0, .int .i64 0, .int .i64 0]) ?_ 1 _ rfl; (with_reducible repeat (first | refine blk_drewN ?_ _ | refine blk_drew ?_ | refine blk_alloc ?_ _)); refine blk_put (cs := #[.int .i64 0, .int .i64 0, .int .i64 0, .int .i64 0]) ?_ 0 _ rfl; (with_reducible repeat (first | refine blk_drewN ?_ _ | refine blk_drew ?_ | refine blk_alloc ?_ _)); exact BK101.out) Try.underlying76 rfl (by kernel_rfl)) rfl ?_
    exact ⟨by first | rfl | (simp [errW_none, errW_some] <;> rfl) | (simp [*, errW_none, errW_some] <;> rfl), by repeat (first | (with_reducible first | exact HB.out | apply below_alloc | apply pw_below_drewN | apply below_drew1 | refine below_set ?_ GE101.out) | exact HB.out)⟩
   ·replace c5 := Bool.eq_false_iff.mpr c5
    subst c5
    have H1 : (if a0 = 3 then (ask_of.j1 kj1 a0 (a0 == 3)) else (ask_of.j1 kj1 a0 (a0 == 4))) = some (r1, r2, r3, r4, r5) := by rw [if_neg (show ¬ (false = true) by decide)] at H; exact H
    clear H
    have H := H1
    clear H1
    have HC7 := Aside0.mk H
    clear H
    go_upto_if 9 with (fail)
    go_cut [9] (fun v9 wc => ∃ (kq : Nat) (x9_6 : Bool), v9 = .bool x9_6 ∧ Aside0 (ask_of.j1 kq a0 x9_6 = some (r1, r2, r3, r4, r5)) ∧ Aside0 (kq ≤ kj1) ∧ Aside0 (wc.heap[gb101]? = some (.cells #[.int .i64 0, .int .i64 0, .int .i64 0, .int .i64 0] 76 (0, 0))) ∧ Aside0 (Below w.heap.size w wc))
    case first =>
     have H := HC7.out
     clear HC7
     by_cases c8 : a0 = 3
     ·rw [if_pos c8] at H
      have c8b0 : (a0 == 3) = true := beq_iff_eq.mpr c8
      have c8b1 : (a0 != 3) = false := bne_eq_false_iff_eq.mpr c8
      clear c8
      (first | rw [c8b0] | (simp only [i64_w, i32_w]; rw [c8b0]) | skip)
      have H' := Aside0.mk H
      clear H
      go_wp2
      go_meet
      case rel => exact ⟨_, ((a0 == 3)), (by first | rfl | (simp; done) | (simp [*]; done)), H', ⟨by have := HJ1.out; first | omega | exact Nat.le_refl _⟩, ⟨by (with_reducible repeat (first | refine blk_drewN ?_ _ | refine blk_drew ?_ | refine blk_alloc ?_ _)); exact BK101.out⟩, ⟨by repeat (first | (with_reducible first | exact HB.out | apply below_alloc | apply pw_below_drewN | apply below_drew1 | refine below_set ?_ GE101.out) | exact HB.out)⟩⟩
     ·rw [if_neg c8] at H
      have c8b0 : (a0 == 3) = false := beq_eq_false_iff_ne.mpr c8
      have c8b1 : (a0 != 3) = true := bne_iff_ne.mpr c8
      (first | rw [c8b0] | (simp only [i64_w, i32_w]; rw [c8b0]) | skip)
      have H' := Aside0.mk H
      clear H
      go_wp2
      go_meet
      case rel => exact ⟨_, ((a0 == 4)), (by first | rfl | (simp; done) | (simp [*]; done)), H', ⟨by have := HJ1.out; first | omega | exact Nat.le_refl _⟩, ⟨by (with_reducible repeat (first | refine blk_drewN ?_ _ | refine blk_drew ?_ | refine blk_alloc ?_ _)); exact BK101.out⟩, ⟨by repeat (first | (with_reducible first | exact HB.out | apply below_alloc | apply pw_below_drewN | apply below_drew1 | refine below_set ?_ GE101.out) | exact HB.out)⟩⟩
    case rest =>
     clear HC7
     try clear p2
     try clear c4
     try clear c4b0
     try clear c4b1
     try clear c5
     try clear c6
     try clear c8
     try clear c8b0
     try clear c8b1
     try clear hcz6_0
     try clear hcz6_1
     try clear hcz6_2
     try clear hcz6_3
     try clear hfz6_0
     try clear hfz6_1
     try clear hfz6_2
     try clear hfz6_3
     try clear p2
     obtain ⟨kq, x9_6, rfl, HA, HJ6, BK101, HB⟩ := hcut
     cases kq with
     | zero => exact absurd HA.out (by simp [ask_of.j1])
     | succ kj6 =>
      have H := HA.out
      clear HA
      simp only [ask_of.j1] at H
      by_cases c9 : x9_6 = true
      ·subst c9
       have H1 : (some (125, 0, 0, 0, true)) = some (r1, r2, r3, r4, r5) := by rw [if_pos rfl] at H; exact H
       clear H
       have H := H1
       clear H1
       simp only [Option.some.injEq, Prod.mk.injEq] at H
       obtain ⟨rfl, rfl, rfl, rfl, rfl⟩ := H
       have hcz10_0 : wc.cell? ⟨gb101, 0, none⟩ = some (.int .i64 0) := (blk_cell BK101.out 0).trans rfl
       have hcz10_1 : wc.cell? ⟨gb101, 1, none⟩ = some (.int .i64 0) := (blk_cell BK101.out 1).trans rfl
       have hcz10_2 : wc.cell? ⟨gb101, 2, none⟩ = some (.int .i64 0) := (blk_cell BK101.out 2).trans rfl
       have hcz10_3 : wc.cell? ⟨gb101, 3, none⟩ = some (.int .i64 0) := (blk_cell BK101.out 3).trans rfl
       have hfz10_0 := blk_frozen BK101.out 0
       have hfz10_1 := blk_frozen BK101.out 1
       have hfz10_2 := blk_frozen BK101.out 2
       have hfz10_3 := blk_frozen BK101.out 3
       go_wp2
       refine bodyPost_ret (results_ct rfl _ _ gb101 76 #[.int .i64 125, .int .i64 0, .int .i64 0, .int .i64 0] (0, 0) _ rfl (by (with_reducible repeat (first | refine blk_drewN ?_ _ | refine blk_drew ?_ | refine blk_alloc ?_ _)); refine blk_put (cs := #[.int .i64 125, .int .i64 0, .int .i64 0, .int .i64 0]) ?_ 3 _ rfl; (with_reducible repeat (first | refine blk_drewN ?_ _ | refine blk_drew ?_ | refine blk_alloc ?_ _)); refine blk_put (cs := #[.int .i64 125, .int .i64 0, .int .i64 0, .int .i64 0]) ?_ 2 _ rfl; (with_reducible repeat (first | refine blk_drewN ?_ _ | refine blk_drew ?_ | refine blk_alloc ?_ _)); refine blk_put (cs := #[.int .i64 125, .int .i64 0, .int .i64 0, .int .i64 0]) ?_ 1 _ rfl; (with_reducible repeat (first | refine blk_drewN ?_ _ | refine blk_drew ?_ | refine blk_alloc ?_ _)); refine blk_put (cs := #[.int .i64 0, .int .i64 0, .int .i64 0, .int .i64 0]) ?_ 0 _ rfl; (with_reducible repeat (first | refine blk_drewN ?_ _ | refine blk_drew ?_ | refine blk_alloc ?_ _)); exact BK101.out) Try.underlying76 rfl (by kernel_rfl)) rfl ?_
       exact ⟨by first | rfl | (simp [errW_none, errW_some] <;> rfl) | (simp [*, errW_none, errW_some] <;> rfl), by repeat (first | (with_reducible first | exact HB.out | apply below_alloc | apply pw_below_drewN | apply below_drew1 | refine below_set ?_ GE101.out) | exact HB.out)⟩
      ·replace c9 := Bool.eq_false_iff.mpr c9
       subst c9
       have H1 : (if a0 = 5 then (some (0, 1, 0, 1, true)) else (if a0 = 6 then (some (0, 1, 0, 65535, true)) else (if a0 = 15 then (some (0, 1968, 0, 1, true)) else (if a0 = 16 then (some (0, 123, 0, 65535, true)) else (if a0 = 22 then (some (0, 1, 2, 65535, true)) else (if a0 = 23 then (some (125, 121, 0, 65535, true)) else (some (0, 0, 0, 0, false)))))))) = some (r1, r2, r3, r4, r5) := by rw [if_neg (show ¬ (false = true) by decide)] at H; exact H
       clear H
       have H := H1
       clear H1
       by_cases c11 : a0 = 5
       ·rw [if_pos c11] at H
        have c11b0 : (a0 == 5) = true := beq_iff_eq.mpr c11
        have c11b1 : (a0 != 5) = false := bne_eq_false_iff_eq.mpr c11
        clear c11
        simp only [Option.some.injEq, Prod.mk.injEq] at H
        obtain ⟨rfl, rfl, rfl, rfl, rfl⟩ := H
        have hcz12_0 : wc.cell? ⟨gb101, 0, none⟩ = some (.int .i64 0) := (blk_cell BK101.out 0).trans rfl
        have hcz12_1 : wc.cell? ⟨gb101, 1, none⟩ = some (.int .i64 0) := (blk_cell BK101.out 1).trans rfl
        have hcz12_2 : wc.cell? ⟨gb101, 2, none⟩ = some (.int .i64 0) := (blk_cell BK101.out 2).trans rfl
        have hcz12_3 : wc.cell? ⟨gb101, 3, none⟩ = some (.int .i64 0) := (blk_cell BK101.out 3).trans rfl
        have hfz12_0 := blk_frozen BK101.out 0
        have hfz12_1 := blk_frozen BK101.out 1
        have hfz12_2 := blk_frozen BK101.out 2
        have hfz12_3 := blk_frozen BK101.out 3
        go_wp2
        refine bodyPost_ret (results_ct rfl _ _ gb101 76 #[.int .i64 0, .int .i64 1, .int .i64 0, .int .i64 1] (0, 0) _ rfl (by (with_reducible repeat (first | refine blk_drewN ?_ _ | refine blk_drew ?_ | refine blk_alloc ?_ _)); refine blk_put (cs := #[.int .i64 0, .int .i64 1, .int .i64 0, .int .i64 0]) ?_ 3 _ rfl; (with_reducible repeat (first | refine blk_drewN ?_ _ | refine blk_drew ?_ | refine blk_alloc ?_ _)); refine blk_put (cs := #[.int .i64 0, .int .i64 1, .int .i64 0, .int .i64 0]) ?_ 2 _ rfl; (with_reducible repeat (first | refine blk_drewN ?_ _ | refine blk_drew ?_ | refine blk_alloc ?_ _)); refine blk_put (cs := #[.int .i64 0, .int .i64 0, .int .i64 0, .int .i64 0]) ?_ 1 _ rfl; (with_reducible repeat (first | refine blk_drewN ?_ _ | refine blk_drew ?_ | refine blk_alloc ?_ _)); refine blk_put (cs := #[.int .i64 0, .int .i64 0, .int .i64 0, .int .i64 0]) ?_ 0 _ rfl; (with_reducible repeat (first | refine blk_drewN ?_ _ | refine blk_drew ?_ | refine blk_alloc ?_ _)); exact BK101.out) Try.underlying76 rfl (by kernel_rfl)) rfl ?_
        exact ⟨by first | rfl | (simp [errW_none, errW_some] <;> rfl) | (simp [*, errW_none, errW_some] <;> rfl), by repeat (first | (with_reducible first | exact HB.out | apply below_alloc | apply pw_below_drewN | apply below_drew1 | refine below_set ?_ GE101.out) | exact HB.out)⟩
       ·rw [if_neg c11] at H
        have c11b0 : (a0 == 5) = false := beq_eq_false_iff_ne.mpr c11
        have c11b1 : (a0 != 5) = true := bne_iff_ne.mpr c11
        by_cases c13 : a0 = 6
        ·rw [if_pos c13] at H
         have c13b0 : (a0 == 6) = true := beq_iff_eq.mpr c13
         have c13b1 : (a0 != 6) = false := bne_eq_false_iff_eq.mpr c13
         clear c13
         simp only [Option.some.injEq, Prod.mk.injEq] at H
         obtain ⟨rfl, rfl, rfl, rfl, rfl⟩ := H
         have hcz14_0 : wc.cell? ⟨gb101, 0, none⟩ = some (.int .i64 0) := (blk_cell BK101.out 0).trans rfl
         have hcz14_1 : wc.cell? ⟨gb101, 1, none⟩ = some (.int .i64 0) := (blk_cell BK101.out 1).trans rfl
         have hcz14_2 : wc.cell? ⟨gb101, 2, none⟩ = some (.int .i64 0) := (blk_cell BK101.out 2).trans rfl
         have hcz14_3 : wc.cell? ⟨gb101, 3, none⟩ = some (.int .i64 0) := (blk_cell BK101.out 3).trans rfl
         have hfz14_0 := blk_frozen BK101.out 0
         have hfz14_1 := blk_frozen BK101.out 1
         have hfz14_2 := blk_frozen BK101.out 2
         have hfz14_3 := blk_frozen BK101.out 3
         go_wp2
         refine bodyPost_ret (results_ct rfl _ _ gb101 76 #[.int .i64 0, .int .i64 1, .int .i64 0, .int .i64 65535] (0, 0) _ rfl (by (with_reducible repeat (first | refine blk_drewN ?_ _ | refine blk_drew ?_ | refine blk_alloc ?_ _)); refine blk_put (cs := #[.int .i64 0, .int .i64 1, .int .i64 0, .int .i64 0]) ?_ 3 _ rfl; (with_reducible repeat (first | refine blk_drewN ?_ _ | refine blk_drew ?_ | refine blk_alloc ?_ _)); refine blk_put (cs := #[.int .i64 0, .int .i64 1, .int .i64 0, .int .i64 0]) ?_ 2 _ rfl; (with_reducible repeat (first | refine blk_drewN ?_ _ | refine blk_drew ?_ | refine blk_alloc ?_ _)); refine blk_put (cs := #[.int .i64 0, .int .i64 0, .int .i64 0, .int .i64 0]) ?_ 1 _ rfl; (with_reducible repeat (first | refine blk_drewN ?_ _ | refine blk_drew ?_ | refine blk_alloc ?_ _)); refine blk_put (cs := #[.int .i64 0, .int .i64 0, .int .i64 0, .int .i64 0]) ?_ 0 _ rfl; (with_reducible repeat (first | refine blk_drewN ?_ _ | refine blk_drew ?_ | refine blk_alloc ?_ _)); exact BK101.out) Try.underlying76 rfl (by kernel_rfl)) rfl ?_
         exact ⟨by first | rfl | (simp [errW_none, errW_some] <;> rfl) | (simp [*, errW_none, errW_some] <;> rfl), by repeat (first | (with_reducible first | exact HB.out | apply below_alloc | apply pw_below_drewN | apply below_drew1 | refine below_set ?_ GE101.out) | exact HB.out)⟩
        ·rw [if_neg c13] at H
         have c13b0 : (a0 == 6) = false := beq_eq_false_iff_ne.mpr c13
         have c13b1 : (a0 != 6) = true := bne_iff_ne.mpr c13
         by_cases c15 : a0 = 15
         ·rw [if_pos c15] at H
          have c15b0 : (a0 == 15) = true := beq_iff_eq.mpr c15
          have c15b1 : (a0 != 15) = false := bne_eq_false_iff_eq.mpr c15
          clear c15
          simp only [Option.some.injEq, Prod.mk.injEq] at H
          obtain ⟨rfl, rfl, rfl, rfl, rfl⟩ := H
          have hcz16_0 : wc.cell? ⟨gb101, 0, none⟩ = some (.int .i64 0) := (blk_cell BK101.out 0).trans rfl
          have hcz16_1 : wc.cell? ⟨gb101, 1, none⟩ = some (.int .i64 0) := (blk_cell BK101.out 1).trans rfl
          have hcz16_2 : wc.cell? ⟨gb101, 2, none⟩ = some (.int .i64 0) := (blk_cell BK101.out 2).trans rfl
          have hcz16_3 : wc.cell? ⟨gb101, 3, none⟩ = some (.int .i64 0) := (blk_cell BK101.out 3).trans rfl
          have hfz16_0 := blk_frozen BK101.out 0
          have hfz16_1 := blk_frozen BK101.out 1
          have hfz16_2 := blk_frozen BK101.out 2
          have hfz16_3 := blk_frozen BK101.out 3
          go_wp2
          refine bodyPost_ret (results_ct rfl _ _ gb101 76 #[.int .i64 0, .int .i64 1968, .int .i64 0, .int .i64 1] (0, 0) _ rfl (by (with_reducible repeat (first | refine blk_drewN ?_ _ | refine blk_drew ?_ | refine blk_alloc ?_ _)); refine blk_put (cs := #[.int .i64 0, .int .i64 1968, .int .i64 0, .int .i64 0]) ?_ 3 _ rfl; (with_reducible repeat (first | refine blk_drewN ?_ _ | refine blk_drew ?_ | refine blk_alloc ?_ _)); refine blk_put (cs := #[.int .i64 0, .int .i64 1968, .int .i64 0, .int .i64 0]) ?_ 2 _ rfl; (with_reducible repeat (first | refine blk_drewN ?_ _ | refine blk_drew ?_ | refine blk_alloc ?_ _)); refine blk_put (cs := #[.int .i64 0, .int .i64 0, .int .i64 0, .int .i64 0]) ?_ 1 _ rfl; (with_reducible repeat (first | refine blk_drewN ?_ _ | refine blk_drew ?_ | refine blk_alloc ?_ _)); refine blk_put (cs := #[.int .i64 0, .int .i64 0, .int .i64 0, .int .i64 0]) ?_ 0 _ rfl; (with_reducible repeat (first | refine blk_drewN ?_ _ | refine blk_drew ?_ | refine blk_alloc ?_ _)); exact BK101.out) Try.underlying76 rfl (by kernel_rfl)) rfl ?_
          exact ⟨by first | rfl | (simp [errW_none, errW_some] <;> rfl) | (simp [*, errW_none, errW_some] <;> rfl), by repeat (first | (with_reducible first | exact HB.out | apply below_alloc | apply pw_below_drewN | apply below_drew1 | refine below_set ?_ GE101.out) | exact HB.out)⟩
         ·rw [if_neg c15] at H
          have c15b0 : (a0 == 15) = false := beq_eq_false_iff_ne.mpr c15
          have c15b1 : (a0 != 15) = true := bne_iff_ne.mpr c15
          by_cases c17 : a0 = 16
          ·rw [if_pos c17] at H
           have c17b0 : (a0 == 16) = true := beq_iff_eq.mpr c17
           have c17b1 : (a0 != 16) = false := bne_eq_false_iff_eq.mpr c17
           clear c17
           simp only [Option.some.injEq, Prod.mk.injEq] at H
           obtain ⟨rfl, rfl, rfl, rfl, rfl⟩ := H
           have hcz18_0 : wc.cell? ⟨gb101, 0, none⟩ = some (.int .i64 0) := (blk_cell BK101.out 0).trans rfl
           have hcz18_1 : wc.cell? ⟨gb101, 1, none⟩ = some (.int .i64 0) := (blk_cell BK101.out 1).trans rfl
           have hcz18_2 : wc.cell? ⟨gb101, 2, none⟩ = some (.int .i64 0) := (blk_cell BK101.out 2).trans rfl
           have hcz18_3 : wc.cell? ⟨gb101, 3, none⟩ = some (.int .i64 0) := (blk_cell BK101.out 3).trans rfl
           have hfz18_0 := blk_frozen BK101.out 0
           have hfz18_1 := blk_frozen BK101.out 1
           have hfz18_2 := blk_frozen BK101.out 2
           have hfz18_3 := blk_frozen BK101.out 3
           go_wp2
           refine bodyPost_ret (results_ct rfl _ _ gb101 76 #[.int .i64 0, .int .i64 123, .int .i64 0, .int .i64 65535] (0, 0) _ rfl (by (with_reducible repeat (first | refine blk_drewN ?_ _ | refine blk_drew ?_ | refine blk_alloc ?_ _)); refine blk_put (cs := #[.int .i64 0, .int .i64 123, .int .i64 0, .int .i64 0]) ?_ 3 _ rfl; (with_reducible repeat (first | refine blk_drewN ?_ _ | refine blk_drew ?_ | refine blk_alloc ?_ _)); refine blk_put (cs := #[.int .i64 0, .int .i64 123, .int .i64 0, .int .i64 0]) ?_ 2 _ rfl; (with_reducible repeat (first | refine blk_drewN ?_ _ | refine blk_drew ?_ | refine blk_alloc ?_ _)); refine blk_put (cs := #[.int .i64 0, .int .i64 0, .int .i64 0, .int .i64 0]) ?_ 1 _ rfl; (with_reducible repeat (first | refine blk_drewN ?_ _ | refine blk_drew ?_ | refine blk_alloc ?_ _)); refine blk_put (cs := #[.int .i64 0, .int .i64 0, .int .i64 0, .int .i64 0]) ?_ 0 _ rfl; (with_reducible repeat (first | refine blk_drewN ?_ _ | refine blk_drew ?_ | refine blk_alloc ?_ _)); exact BK101.out) Try.underlying76 rfl (by kernel_rfl)) rfl ?_
           exact ⟨by first | rfl | (simp [errW_none, errW_some] <;> rfl) | (simp [*, errW_none, errW_some] <;> rfl), by repeat (first | (with_reducible first | exact HB.out | apply below_alloc | apply pw_below_drewN | apply below_drew1 | refine below_set ?_ GE101.out) | exact HB.out)⟩
          ·rw [if_neg c17] at H
           have c17b0 : (a0 == 16) = false := beq_eq_false_iff_ne.mpr c17
           have c17b1 : (a0 != 16) = true := bne_iff_ne.mpr c17
           by_cases c19 : a0 = 22
           ·rw [if_pos c19] at H
            have c19b0 : (a0 == 22) = true := beq_iff_eq.mpr c19
            have c19b1 : (a0 != 22) = false := bne_eq_false_iff_eq.mpr c19
            clear c19
            simp only [Option.some.injEq, Prod.mk.injEq] at H
            obtain ⟨rfl, rfl, rfl, rfl, rfl⟩ := H
            have hcz20_0 : wc.cell? ⟨gb101, 0, none⟩ = some (.int .i64 0) := (blk_cell BK101.out 0).trans rfl
            have hcz20_1 : wc.cell? ⟨gb101, 1, none⟩ = some (.int .i64 0) := (blk_cell BK101.out 1).trans rfl
            have hcz20_2 : wc.cell? ⟨gb101, 2, none⟩ = some (.int .i64 0) := (blk_cell BK101.out 2).trans rfl
            have hcz20_3 : wc.cell? ⟨gb101, 3, none⟩ = some (.int .i64 0) := (blk_cell BK101.out 3).trans rfl
            have hfz20_0 := blk_frozen BK101.out 0
            have hfz20_1 := blk_frozen BK101.out 1
            have hfz20_2 := blk_frozen BK101.out 2
            have hfz20_3 := blk_frozen BK101.out 3
            go_wp2
            refine bodyPost_ret (results_ct rfl _ _ gb101 76 #[.int .i64 0, .int .i64 1, .int .i64 2, .int .i64 65535] (0, 0) _ rfl (by (with_reducible repeat (first | refine blk_drewN ?_ _ | refine blk_drew ?_ | refine blk_alloc ?_ _)); refine blk_put (cs := #[.int .i64 0, .int .i64 1, .int .i64 2, .int .i64 0]) ?_ 3 _ rfl; (with_reducible repeat (first | refine blk_drewN ?_ _ | refine blk_drew ?_ | refine blk_alloc ?_ _)); refine blk_put (cs := #[.int .i64 0, .int .i64 1, .int .i64 0, .int .i64 0]) ?_ 2 _ rfl; (with_reducible repeat (first | refine blk_drewN ?_ _ | refine blk_drew ?_ | refine blk_alloc ?_ _)); refine blk_put (cs := #[.int .i64 0, .int .i64 0, .int .i64 0, .int .i64 0]) ?_ 1 _ rfl; (with_reducible repeat (first | refine blk_drewN ?_ _ | refine blk_drew ?_ | refine blk_alloc ?_ _)); refine blk_put (cs := #[.int .i64 0, .int .i64 0, .int .i64 0, .int .i64 0]) ?_ 0 _ rfl; (with_reducible repeat (first | refine blk_drewN ?_ _ | refine blk_drew ?_ | refine blk_alloc ?_ _)); exact BK101.out) Try.underlying76 rfl (by kernel_rfl)) rfl ?_
            exact ⟨by first | rfl | (simp [errW_none, errW_some] <;> rfl) | (simp [*, errW_none, errW_some] <;> rfl), by repeat (first | (with_reducible first | exact HB.out | apply below_alloc | apply pw_below_drewN | apply below_drew1 | refine below_set ?_ GE101.out) | exact HB.out)⟩
           ·rw [if_neg c19] at H
            have c19b0 : (a0 == 22) = false := beq_eq_false_iff_ne.mpr c19
            have c19b1 : (a0 != 22) = true := bne_iff_ne.mpr c19
            by_cases c21 : a0 = 23
            ·rw [if_pos c21] at H
             have c21b0 : (a0 == 23) = true := beq_iff_eq.mpr c21
             have c21b1 : (a0 != 23) = false := bne_eq_false_iff_eq.mpr c21
             clear c21
             simp only [Option.some.injEq, Prod.mk.injEq] at H
             obtain ⟨rfl, rfl, rfl, rfl, rfl⟩ := H
             have hcz22_0 : wc.cell? ⟨gb101, 0, none⟩ = some (.int .i64 0) := (blk_cell BK101.out 0).trans rfl
             have hcz22_1 : wc.cell? ⟨gb101, 1, none⟩ = some (.int .i64 0) := (blk_cell BK101.out 1).trans rfl
             have hcz22_2 : wc.cell? ⟨gb101, 2, none⟩ = some (.int .i64 0) := (blk_cell BK101.out 2).trans rfl
             have hcz22_3 : wc.cell? ⟨gb101, 3, none⟩ = some (.int .i64 0) := (blk_cell BK101.out 3).trans rfl
             have hfz22_0 := blk_frozen BK101.out 0
             have hfz22_1 := blk_frozen BK101.out 1
             have hfz22_2 := blk_frozen BK101.out 2
             have hfz22_3 := blk_frozen BK101.out 3
             go_wp2
             refine bodyPost_ret (results_ct rfl _ _ gb101 76 #[.int .i64 125, .int .i64 121, .int .i64 0, .int .i64 65535] (0, 0) _ rfl (by (with_reducible repeat (first | refine blk_drewN ?_ _ | refine blk_drew ?_ | refine blk_alloc ?_ _)); refine blk_put (cs := #[.int .i64 125, .int .i64 121, .int .i64 0, .int .i64 0]) ?_ 3 _ rfl; (with_reducible repeat (first | refine blk_drewN ?_ _ | refine blk_drew ?_ | refine blk_alloc ?_ _)); refine blk_put (cs := #[.int .i64 125, .int .i64 121, .int .i64 0, .int .i64 0]) ?_ 2 _ rfl; (with_reducible repeat (first | refine blk_drewN ?_ _ | refine blk_drew ?_ | refine blk_alloc ?_ _)); refine blk_put (cs := #[.int .i64 125, .int .i64 0, .int .i64 0, .int .i64 0]) ?_ 1 _ rfl; (with_reducible repeat (first | refine blk_drewN ?_ _ | refine blk_drew ?_ | refine blk_alloc ?_ _)); refine blk_put (cs := #[.int .i64 0, .int .i64 0, .int .i64 0, .int .i64 0]) ?_ 0 _ rfl; (with_reducible repeat (first | refine blk_drewN ?_ _ | refine blk_drew ?_ | refine blk_alloc ?_ _)); exact BK101.out) Try.underlying76 rfl (by kernel_rfl)) rfl ?_
             exact ⟨by first | rfl | (simp [errW_none, errW_some] <;> rfl) | (simp [*, errW_none, errW_some] <;> rfl), by repeat (first | (with_reducible first | exact HB.out | apply below_alloc | apply pw_below_drewN | apply below_drew1 | refine below_set ?_ GE101.out) | exact HB.out)⟩
            ·rw [if_neg c21] at H
             have c21b0 : (a0 == 23) = false := beq_eq_false_iff_ne.mpr c21
             have c21b1 : (a0 != 23) = true := bne_iff_ne.mpr c21
             simp only [Option.some.injEq, Prod.mk.injEq] at H
             obtain ⟨rfl, rfl, rfl, rfl, rfl⟩ := H
             have hcz23_0 : wc.cell? ⟨gb101, 0, none⟩ = some (.int .i64 0) := (blk_cell BK101.out 0).trans rfl
             have hcz23_1 : wc.cell? ⟨gb101, 1, none⟩ = some (.int .i64 0) := (blk_cell BK101.out 1).trans rfl
             have hcz23_2 : wc.cell? ⟨gb101, 2, none⟩ = some (.int .i64 0) := (blk_cell BK101.out 2).trans rfl
             have hcz23_3 : wc.cell? ⟨gb101, 3, none⟩ = some (.int .i64 0) := (blk_cell BK101.out 3).trans rfl
             have hfz23_0 := blk_frozen BK101.out 0
             have hfz23_1 := blk_frozen BK101.out 1
             have hfz23_2 := blk_frozen BK101.out 2
             have hfz23_3 := blk_frozen BK101.out 3
             go_wp2
             refine bodyPost_ret (results_ct rfl _ _ gb101 76 #[.int .i64 0, .int .i64 0, .int .i64 0, .int .i64 0] (0, 0) _ rfl (by (with_reducible repeat (first | refine blk_drewN ?_ _ | refine blk_drew ?_ | refine blk_alloc ?_ _)); refine blk_put (cs := #[.int .i64 0, .int .i64 0, .int .i64 0, .int .i64 0]) ?_ 3 _ rfl; (with_reducible repeat (first | refine blk_drewN ?_ _ | refine blk_drew ?_ | refine blk_alloc ?_ _)); refine blk_put (cs := #[.int .i64 0, .int .i64 0, .int .i64 0, .int .i64 0]) ?_ 2 _ rfl; (with_reducible repeat (first | refine blk_drewN ?_ _ | refine blk_drew ?_ | refine blk_alloc ?_ _)); refine blk_put (cs := #[.int .i64 0, .int .i64 0, .int .i64 0, .int .i64 0]) ?_ 1 _ rfl; (with_reducible repeat (first | refine blk_drewN ?_ _ | refine blk_drew ?_ | refine blk_alloc ?_ _)); refine blk_put (cs := #[.int .i64 0, .int .i64 0, .int .i64 0, .int .i64 0]) ?_ 0 _ rfl; (with_reducible repeat (first | refine blk_drewN ?_ _ | refine blk_drew ?_ | refine blk_alloc ?_ _)); exact BK101.out) Try.underlying76 rfl (by kernel_rfl)) rfl ?_
             exact ⟨by first | rfl | (simp [errW_none, errW_some] <;> rfl) | (simp [*, errW_none, errW_some] <;> rfl), by repeat (first | (with_reducible first | exact HB.out | apply below_alloc | apply pw_below_drewN | apply below_drew1 | refine below_set ?_ GE101.out) | exact HB.out)⟩

/-! ### ask_part: function 72 -/
def ask_part.f (a0 : Int) (a1 : Int) (a2 : Int) : Option (Bool) := if a2 = 0 then (if a0 = 0 then (some (a1 == 0)) else (some false)) else (if a0 ≥ 0 then (if a0 ≤ 65535 then (if a1 ≥ 1 then (some (decide (a1 ≤ a2))) else (some false)) else (some false)) else (some false))
set_option maxHeartbeats 8000000 in
set_option maxRecDepth 100000 in
theorem ask_part.calls (a0 : Int) (a1 : Int) (a2 : Int) (r : Bool) (w : World) (h : ask_part.f a0 a1 a2 = some r) :
  Calls Try.prog 72 #[.int .i64 a0, .int .i64 a1, .int .i64 a2] w fun e w' => e = .returned (.bool r) ∧ Drawn0 w w' := by
 have H : (if a2 = 0 then (if a0 = 0 then (some (a1 == 0)) else (some false)) else (if a0 ≥ 0 then (if a0 ≤ 65535 then (if a1 ≥ 1 then (some (decide (a1 ≤ a2))) else (some false)) else (some false)) else (some false))) = some r := h
 clear h
 by_cases c4 : a2 = 0
 ·rw [if_pos c4] at H
  have c4b0 : (a2 == 0) = true := beq_iff_eq.mpr c4
  have c4b1 : (a2 != 0) = false := bne_eq_false_iff_eq.mpr c4
  clear c4
  by_cases c5 : a0 = 0
  ·rw [if_pos c5] at H
   have c5b0 : (a0 == 0) = true := beq_iff_eq.mpr c5
   have c5b1 : (a0 != 0) = false := bne_eq_false_iff_eq.mpr c5
   clear c5
   obtain rfl := Option.some.inj H
   go_enter Try.func72, Try.ntmps72
   go_wp2
   go_ret
   exact ⟨by first | rfl | (simp; done) | (simp [*]; done), by repeat (first | exact Drawn0.refl _ | apply Drawn0.step)⟩
  ·rw [if_neg c5] at H
   have c5b0 : (a0 == 0) = false := beq_eq_false_iff_ne.mpr c5
   have c5b1 : (a0 != 0) = true := bne_iff_ne.mpr c5
   obtain rfl := Option.some.inj H
   go_enter Try.func72, Try.ntmps72
   go_wp2
   go_ret
   exact ⟨by first | rfl | (simp; done) | (simp [*]; done), by repeat (first | exact Drawn0.refl _ | apply Drawn0.step)⟩
 ·rw [if_neg c4] at H
  have c4b0 : (a2 == 0) = false := beq_eq_false_iff_ne.mpr c4
  have c4b1 : (a2 != 0) = true := bne_iff_ne.mpr c4
  by_cases c6 : a0 ≥ 0
  ·rw [if_pos c6] at H
   have c6b0 : decide (0 ≤ a0) = true := decide_eq_true c6
   clear c6
   by_cases c7 : a0 ≤ 65535
   ·rw [if_pos c7] at H
    have c7b0 : decide (a0 ≤ 65535) = true := decide_eq_true c7
    clear c7
    by_cases c8 : a1 ≥ 1
    ·rw [if_pos c8] at H
     have c8b0 : decide (1 ≤ a1) = true := decide_eq_true c8
     clear c8
     obtain rfl := Option.some.inj H
     go_enter Try.func72, Try.ntmps72
     go_wp2
     go_ret
     exact ⟨by first | rfl | (simp; done) | (simp [*]; done), by repeat (first | exact Drawn0.refl _ | apply Drawn0.step)⟩
    ·rw [if_neg c8] at H
     have c8b0 : decide (1 ≤ a1) = false := decide_eq_false c8
     clear c8
     obtain rfl := Option.some.inj H
     go_enter Try.func72, Try.ntmps72
     go_wp2
     go_ret
     exact ⟨by first | rfl | (simp; done) | (simp [*]; done), by repeat (first | exact Drawn0.refl _ | apply Drawn0.step)⟩
   ·rw [if_neg c7] at H
    have c7b0 : decide (a0 ≤ 65535) = false := decide_eq_false c7
    clear c7
    obtain rfl := Option.some.inj H
    go_enter Try.func72, Try.ntmps72
    go_wp2
    go_ret
    exact ⟨by first | rfl | (simp; done) | (simp [*]; done), by repeat (first | exact Drawn0.refl _ | apply Drawn0.step)⟩
  ·rw [if_neg c6] at H
   have c6b0 : decide (0 ≤ a0) = false := decide_eq_false c6
   clear c6
   obtain rfl := Option.some.inj H
   go_enter Try.func72, Try.ntmps72
   go_wp2
   go_ret
   exact ⟨by first | rfl | (simp; done) | (simp [*]; done), by repeat (first | exact Drawn0.refl _ | apply Drawn0.step)⟩

/-- A predicate's call, in every world in which all that lay in w lies unturned. -/
def PredOn (g : Nat) (lb : Array Value) (p : Int → Bool) (w : World) : Prop :=
 ∀ (W : World) (x : Int), Below w.heap.size w W → Calls Try.prog g (#[.int .i64 x] ++ lb) W fun e w' => e = .returned (.bool (p x)) ∧ Below W.heap.size W w'
def idxB (p : Int → Bool) : List Int → Nat → Int
 | [], _ => -1
 | x :: t, i => if p x then (i : Int) else idxB p t (i + 1)
set_option maxHeartbeats 8000000 in
set_option maxRecDepth 100000 in
theorem IndexFunc_int.calls (A0 : Option Addr) (c0 : Nat) (l0 : List Int) (g : Nat) (lb : Array Value) (p : Int → Bool) (w : World) (hr0 : Kd.C (Kd.int .i64) w A0 l0.length l0) (hc0 : l0.length ≤ c0) (hm : l0.length ≤ 9223372036854775807)
  (eg : ∀ args w, (callFunc g args).run Try.prog w = .ok (.enter g args) w) (hp : PredOn g lb p w) :
  Calls Try.prog 87 #[.slice A0 l0.length c0, .func (.func g) #[] lb] w fun e w' => e = .returned (.int .i64 (idxB p l0 0)) ∧ Below w.heap.size w w' := by
 have HR0 := Aside0.mk hr0
 have HP := Aside0.mk hp
 clear hr0 hp
 obtain ⟨n, hn⟩ : ∃ n, n = l0.length := ⟨_, rfl⟩
 go_enter Try.func87, Try.ntmps87
 go_wp2
 go_loopg [5, 8] l0.length (fun gg s5 s8 wr => ∃ kk : Nat, kk ≤ l0.length ∧ l0.length - kk ≤ gg ∧ s8 = .int .i64 kk ∧ Aside0 (Below w.heap.size w wr) ∧ Aside0 (idxB p l0 0 = idxB p (l0.drop kk) kk))
 case atStart => exact ⟨0, Nat.zero_le _, by omega, rfl, ⟨Below.refl _ _⟩, ⟨rfl⟩⟩
 case round =>
  obtain ⟨kk, hkk, hg, rfl, D, A⟩ := hrel
  by_cases hlt : kk < l0.length
  ·have hltz : ((kk : Int) < (l0.length : Int)) := by omega
   obtain ⟨ad, hA, hcell⟩ := Kd.at_int (Kd.C_below HR0.out D.out) (kk : Int) (by omega) (by omega)
   subst hA
   rw [Int.toNat_natCast] at hcell
   obtain ⟨y, hy⟩ : ∃ y, y = rd l0 (kk : Int) := ⟨_, rfl⟩
   rw [← hy] at hcell
   have HY := Aside0.mk hy
   clear hy
   have hcall := HP.out wr y D.out
   have hd : l0.drop kk = y :: l0.drop (kk + 1) := by
    rw [HY.out]
    have : rd l0 (kk : Int) = l0[kk] := by simp [rd, List.getD_eq_getElem?_getD, List.getElem?_eq_getElem hlt]
    rw [this]; exact List.drop_eq_getElem_cons hlt
   have HD := Aside0.mk hd
   clear hd
   cases hq : p y with
   | true =>
    rw [hq] at hcall
    have HQ := Aside0.mk hq
    clear hq
    go_wp2_with fail
    refine hcall.mono ?_
    rintro e w1 ⟨rfl, hw⟩
    go_wp2_with fail
    go_ret
    refine ⟨?_, ?_⟩
    ·rw [A.out, HD.out, idxB, if_pos HQ.out]
     rfl
    ·exact below_step D.out hw
   | false =>
    rw [hq] at hcall
    have HQ := Aside0.mk hq
    clear hq
    go_wp2_with fail
    refine hcall.mono ?_
    rintro e w1 ⟨rfl, hw⟩
    go_wp2_with fail
    go_roundg (l0.length - (kk + 1))
    case measure => omega
    case rel =>
     refine ⟨kk + 1, by omega, by omega, by go_num, ⟨below_step D.out hw⟩, ⟨?_⟩⟩
     rw [A.out, HD.out, idxB, if_neg (by rw [HQ.out]; decide)]
  ·have hltz : ¬ ((kk : Int) < (l0.length : Int)) := by omega
   go_wp2
   go_ret
   refine ⟨?_, D.out⟩
   rw [A.out, List.drop_of_length_le (by omega)]
   rfl

theorem idxB_any (p : Int → Bool) : ∀ (l : List Int) (i : Nat), decide (idxB p l i ≥ 0) = l.any p := by
 intro l
 induction l with
 | nil => intro i; rfl
 | cons x t ih =>
  intro i
  rw [idxB, List.any_cons]
  cases h : p x with
  | true => rw [if_pos rfl, Bool.true_or]; exact decide_eq_true (by omega)
  | false => rw [if_neg (by decide), Bool.false_or]; exact ih (i + 1)
set_option maxHeartbeats 8000000 in
theorem ContainsFunc_int.calls (A0 : Option Addr) (c0 : Nat) (l0 : List Int) (g : Nat) (lb : Array Value) (p : Int → Bool) (w : World) (hr0 : Kd.C (Kd.int .i64) w A0 l0.length l0) (hc0 : l0.length ≤ c0) (hm : l0.length ≤ 9223372036854775807)
  (eg : ∀ args w, (callFunc g args).run Try.prog w = .ok (.enter g args) w) (hp : PredOn g lb p w) :
  Calls Try.prog 73 #[.slice A0 l0.length c0, .func (.func g) #[] lb] w fun e w' => e = .returned (.bool (l0.any p)) ∧ Below w.heap.size w w' := by
 have HC := Aside0.mk (IndexFunc_int.calls A0 c0 l0 g lb p w hr0 hc0 hm eg hp)
 have HA := Aside0.mk (idxB_any p l0 0)
 clear hr0 hp eg
 obtain ⟨i, hi⟩ : ∃ i, i = idxB p l0 0 := ⟨_, rfl⟩
 rw [← hi] at HC HA
 clear hi
 go_enter Try.func73, Try.ntmps73
 go_wp2_with fail
 refine HC.out.mono ?_
 rintro e w1 ⟨rfl, hw⟩
 go_wp2_with fail
 go_ret
 exact ⟨by rw [← HA.out]; rfl, hw⟩

/-! ### ask_formed: function 50 -/
set_option maxHeartbeats 8000000 in
theorem formed1.calls (x most : Int) (gb : Nat) (W : World) (hc : W.cell? ⟨gb, 3, none⟩ = some (.int .i64 most)) :
  Calls Try.prog 74 #[.int .i64 x, .pointer (some ⟨gb, 0, none⟩)] W fun e w' => e = .returned (.bool (decide (x < 0) || decide (most < x))) ∧ Below W.heap.size W w' := by
 by_cases h1 : x < 0
 ·have h1b : decide (x < 0) = true := decide_eq_true h1
  rw [h1b]
  go_enter Try.func74, Try.ntmps74
  go_wp2
  go_ret
  exact ⟨rfl, by first | exact Below.refl _ _ | exact below_drew (Below.refl _ _) | exact pw_below_drewN (Below.refl _ _) _⟩
 ·have h1b : decide (x < 0) = false := decide_eq_false h1
  rw [h1b]
  go_enter Try.func74, Try.ntmps74
  go_wp2
  go_ret
  exact ⟨rfl, by first | exact Below.refl _ _ | exact below_drew (Below.refl _ _) | exact pw_below_drewN (Below.refl _ _) _⟩
def ask_formed.f (k : Nat) (a0_0 : Int) (a0_1 : Int) (a0_2 : Int) (a0_3 : Int) (a0_4 : Int) (l0_5 : List Int) : Option (Bool) :=
 (ask_of.f k a0_0).bind fun t => if t.2.2.2.2 = true then ((ask_part.f a0_1 a0_2 t.1).bind fun p => if p = true then ((ask_part.f a0_3 a0_4 t.2.1).bind fun q => if q = true then (if (l0_5.length : Int) = (if t.2.2.1 = 0 then a0_4 else t.2.2.1) then some (!l0_5.any fun v => decide (v < 0) || decide (t.2.2.2.1 < v)) else some false) else some false) else some false) else some false
theorem ask_formed.mono : ∀ a0 a1 a2 a3 a4 a5 k, LeO (ask_formed.f k a0 a1 a2 a3 a4 a5) (ask_formed.f (k + 1) a0 a1 a2 a3 a4 a5) := by
 intro a0 a1 a2 a3 a4 a5 k
 unfold ask_formed.f
 exact LeO.bind (ask_of.mono _ _) (fun _ => LeO.refl _)
set_option maxHeartbeats 8000000 in
set_option maxRecDepth 100000 in
theorem ask_formed.calls (k : Nat) (a0_0 : Int) (a0_1 : Int) (a0_2 : Int) (a0_3 : Int) (a0_4 : Int) (A0_5 : Option Addr) (c0_5 : Nat) (l0_5 : List Int) (r : Bool) (w : World) (hr0_5 : Kd.C (Kd.int .i64) w A0_5 l0_5.length l0_5) (hc0_5 : l0_5.length ≤ c0_5) (h : ask_formed.f k a0_0 a0_1 a0_2 a0_3 a0_4 l0_5 = some r) :
  Calls Try.prog 50 #[.agg #[.int .i64 a0_0, .int .i64 a0_1, .int .i64 a0_2, .int .i64 a0_3, .int .i64 a0_4, .slice A0_5 l0_5.length c0_5]] w fun e w' => e = .returned (.bool r) ∧ Below w.heap.size w w' := by
 unfold ask_formed.f at h
 obtain ⟨⟨r1, r2, r3, r4, r5⟩, h1, h⟩ := Option.bind_eq_some_iff.1 h
 have C1 := fun W => Aside0.mk (ask_of.calls k a0_0 r1 r2 r3 r4 r5 W h1)
 have HR := Aside0.mk hr0_5
 clear h1 hr0_5
 dsimp only at h
 have H := Aside0.mk h
 clear h
 go_enter Try.func50, Try.ntmps50
 go_wp2_with fail
 refine (C1 _).out.mono ?_
 rintro e w1 ⟨rfl, hb⟩
 have B1 := Aside0.mk (hblk_below (hblk_new _ _) hb)
 have L1 := Aside0.mk (below_step (below_alloc (Below.refl _ _) _) hb)
 obtain ⟨k0, k1, k2, k3, k4, k5⟩ := hcells6 B1.out
 clear hb C1
 have hz : w.heap.size < w1.heap.size := (Array.getElem?_eq_some_iff.1 B1.out).1
 cases r5 with
 | false =>
  have h := H.out
  rw [if_neg (by decide)] at h
  obtain rfl := Option.some.inj h
  clear h H
  go_wp2_with fail
  go_ret
  exact ⟨rfl, below_alloc L1.out _⟩
 | true =>
 have h := H.out
 rw [if_pos rfl] at h
 clear H
 obtain ⟨p, hp, h⟩ := Option.bind_eq_some_iff.1 h
 have C2 := fun W => Aside0.mk (ask_part.calls a0_1 a0_2 r1 p W hp)
 have H := Aside0.mk h
 clear hp h
 go_wp2_with fail
 refine (C2 _).out.mono ?_
 rintro e w2 ⟨rfl, hb⟩
 have hb := hb.below
 have B2 := Aside0.mk (hblk_below (hblk_alloc B1.out) hb)
 have D2 := Aside0.mk (hblk_below (hblk_new _ _) hb)
 have L2 := Aside0.mk (below_step (below_alloc L1.out _) hb)
 clear hb C2 B1 L1 k0 k1 k2 k3 k4 k5
 obtain ⟨k0, k1, k2, k3, k4, k5⟩ := hcells6 B2.out
 obtain ⟨d0, d1, d2, d3⟩ := hcells4 D2.out
 have hz2 : w1.heap.size < w2.heap.size := (Array.getElem?_eq_some_iff.1 D2.out).1
 cases p with
 | false =>
  have h := H.out
  rw [if_neg (by decide)] at h
  obtain rfl := Option.some.inj h
  clear h H
  go_wp2_with fail
  go_ret
  exact ⟨rfl, L2.out⟩
 | true =>
 have h := H.out
 rw [if_pos rfl] at h
 clear H
 obtain ⟨q, hq, h⟩ := Option.bind_eq_some_iff.1 h
 have C3 := fun W => Aside0.mk (ask_part.calls a0_3 a0_4 r2 q W hq)
 have H := Aside0.mk h
 clear hq h
 go_wp2_with fail
 refine (C3 _).out.mono ?_
 rintro e w3 ⟨rfl, hb⟩
 have hb := hb.below
 have B3 := Aside0.mk (hblk_below B2.out hb)
 have D3 := Aside0.mk (hblk_below D2.out hb)
 have L3 := Aside0.mk (below_step L2.out hb)
 clear hb C3 B2 D2 L2 k0 k1 k2 k3 k4 k5 d0 d1 d2 d3
 obtain ⟨k0, k1, k2, k3, k4, k5⟩ := hcells6 B3.out
 obtain ⟨d0, d1, d2, d3⟩ := hcells4 D3.out
 have hz3 : w1.heap.size < w3.heap.size := (Array.getElem?_eq_some_iff.1 D3.out).1
 cases q with
 | false =>
  have h := H.out
  rw [if_neg (by decide)] at h
  obtain rfl := Option.some.inj h
  clear h H
  go_wp2_with fail
  go_ret
  exact ⟨rfl, L3.out⟩
 | true =>
 have h := H.out
 rw [if_pos rfl] at h
 clear H
 have fin : ∀ (n : Int), (if (l0_5.length : Int) = n then some (!l0_5.any fun v => decide (v < 0) || decide (r4 < v)) else some false) = some r →
   ((l0_5.length : Int) == n) = true ∧ (!l0_5.any fun v => decide (v < 0) || decide (r4 < v)) = r ∨ ((l0_5.length : Int) == n) = false ∧ r = false := by
  intro n hn
  by_cases e : (l0_5.length : Int) = n
  ·rw [if_pos e] at hn; exact .inl ⟨beq_iff_eq.2 e, Option.some.inj hn⟩
  ·rw [if_neg e] at hn; exact .inr ⟨beq_eq_false_iff_ne.2 e, (Option.some.inj hn).symm⟩
 have CF := Aside0.mk (fun W (hr : Kd.C (Kd.int .i64) W A0_5 l0_5.length l0_5) (hd : W.heap[w1.heap.size]? = some (.cells #[.int .i64 r1, .int .i64 r2, .int .i64 r3, .int .i64 r4] 76 (0, 0))) => ContainsFunc_int.calls A0_5 c0_5 l0_5 74 #[.pointer (some ⟨w1.heap.size, 0, none⟩)] (fun v => decide (v < 0) || decide (r4 < v)) W hr hc0_5 (Kd.C_max hr) (hand_enters Try.func74 (by kernel_rfl) rfl) (fun W' x hb => formed1.calls x r4 w1.heap.size W' (hcells4 (hblk_below hd hb)).2.2.2))
 by_cases e3 : r3 = 0
 ·rw [if_pos e3] at h
  have e3b : (r3 == 0) = true := beq_iff_eq.2 e3
  clear e3
  rcases fin a0_4 h with ⟨hl, hr⟩ | ⟨hl, hr⟩
  ·clear h fin
   go_wp2_with fail
   refine (CF.out _ (Kd.C_below HR.out L3.out) D3.out).mono ?_
   rintro e w4 ⟨rfl, hb⟩
   go_wp2_with fail
   go_ret
   exact ⟨by rw [← hr]; rfl, below_step L3.out hb⟩
  ·subst hr
   clear h fin CF
   go_wp2_with fail
   go_ret
   exact ⟨rfl, L3.out⟩
 ·rw [if_neg e3] at h
  have e3b : (r3 == 0) = false := beq_eq_false_iff_ne.2 e3
  clear e3
  rcases fin r3 h with ⟨hl, hr⟩ | ⟨hl, hr⟩
  ·clear h fin
   go_wp2_with fail
   refine (CF.out _ (Kd.C_below HR.out L3.out) D3.out).mono ?_
   rintro e w4 ⟨rfl, hb⟩
   go_wp2_with fail
   go_ret
   exact ⟨by rw [← hr]; rfl, below_step L3.out hb⟩
  ·subst hr
   clear h fin CF
   go_wp2_with fail
   go_ret
   exact ⟨rfl, L3.out⟩

/-! ### ask_ends: function 51 -/
def ask_ends.f (a0_0 : Int) (a0_1 : Int) (a0_2 : Int) (a0_3 : Int) (a0_4 : Int) (l0_5 : List Int) : Option (Bool) := if (wrap64 (a0_1 + a0_2)) ≤ 65536 then (some (decide ((wrap64 (a0_3 + a0_4)) ≤ 65536))) else (some false)
set_option maxHeartbeats 8000000 in
set_option maxRecDepth 100000 in
theorem ask_ends.calls (a0_0 : Int) (a0_1 : Int) (a0_2 : Int) (a0_3 : Int) (a0_4 : Int) (A0_5 : Option Addr) (c0_5 : Nat) (l0_5 : List Int) (r : Bool) (w : World) (hr0_5 : Kd.C (Kd.int .i64) w A0_5 l0_5.length l0_5) (hc0_5 : l0_5.length ≤ c0_5) (h : ask_ends.f a0_0 a0_1 a0_2 a0_3 a0_4 l0_5 = some r) :
  Calls Try.prog 51 #[.agg #[.int .i64 a0_0, .int .i64 a0_1, .int .i64 a0_2, .int .i64 a0_3, .int .i64 a0_4, .slice A0_5 l0_5.length c0_5]] w fun e w' => e = .returned (.bool r) ∧ Below w.heap.size w w' := by
 have hu24 := Try.underlying24
 have HR0_5 := Aside0.mk hr0_5
 have HC0_5 := Aside0.mk hc0_5
 clear hr0_5 hc0_5
 have HB := Aside0.mk (Below.refl w.heap.size w)
 have H : (if (wrap64 (a0_1 + a0_2)) ≤ 65536 then (some (decide ((wrap64 (a0_3 + a0_4)) ≤ 65536))) else (some false)) = some r := h
 clear h
 by_cases c2 : (wrap64 (a0_1 + a0_2)) ≤ 65536
 ·rw [if_pos c2] at H
  have c2b0 : decide ((wrap64 (a0_1 + a0_2)) ≤ 65536) = true := decide_eq_true c2
  clear c2
  obtain rfl := Option.some.inj H
  go_enter Try.func51, Try.ntmps51
  go_wp2_with (first | ((with_reducible refine gate_dst (N := 1) rfl ?_); refine box_event ?hg (N := 1) ?hd (cs := #[.int .i64 a0_0, .int .i64 a0_1, .int .i64 a0_2, .int .i64 a0_3, .int .i64 a0_4, .slice A0_5 l0_5.length c0_5]) (t := 24) ?hr ?_; (case hd => rfl); (case hg => rfl); (case hr => first | (go_simp; done) | (go_simp; rfl)); intro gb102 hg w3 hbox hb; have n0_ := Aside0.mk (below_step (by repeat (first | (with_reducible first | exact HB.out | apply below_alloc | apply pw_below_drewN | apply below_drew1) | exact HB.out)) hb); have n1_ := Aside0.mk (hbox); have n2_ := Aside0.mk ((by rw [hg]; exact (below_size (by repeat (first | (with_reducible first | exact HB.out | apply below_alloc | apply pw_below_drewN | apply below_drew1) | exact HB.out))) : w.heap.size ≤ gb102)); have n3_ := Aside0.mk ((by rw [hg]; exact (below_size (by repeat (first | (with_reducible first | exact HB.out | apply below_alloc | apply pw_below_drewN | apply below_drew1) | exact HB.out))) : w.heap.size ≤ gb102)); clear HB; have HB := n0_; have BK102 := n1_; have GW102 := n2_; have GE102 := n3_; clear n0_ n1_ n2_ n3_; clear hb hbox hg; have hcz4_0 : w3.cell? ⟨gb102, 0, none⟩ = some (.int .i64 a0_0) := (blk_cell BK102.out 0).trans rfl; have hcz4_1 : w3.cell? ⟨gb102, 1, none⟩ = some (.int .i64 a0_1) := (blk_cell BK102.out 1).trans rfl; have hcz4_2 : w3.cell? ⟨gb102, 2, none⟩ = some (.int .i64 a0_2) := (blk_cell BK102.out 2).trans rfl; have hcz4_3 : w3.cell? ⟨gb102, 3, none⟩ = some (.int .i64 a0_3) := (blk_cell BK102.out 3).trans rfl; have hcz4_4 : w3.cell? ⟨gb102, 4, none⟩ = some (.int .i64 a0_4) := (blk_cell BK102.out 4).trans rfl; have hcz4_5 : w3.cell? ⟨gb102, 5, none⟩ = some (.slice A0_5 l0_5.length c0_5) := (blk_cell BK102.out 5).trans rfl; have hfz4_0 := blk_frozen BK102.out 0; have hfz4_1 := blk_frozen BK102.out 1; have hfz4_2 := blk_frozen BK102.out 2; have hfz4_3 := blk_frozen BK102.out 3; have hfz4_4 := blk_frozen BK102.out 4; have hfz4_5 := blk_frozen BK102.out 5))
  go_ret
  exact ⟨by first | rfl | (simp [errW_none, errW_some] <;> rfl) | (simp [*, errW_none, errW_some] <;> rfl), by repeat (first | (with_reducible first | exact HB.out | apply below_alloc | apply pw_below_drewN | apply below_drew1 | refine below_set ?_ GE102.out) | exact HB.out)⟩
 ·rw [if_neg c2] at H
  have c2b0 : decide ((wrap64 (a0_1 + a0_2)) ≤ 65536) = false := decide_eq_false c2
  clear c2
  obtain rfl := Option.some.inj H
  go_enter Try.func51, Try.ntmps51
  go_wp2_with (first | ((with_reducible refine gate_dst (N := 1) rfl ?_); refine box_event ?hg (N := 1) ?hd (cs := #[.int .i64 a0_0, .int .i64 a0_1, .int .i64 a0_2, .int .i64 a0_3, .int .i64 a0_4, .slice A0_5 l0_5.length c0_5]) (t := 24) ?hr ?_; (case hd => rfl); (case hg => rfl); (case hr => first | (go_simp; done) | (go_simp; rfl)); intro gb102 hg w5 hbox hb; have n0_ := Aside0.mk (below_step (by repeat (first | (with_reducible first | exact HB.out | apply below_alloc | apply pw_below_drewN | apply below_drew1) | exact HB.out)) hb); have n1_ := Aside0.mk (hbox); have n2_ := Aside0.mk ((by rw [hg]; exact (below_size (by repeat (first | (with_reducible first | exact HB.out | apply below_alloc | apply pw_below_drewN | apply below_drew1) | exact HB.out))) : w.heap.size ≤ gb102)); have n3_ := Aside0.mk ((by rw [hg]; exact (below_size (by repeat (first | (with_reducible first | exact HB.out | apply below_alloc | apply pw_below_drewN | apply below_drew1) | exact HB.out))) : w.heap.size ≤ gb102)); clear HB; have HB := n0_; have BK102 := n1_; have GW102 := n2_; have GE102 := n3_; clear n0_ n1_ n2_ n3_; clear hb hbox hg; have hcz6_0 : w5.cell? ⟨gb102, 0, none⟩ = some (.int .i64 a0_0) := (blk_cell BK102.out 0).trans rfl; have hcz6_1 : w5.cell? ⟨gb102, 1, none⟩ = some (.int .i64 a0_1) := (blk_cell BK102.out 1).trans rfl; have hcz6_2 : w5.cell? ⟨gb102, 2, none⟩ = some (.int .i64 a0_2) := (blk_cell BK102.out 2).trans rfl; have hcz6_3 : w5.cell? ⟨gb102, 3, none⟩ = some (.int .i64 a0_3) := (blk_cell BK102.out 3).trans rfl; have hcz6_4 : w5.cell? ⟨gb102, 4, none⟩ = some (.int .i64 a0_4) := (blk_cell BK102.out 4).trans rfl; have hcz6_5 : w5.cell? ⟨gb102, 5, none⟩ = some (.slice A0_5 l0_5.length c0_5) := (blk_cell BK102.out 5).trans rfl; have hfz6_0 := blk_frozen BK102.out 0; have hfz6_1 := blk_frozen BK102.out 1; have hfz6_2 := blk_frozen BK102.out 2; have hfz6_3 := blk_frozen BK102.out 3; have hfz6_4 := blk_frozen BK102.out 4; have hfz6_5 := blk_frozen BK102.out 5))
  go_ret
  exact ⟨by first | rfl | (simp [errW_none, errW_some] <;> rfl) | (simp [*, errW_none, errW_some] <;> rfl), by repeat (first | (with_reducible first | exact HB.out | apply below_alloc | apply pw_below_drewN | apply below_drew1 | refine below_set ?_ GE102.out) | exact HB.out)⟩

/-! ### ask_Right: function 16 -/
def ask_Right.f (k : Nat) (a0_0 : Int) (a0_1 : Int) (a0_2 : Int) (a0_3 : Int) (a0_4 : Int) (l0_5 : List Int) : Option (Bool) := (ask_formed.f k a0_0 a0_1 a0_2 a0_3 a0_4 l0_5).bind fun t104 => (if t104 = true then ((ask_ends.f a0_0 a0_1 a0_2 a0_3 a0_4 l0_5).bind fun t105 => (some t105)) else (some false))
theorem ask_Right.mono : ∀ a0 a1 a2 a3 a4 a5 k, LeO (ask_Right.f k a0 a1 a2 a3 a4 a5) (ask_Right.f (k + 1) a0 a1 a2 a3 a4 a5) := by
 intro a0 a1 a2 a3 a4 a5 k
 unfold ask_Right.f
 repeat' first
   | (with_reducible exact ask_formed.mono _ _ _ _ _ _ _)
   | (with_reducible exact LeO.refl _)
   | (with_reducible exact LeO.none _)
   | (with_reducible refine LeO.ite ?_ ?_)
   | (with_reducible refine LeO.bind ?_ (fun _ => ?_))
   | exact ask_formed.mono _ _ _ _ _ _ _
   | exact LeO.none _
   | refine LeO.ite ?_ ?_
   | refine LeO.bind ?_ (fun _ => ?_)
set_option maxHeartbeats 8000000 in
set_option maxRecDepth 100000 in
theorem ask_Right.calls (k : Nat) (a0_0 : Int) (a0_1 : Int) (a0_2 : Int) (a0_3 : Int) (a0_4 : Int) (A0_5 : Option Addr) (c0_5 : Nat) (l0_5 : List Int) (r : Bool) (w : World) (hr0_5 : Kd.C (Kd.int .i64) w A0_5 l0_5.length l0_5) (hc0_5 : l0_5.length ≤ c0_5) (h : ask_Right.f k a0_0 a0_1 a0_2 a0_3 a0_4 l0_5 = some r) :
  Calls Try.prog 16 #[.agg #[.int .i64 a0_0, .int .i64 a0_1, .int .i64 a0_2, .int .i64 a0_3, .int .i64 a0_4, .slice A0_5 l0_5.length c0_5]] w fun e w' => e = .returned (.bool r) ∧ Below w.heap.size w w' := by
 have hu24 := Try.underlying24
 have HR0_5 := Aside0.mk hr0_5
 have HC0_5 := Aside0.mk hc0_5
 clear hr0_5 hc0_5
 have HB := Aside0.mk (Below.refl w.heap.size w)
 have H : ((ask_formed.f k a0_0 a0_1 a0_2 a0_3 a0_4 l0_5).bind fun t104 => (if t104 = true then ((ask_ends.f a0_0 a0_1 a0_2 a0_3 a0_4 l0_5).bind fun t105 => (some t105)) else (some false))) = some r := h
 clear h
 replace H := Option.bind_eq_some_iff.mp H
 obtain ⟨t104, A20, H⟩ := H
 replace H : (if t104 = true then ((ask_ends.f a0_0 a0_1 a0_2 a0_3 a0_4 l0_5).bind fun t105 => (some t105)) else (some false)) = some r := H
 have A2 := Aside0.mk A20
 clear A20
 by_cases c3 : t104 = true
 ·subst c3
  have H1 : ((ask_ends.f a0_0 a0_1 a0_2 a0_3 a0_4 l0_5).bind fun t105 => (some t105)) = some r := by rw [if_pos rfl] at H; exact H
  clear H
  have H := H1
  clear H1
  replace H := Option.bind_eq_some_iff.mp H
  obtain ⟨t105, A40, H⟩ := H
  replace H : (some t105) = some r := H
  have A4 := Aside0.mk A40
  clear A40
  obtain rfl := Option.some.inj H
  go_enter Try.func16, Try.ntmps16
  go_wp2_with (first | ((with_reducible refine gate_dst (N := 1) rfl ?_); refine box_event ?hg (N := 1) ?hd (cs := #[.int .i64 a0_0, .int .i64 a0_1, .int .i64 a0_2, .int .i64 a0_3, .int .i64 a0_4, .slice A0_5 l0_5.length c0_5]) (t := 24) ?hr ?_; (case hd => rfl); (case hg => rfl); (case hr => first | (go_simp; done) | (go_simp; rfl)); intro gb103 hg w5 hbox hb; have n0_ := Aside0.mk (below_step (by repeat (first | (with_reducible first | exact HB.out | apply below_alloc | apply pw_below_drewN | apply below_drew1) | exact HB.out)) hb); have n1_ := Aside0.mk (hbox); have n2_ := Aside0.mk ((by rw [hg]; exact (below_size (by repeat (first | (with_reducible first | exact HB.out | apply below_alloc | apply pw_below_drewN | apply below_drew1) | exact HB.out))) : w.heap.size ≤ gb103)); have n3_ := Aside0.mk ((by rw [hg]; exact (below_size (by repeat (first | (with_reducible first | exact HB.out | apply below_alloc | apply pw_below_drewN | apply below_drew1) | exact HB.out))) : w.heap.size ≤ gb103)); clear HB; have HB := n0_; have BK103 := n1_; have GW103 := n2_; have GE103 := n3_; clear n0_ n1_ n2_ n3_; clear hb hbox hg; have hcz6_0 : w5.cell? ⟨gb103, 0, none⟩ = some (.int .i64 a0_0) := (blk_cell BK103.out 0).trans rfl; have hcz6_1 : w5.cell? ⟨gb103, 1, none⟩ = some (.int .i64 a0_1) := (blk_cell BK103.out 1).trans rfl; have hcz6_2 : w5.cell? ⟨gb103, 2, none⟩ = some (.int .i64 a0_2) := (blk_cell BK103.out 2).trans rfl; have hcz6_3 : w5.cell? ⟨gb103, 3, none⟩ = some (.int .i64 a0_3) := (blk_cell BK103.out 3).trans rfl; have hcz6_4 : w5.cell? ⟨gb103, 4, none⟩ = some (.int .i64 a0_4) := (blk_cell BK103.out 4).trans rfl; have hcz6_5 : w5.cell? ⟨gb103, 5, none⟩ = some (.slice A0_5 l0_5.length c0_5) := (blk_cell BK103.out 5).trans rfl; have hfz6_0 := blk_frozen BK103.out 0; have hfz6_1 := blk_frozen BK103.out 1; have hfz6_2 := blk_frozen BK103.out 2; have hfz6_3 := blk_frozen BK103.out 3; have hfz6_4 := blk_frozen BK103.out 4; have hfz6_5 := blk_frozen BK103.out 5) | ((with_reducible refine gate_callee (f := 50) rfl ?_); refine goesL_ (some 4) rfl rfl Try.func50 (by kernel_rfl) rfl #[.agg #[.int .i64 a0_0, .int .i64 a0_1, .int .i64 a0_2, .int .i64 a0_3, .int .i64 a0_4, .slice A0_5 l0_5.length c0_5]] rfl (by (try simp only [List.map_toArray, List.map_cons, List.map_nil]); first | done | rfl | (simp only [List.length_drop, List.length_take]; rfl)) ?_; (with_reducible refine (ask_formed.calls k a0_0 a0_1 a0_2 a0_3 a0_4 _ _ l0_5 true _ ?side1 ?side2 A2.out).mono ?_); (case side1 => repeat (first | exact (Kd.C_below HR0_5.out HB.out) | (with_reducible refine Kd.C_alloc ?_ _) | (with_reducible refine Kd.C_drewN ?_ _) | (with_reducible refine Kd.C_drew ?_))); (case side2 => exact HC0_5.out); rintro e w7 ⟨rfl, hb⟩; refine ⟨_, rfl, ?_⟩; have n0_ := Aside0.mk (blk_below (g := gb103) (o := .cells #[.int .i64 a0_0, .int .i64 a0_1, .int .i64 a0_2, .int .i64 a0_3, .int .i64 a0_4, .slice A0_5 l0_5.length c0_5] 24 (0, 0)) (by (with_reducible repeat (first | refine blk_drewN ?_ _ | refine blk_drew ?_ | refine blk_alloc ?_ _)); exact BK103.out) hb); have n1_ := Aside0.mk (below_step (by repeat (first | (with_reducible first | exact HB.out | apply below_alloc | apply pw_below_drewN | apply below_drew1 | refine below_set ?_ GE103.out) | exact HB.out)) hb); clear BK103; clear HB; have BK103 := n0_; have HB := n1_; clear n0_ n1_; (try clear hb); (try clear hb2); (try clear hk); (try clear hi); have hcz8_0 : w7.cell? ⟨gb103, 0, none⟩ = some (.int .i64 a0_0) := (blk_cell BK103.out 0).trans rfl; have hcz8_1 : w7.cell? ⟨gb103, 1, none⟩ = some (.int .i64 a0_1) := (blk_cell BK103.out 1).trans rfl; have hcz8_2 : w7.cell? ⟨gb103, 2, none⟩ = some (.int .i64 a0_2) := (blk_cell BK103.out 2).trans rfl; have hcz8_3 : w7.cell? ⟨gb103, 3, none⟩ = some (.int .i64 a0_3) := (blk_cell BK103.out 3).trans rfl; have hcz8_4 : w7.cell? ⟨gb103, 4, none⟩ = some (.int .i64 a0_4) := (blk_cell BK103.out 4).trans rfl; have hcz8_5 : w7.cell? ⟨gb103, 5, none⟩ = some (.slice A0_5 l0_5.length c0_5) := (blk_cell BK103.out 5).trans rfl; have hfz8_0 := blk_frozen BK103.out 0; have hfz8_1 := blk_frozen BK103.out 1; have hfz8_2 := blk_frozen BK103.out 2; have hfz8_3 := blk_frozen BK103.out 3; have hfz8_4 := blk_frozen BK103.out 4; have hfz8_5 := blk_frozen BK103.out 5) | (go_at_call 51; (with_reducible refine (ask_ends.calls a0_0 a0_1 a0_2 a0_3 a0_4 _ _ l0_5 t105 _ ?side1 ?side2 A4.out).mono ?_); (case side1 => repeat (first | exact (Kd.C_below HR0_5.out HB.out) | (with_reducible refine Kd.C_alloc ?_ _) | (with_reducible refine Kd.C_drewN ?_ _) | (with_reducible refine Kd.C_drew ?_))); (case side2 => exact HC0_5.out); rintro e w9 ⟨rfl, hb⟩; have n0_ := Aside0.mk (blk_below (g := gb103) (o := .cells #[.int .i64 a0_0, .int .i64 a0_1, .int .i64 a0_2, .int .i64 a0_3, .int .i64 a0_4, .slice A0_5 l0_5.length c0_5] 24 (0, 0)) (by (with_reducible repeat (first | refine blk_drewN ?_ _ | refine blk_drew ?_ | refine blk_alloc ?_ _)); exact BK103.out) hb); have n1_ := Aside0.mk (below_step (by repeat (first | (with_reducible first | exact HB.out | apply below_alloc | apply pw_below_drewN | apply below_drew1 | refine below_set ?_ GE103.out) | exact HB.out)) hb); clear BK103; clear HB; have BK103 := n0_; have HB := n1_; clear n0_ n1_; (try clear hb); (try clear hb2); (try clear hk); (try clear hi)))
  go_ret
  exact ⟨by first | rfl | (simp [errW_none, errW_some] <;> rfl) | (simp [*, errW_none, errW_some] <;> rfl), by repeat (first | (with_reducible first | exact HB.out | apply below_alloc | apply pw_below_drewN | apply below_drew1 | refine below_set ?_ GE103.out) | exact HB.out)⟩
 ·replace c3 := Bool.eq_false_iff.mpr c3
  subst c3
  have H1 : (some false) = some r := by rw [if_neg (show ¬ (false = true) by decide)] at H; exact H
  clear H
  have H := H1
  clear H1
  obtain rfl := Option.some.inj H
  go_enter Try.func16, Try.ntmps16
  go_wp2_with (first | ((with_reducible refine gate_dst (N := 1) rfl ?_); refine box_event ?hg (N := 1) ?hd (cs := #[.int .i64 a0_0, .int .i64 a0_1, .int .i64 a0_2, .int .i64 a0_3, .int .i64 a0_4, .slice A0_5 l0_5.length c0_5]) (t := 24) ?hr ?_; (case hd => rfl); (case hg => rfl); (case hr => first | (go_simp; done) | (go_simp; rfl)); intro gb103 hg w10 hbox hb; have n0_ := Aside0.mk (below_step (by repeat (first | (with_reducible first | exact HB.out | apply below_alloc | apply pw_below_drewN | apply below_drew1) | exact HB.out)) hb); have n1_ := Aside0.mk (hbox); have n2_ := Aside0.mk ((by rw [hg]; exact (below_size (by repeat (first | (with_reducible first | exact HB.out | apply below_alloc | apply pw_below_drewN | apply below_drew1) | exact HB.out))) : w.heap.size ≤ gb103)); have n3_ := Aside0.mk ((by rw [hg]; exact (below_size (by repeat (first | (with_reducible first | exact HB.out | apply below_alloc | apply pw_below_drewN | apply below_drew1) | exact HB.out))) : w.heap.size ≤ gb103)); clear HB; have HB := n0_; have BK103 := n1_; have GW103 := n2_; have GE103 := n3_; clear n0_ n1_ n2_ n3_; clear hb hbox hg; have hcz11_0 : w10.cell? ⟨gb103, 0, none⟩ = some (.int .i64 a0_0) := (blk_cell BK103.out 0).trans rfl; have hcz11_1 : w10.cell? ⟨gb103, 1, none⟩ = some (.int .i64 a0_1) := (blk_cell BK103.out 1).trans rfl; have hcz11_2 : w10.cell? ⟨gb103, 2, none⟩ = some (.int .i64 a0_2) := (blk_cell BK103.out 2).trans rfl; have hcz11_3 : w10.cell? ⟨gb103, 3, none⟩ = some (.int .i64 a0_3) := (blk_cell BK103.out 3).trans rfl; have hcz11_4 : w10.cell? ⟨gb103, 4, none⟩ = some (.int .i64 a0_4) := (blk_cell BK103.out 4).trans rfl; have hcz11_5 : w10.cell? ⟨gb103, 5, none⟩ = some (.slice A0_5 l0_5.length c0_5) := (blk_cell BK103.out 5).trans rfl; have hfz11_0 := blk_frozen BK103.out 0; have hfz11_1 := blk_frozen BK103.out 1; have hfz11_2 := blk_frozen BK103.out 2; have hfz11_3 := blk_frozen BK103.out 3; have hfz11_4 := blk_frozen BK103.out 4; have hfz11_5 := blk_frozen BK103.out 5) | ((with_reducible refine gate_callee (f := 50) rfl ?_); refine goesL_ (some 4) rfl rfl Try.func50 (by kernel_rfl) rfl #[.agg #[.int .i64 a0_0, .int .i64 a0_1, .int .i64 a0_2, .int .i64 a0_3, .int .i64 a0_4, .slice A0_5 l0_5.length c0_5]] rfl (by (try simp only [List.map_toArray, List.map_cons, List.map_nil]); first | done | rfl | (simp only [List.length_drop, List.length_take]; rfl)) ?_; (with_reducible refine (ask_formed.calls k a0_0 a0_1 a0_2 a0_3 a0_4 _ _ l0_5 false _ ?side1 ?side2 A2.out).mono ?_); (case side1 => repeat (first | exact (Kd.C_below HR0_5.out HB.out) | (with_reducible refine Kd.C_alloc ?_ _) | (with_reducible refine Kd.C_drewN ?_ _) | (with_reducible refine Kd.C_drew ?_))); (case side2 => exact HC0_5.out); rintro e w12 ⟨rfl, hb⟩; refine ⟨_, rfl, ?_⟩; have n0_ := Aside0.mk (blk_below (g := gb103) (o := .cells #[.int .i64 a0_0, .int .i64 a0_1, .int .i64 a0_2, .int .i64 a0_3, .int .i64 a0_4, .slice A0_5 l0_5.length c0_5] 24 (0, 0)) (by (with_reducible repeat (first | refine blk_drewN ?_ _ | refine blk_drew ?_ | refine blk_alloc ?_ _)); exact BK103.out) hb); have n1_ := Aside0.mk (below_step (by repeat (first | (with_reducible first | exact HB.out | apply below_alloc | apply pw_below_drewN | apply below_drew1 | refine below_set ?_ GE103.out) | exact HB.out)) hb); clear BK103; clear HB; have BK103 := n0_; have HB := n1_; clear n0_ n1_; (try clear hb); (try clear hb2); (try clear hk); (try clear hi)))
  go_ret
  exact ⟨by first | rfl | (simp [errW_none, errW_some] <;> rfl) | (simp [*, errW_none, errW_some] <;> rfl), by repeat (first | (with_reducible first | exact HB.out | apply below_alloc | apply pw_below_drewN | apply below_drew1 | refine below_set ?_ GE103.out) | exact HB.out)⟩

/-! ### twin_Put: function 70 -/
def twin_Put.f (a0 : Int) : Option (ByteArray × Bool) := if (IntKind.u64.wrap (a0)) > 65535 then (some ((⟨#[]⟩ : ByteArray), false)) else (some (strOfNums (([(a0 / 256) % 256, (a0) % 256] : List Int)), true))
set_option maxHeartbeats 8000000 in
set_option maxRecDepth 100000 in
theorem twin_Put.calls (a0 : Int) (r1 : ByteArray) (r2 : Bool) (w : World) (h : twin_Put.f a0 = some (r1, r2)) :
  Calls Try.prog 70 #[.int .i64 a0] w fun e w' => e = .returned (.tuple #[.string r1, .bool r2]) ∧ Below w.heap.size w w' := by
 have HB := Aside0.mk (Below.refl w.heap.size w)
 have H : (if (IntKind.u64.wrap (a0)) > 65535 then (some ((⟨#[]⟩ : ByteArray), false)) else (some (strOfNums (([(a0 / 256) % 256, (a0) % 256] : List Int)), true))) = some (r1, r2) := h
 clear h
 by_cases c2 : (IntKind.u64.wrap (a0)) > 65535
 ·rw [if_pos c2] at H
  have c2b0 : decide (65535 < (IntKind.u64.wrap (a0))) = true := decide_eq_true c2
  clear c2
  simp only [Option.some.injEq, Prod.mk.injEq] at H
  obtain ⟨rfl, rfl⟩ := H
  go_enter Try.func70, Try.ntmps70
  go_wp2
  go_ret2
  exact ⟨by first | rfl | (simp [errW_none, errW_some] <;> rfl) | (simp [*, errW_none, errW_some] <;> rfl), by repeat (first | (with_reducible first | exact HB.out | apply below_alloc | apply pw_below_drewN | apply below_drew1) | exact HB.out)⟩
 ·rw [if_neg c2] at H
  have c2b0 : decide (65535 < (IntKind.u64.wrap (a0))) = false := decide_eq_false c2
  clear c2
  obtain ⟨y106, hy106⟩ : ∃ y_ : List Int, y_ = (([(a0 / 256) % 256, (a0) % 256] : List Int)) := ⟨_, rfl⟩
  replace H : (some (strOfNums y106, true)) = some (r1, r2) := by first | (rw [hy106]; with_reducible exact H) | (have H2_ := (Option.bind_some _ _).symm.trans H; rw [hy106]; with_reducible exact H2_) | (have H2_ := (Option.bind_some _ _).symm.trans H; with_reducible exact H2_) | with_reducible exact H | (rw [hy106]; exact H) | exact H
  have Ny106 := Aside0.mk hy106
  clear hy106
  simp only [Option.some.injEq, Prod.mk.injEq] at H
  obtain ⟨rfl, rfl⟩ := H
  go_enter Try.func70, Try.ntmps70
  go_wp2_with (first | ((with_reducible refine gate_dst (N := 12) rfl ?_); refine Kd.R_lit (Kd.int .u8) _ 5 ?hg (N := 12) ?hd (xs := ([(a0 / 256) % 256, (a0) % 256] : List Int)) (inner := [.int .u8 ((a0 / 256) % 256), .int .u8 ((a0) % 256)]) (ok := fun _ => True) (okp := fun _ => True) ?hr ?hp (fun _ hk => hk) trivial (Below.refl _ _) (Nat.le_refl _) (by simp) ?_; (case hd => rfl); (case hg => rfl); (case hr => first | (go_simp; done) | (go_simp; rfl)); (case hp => exact (Reps.one (show Kd.M (Kd.int .u8) _ _ _ ((a0 / 256) % 256) [.int .u8 ((a0 / 256) % 256)] from rfl) (Reps.one (show Kd.M (Kd.int .u8) _ _ _ ((a0) % 256) [.int .u8 ((a0) % 256)] from rfl) (Reps.none _ _)))); intro v107 w3 ho4 hb hg_ hnew_; clear hg_ hnew_; (first | rw [← Ny106.out] at ho4 | (simp only [Int.reduceToNat] at ho4; rw [← Ny106.out] at ho4)); have n0_ := Aside0.mk (Kd.R_lower ho4 (below_size (by repeat (first | (with_reducible first | exact HB.out | apply below_alloc | apply pw_below_drewN | apply below_drew1) | exact HB.out)))); have n1_ := Aside0.mk (below_step (by repeat (first | (with_reducible first | exact HB.out | apply below_alloc | apply pw_below_drewN | apply below_drew1) | exact HB.out)) hb); clear HB; have HO108 := n0_; have HB := n1_; clear n0_ n1_; clear hb ho4; have hcv5 := own_string (P := Try.prog) Try.underlying34 Try.underlying5 Try.underlying9 (Kd.own_of_R HO108.out)))
  go_ret2
  exact ⟨by first | rfl | (simp [errW_none, errW_some] <;> rfl) | (simp [*, errW_none, errW_some] <;> rfl), by repeat (first | (with_reducible first | exact HB.out | apply below_alloc | apply pw_below_drewN | apply below_drew1) | exact HB.out)⟩

end Go.Proofs.Ytinoabkfekomcaa.PAskSizes
