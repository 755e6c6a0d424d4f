-- written by a turned copy of the printer (wip/patchprint.py) for this claim: no row of the kit's own printer
import Derived.Test.YtinoabkfekomcaaPAskSizesx0
import Derived.Test.YtinoabkfekomcaaPAskSizesy12
namespace Go.Proofs.Ytinoabkfekomcaa.PAskSizes
open Go.RowKit Go.Proofs.YtinoabkfekomcaaW.PrintWords Go.Proofs.YtinoabkfekomcaaW.PrintLast Go.Proofs.YtinoabkfekomcaaW.PrintMore
attribute [local go_sem] read_m0 read_m1 read_m2 read_look max2_int min2_int max_two min_two max_three min_three max_four min_four   -- for this text's walks alone
set_option linter.unusedVariables false
set_option linter.unusedSimpArgs false

/-! ### gatewardenref06_read: function 64 -/
mutual
def gatewardenref06_read.j3 : Nat → Int → Bool → Int → Int → Int → Int → Int → List Int → Option (Int × Int × Int × Int × Int × List Int × Bool)
  | 0, _, _, _, _, _, _, _, _ => none
  | k + 1, x4, x6, x310000, x310001, x310002, x310003, x310004, x310005 => if x4 = 5 then (if 0 < (x310005.length : Int) then (gatewardenref06_read.j4 k x4 x6 ((rd x310005 0) == 65280) x310000 x310001 x310002 x310003 x310004 x310005) else (none)) else (gatewardenref06_read.j4 k x4 x6 false x310000 x310001 x310002 x310003 x310004 x310005)
def gatewardenref06_read.j4 : Nat → Int → Bool → Bool → Int → Int → Int → Int → Int → List Int → Option (Int × Int × Int × Int × Int × List Int × Bool)
  | 0, _, _, _, _, _, _, _, _, _ => none
  | k + 1, x4, x6, x103, x310000, x310001, x310002, x310003, x310004, x310005 => if x103 = true then (if 0 < (x310005.length : Int) then (some (x310000, x310001, x310002, x310003, x310004, (x310005.set (0 : Int).toNat 1), x6)) else (none)) else (if x4 = 5 then (if 0 < (x310005.length : Int) then (if (rd x310005 0) = 0 then (some (x310000, x310001, x310002, x310003, x310004, x310005, x6)) else (some (x310000, x310001, x310002, x310003, x310004, x310005, false))) else (none)) else (some (x310000, x310001, x310002, x310003, x310004, x310005, x6)))
def gatewardenref06_read.j0 : Nat → ByteArray → Int → Int → Bool → Int → Int → Int → Int → Int → Option (Int × Int × Int × Int × Int × List Int × Bool)
  | 0, _, _, _, _, _, _, _, _, _ => none
  | k + 1, x0, x4, x12, x34, x310000, x310001, x310002, x310003, x310004 => if x34 = true then ((gatewardenref06_at.f x0 1).bind fun t310 => ((gatewardenref06_at.f x0 3).bind fun t311 => (gatewardenref06_read.j3 k x4 ((x0.size : Int) == 5) x310000 t310 t311 x310003 x310004 ([] : List Int)))) else (if x12 = 5 then (gatewardenref06_read.j1 k x0 x4 x12 (x12 == 5) x310000 x310001 x310002 x310003 x310004) else (gatewardenref06_read.j1 k x0 x4 x12 (x12 == 6) x310000 x310001 x310002 x310003 x310004))
def gatewardenref06_read.j1 : Nat → ByteArray → Int → Int → Bool → Int → Int → Int → Int → Int → Option (Int × Int × Int × Int × Int × List Int × Bool)
  | 0, _, _, _, _, _, _, _, _, _ => none
  | k + 1, x0, x4, x12, x48, x310000, x310001, x310002, x310003, x310004 => if x48 = true then ((gatewardenref06_at.f x0 1).bind fun t312 => ((gatewardenref06_at.f x0 3).bind fun t313 => (gatewardenref06_read.j3 k x4 ((x0.size : Int) == 5) x310000 x310001 x310002 t312 1 (([t313] : List Int))))) else (if x12 = 22 then ((gatewardenref06_at.f x0 1).bind fun t317 => ((gatewardenref06_at.f x0 3).bind fun t318 => ((gatewardenref06_at.f x0 5).bind fun t319 => (gatewardenref06_read.j3 k x4 ((x0.size : Int) == 7) x310000 x310001 x310002 t317 1 (([t318, t319] : List Int)))))) else (if x12 = 15 then (gatewardenref06_read.j2 k x0 x4 (x12 == 15) x310000 x310001 x310002 x310003 x310004) else (gatewardenref06_read.j2 k x0 x4 (x12 == 16) x310000 x310001 x310002 x310003 x310004)))
def gatewardenref06_read.j2 : Nat → ByteArray → Int → Bool → Int → Int → Int → Int → Int → Option (Int × Int × Int × Int × Int × List Int × Bool)
  | 0, _, _, _, _, _, _, _, _ => none
  | k + 1, x0, x4, x77, x310000, x310001, x310002, x310003, x310004 => if x77 = true then ((gatewardenref06_at.f x0 1).bind fun t323 => ((gatewardenref06_at.f x0 3).bind fun t324 => ((gatewardenref06_values.f k x0 5 x4 t324).bind fun bt325 => (gatewardenref06_read.j3 k x4 bt325.2 x310000 x310001 x310002 t323 t324 bt325.1)))) else ((gatewardenref06_at.f x0 1).bind fun t329 => ((gatewardenref06_at.f x0 3).bind fun t330 => ((gatewardenref06_at.f x0 5).bind fun t331 => ((gatewardenref06_at.f x0 7).bind fun t332 => ((gatewardenref06_values.f k x0 9 x4 t332).bind fun bt333 => (gatewardenref06_read.j3 k x4 bt333.2 x310000 t329 t330 t331 t332 bt333.1))))))
end
def gatewardenref06_read.f (k : Nat) (a0 : ByteArray) : Option (Int × Int × Int × Int × Int × List Int × Bool) := if 0 < (a0.size : Int) then (if (wrap64 (bt a0 0)) = 1 then (gatewardenref06_read.j0 k a0 (wrap64 (bt a0 0)) (wrap64 (bt a0 0)) ((wrap64 (bt a0 0)) == 1) (wrap64 (bt a0 0)) 0 0 0 0) else (if (wrap64 (bt a0 0)) = 2 then (gatewardenref06_read.j0 k a0 (wrap64 (bt a0 0)) (wrap64 (bt a0 0)) ((wrap64 (bt a0 0)) == 2) (wrap64 (bt a0 0)) 0 0 0 0) else (if (wrap64 (bt a0 0)) = 3 then (gatewardenref06_read.j0 k a0 (wrap64 (bt a0 0)) (wrap64 (bt a0 0)) ((wrap64 (bt a0 0)) == 3) (wrap64 (bt a0 0)) 0 0 0 0) else (gatewardenref06_read.j0 k a0 (wrap64 (bt a0 0)) (wrap64 (bt a0 0)) ((wrap64 (bt a0 0)) == 4) (wrap64 (bt a0 0)) 0 0 0 0)))) else (none)
theorem gatewardenref06_read.mono_l : ∀ k, (∀ y0 y1 y2 y3 y4 y5 y6 y7, LeO (gatewardenref06_read.j3 k y0 y1 y2 y3 y4 y5 y6 y7) (gatewardenref06_read.j3 (k + 1) y0 y1 y2 y3 y4 y5 y6 y7)) ∧ (∀ y0 y1 y2 y3 y4 y5 y6 y7 y8, LeO (gatewardenref06_read.j4 k y0 y1 y2 y3 y4 y5 y6 y7 y8) (gatewardenref06_read.j4 (k + 1) y0 y1 y2 y3 y4 y5 y6 y7 y8)) ∧ (∀ y0 y1 y2 y3 y4 y5 y6 y7 y8, LeO (gatewardenref06_read.j0 k y0 y1 y2 y3 y4 y5 y6 y7 y8) (gatewardenref06_read.j0 (k + 1) y0 y1 y2 y3 y4 y5 y6 y7 y8)) ∧ (∀ y0 y1 y2 y3 y4 y5 y6 y7 y8, LeO (gatewardenref06_read.j1 k y0 y1 y2 y3 y4 y5 y6 y7 y8) (gatewardenref06_read.j1 (k + 1) y0 y1 y2 y3 y4 y5 y6 y7 y8)) ∧ (∀ y0 y1 y2 y3 y4 y5 y6 y7, LeO (gatewardenref06_read.j2 k y0 y1 y2 y3 y4 y5 y6 y7) (gatewardenref06_read.j2 (k + 1) y0 y1 y2 y3 y4 y5 y6 y7))
  | 0 => ⟨fun _ _ _ _ _ _ _ _ r h => by simp [gatewardenref06_read.j3] at h, fun _ _ _ _ _ _ _ _ _ r h => by simp [gatewardenref06_read.j4] at h, fun _ _ _ _ _ _ _ _ _ r h => by simp [gatewardenref06_read.j0] at h, fun _ _ _ _ _ _ _ _ _ r h => by simp [gatewardenref06_read.j1] at h, fun _ _ _ _ _ _ _ _ r h => by simp [gatewardenref06_read.j2] at h⟩
  | k + 1 => by
    obtain ⟨ih0, ih1, ih2, ih3, ih4⟩ := gatewardenref06_read.mono_l k
    refine ⟨?_, ?_, ?_, ?_, ?_⟩
    · intro y0 y1 y2 y3 y4 y5 y6 y7
      unfold gatewardenref06_read.j3
      repeat' first
      | (with_reducible exact ih0 _ _ _ _ _ _ _ _)
      | (with_reducible exact ih1 _ _ _ _ _ _ _ _ _)
      | (with_reducible exact ih2 _ _ _ _ _ _ _ _ _)
      | (with_reducible exact ih3 _ _ _ _ _ _ _ _ _)
      | (with_reducible exact ih4 _ _ _ _ _ _ _ _)
      | (with_reducible exact gatewardenref06_values.mono _ _ _ _ _)
      | (with_reducible exact LeO.refl _)
      | (with_reducible exact LeO.none _)
      | (with_reducible refine LeO.ite ?_ ?_)
      | (with_reducible refine LeO.bind ?_ (fun _ => ?_))
      | exact ih0 _ _ _ _ _ _ _ _
      | exact ih1 _ _ _ _ _ _ _ _ _
      | exact ih2 _ _ _ _ _ _ _ _ _
      | exact ih3 _ _ _ _ _ _ _ _ _
      | exact ih4 _ _ _ _ _ _ _ _
      | exact gatewardenref06_values.mono _ _ _ _ _
      | exact LeO.none _
      | refine LeO.ite ?_ ?_
      | refine LeO.bind ?_ (fun _ => ?_)
    · intro y0 y1 y2 y3 y4 y5 y6 y7 y8
      unfold gatewardenref06_read.j4
      repeat' first
      | (with_reducible exact ih0 _ _ _ _ _ _ _ _)
      | (with_reducible exact ih1 _ _ _ _ _ _ _ _ _)
      | (with_reducible exact ih2 _ _ _ _ _ _ _ _ _)
      | (with_reducible exact ih3 _ _ _ _ _ _ _ _ _)
      | (with_reducible exact ih4 _ _ _ _ _ _ _ _)
      | (with_reducible exact gatewardenref06_values.mono _ _ _ _ _)
      | (with_reducible exact LeO.refl _)
      | (with_reducible exact LeO.none _)
      | (with_reducible refine LeO.ite ?_ ?_)
      | (with_reducible refine LeO.bind ?_ (fun _ => ?_))
      | exact ih0 _ _ _ _ _ _ _ _
      | exact ih1 _ _ _ _ _ _ _ _ _
      | exact ih2 _ _ _ _ _ _ _ _ _
      | exact ih3 _ _ _ _ _ _ _ _ _
      | exact ih4 _ _ _ _ _ _ _ _
      | exact gatewardenref06_values.mono _ _ _ _ _
      | exact LeO.none _
      | refine LeO.ite ?_ ?_
      | refine LeO.bind ?_ (fun _ => ?_)
    · intro y0 y1 y2 y3 y4 y5 y6 y7 y8
      unfold gatewardenref06_read.j0
      repeat' first
      | (with_reducible exact ih0 _ _ _ _ _ _ _ _)
      | (with_reducible exact ih1 _ _ _ _ _ _ _ _ _)
      | (with_reducible exact ih2 _ _ _ _ _ _ _ _ _)
      | (with_reducible exact ih3 _ _ _ _ _ _ _ _ _)
      | (with_reducible exact ih4 _ _ _ _ _ _ _ _)
      | (with_reducible exact gatewardenref06_values.mono _ _ _ _ _)
      | (with_reducible exact LeO.refl _)
      | (with_reducible exact LeO.none _)
      | (with_reducible refine LeO.ite ?_ ?_)
      | (with_reducible refine LeO.bind ?_ (fun _ => ?_))
      | exact ih0 _ _ _ _ _ _ _ _
      | exact ih1 _ _ _ _ _ _ _ _ _
      | exact ih2 _ _ _ _ _ _ _ _ _
      | exact ih3 _ _ _ _ _ _ _ _ _
      | exact ih4 _ _ _ _ _ _ _ _
      | exact gatewardenref06_values.mono _ _ _ _ _
      | exact LeO.none _
      | refine LeO.ite ?_ ?_
      | refine LeO.bind ?_ (fun _ => ?_)
    · intro y0 y1 y2 y3 y4 y5 y6 y7 y8
      unfold gatewardenref06_read.j1
      repeat' first
      | (with_reducible exact ih0 _ _ _ _ _ _ _ _)
      | (with_reducible exact ih1 _ _ _ _ _ _ _ _ _)
      | (with_reducible exact ih2 _ _ _ _ _ _ _ _ _)
      | (with_reducible exact ih3 _ _ _ _ _ _ _ _ _)
      | (with_reducible exact ih4 _ _ _ _ _ _ _ _)
      | (with_reducible exact gatewardenref06_values.mono _ _ _ _ _)
      | (with_reducible exact LeO.refl _)
      | (with_reducible exact LeO.none _)
      | (with_reducible refine LeO.ite ?_ ?_)
      | (with_reducible refine LeO.bind ?_ (fun _ => ?_))
      | exact ih0 _ _ _ _ _ _ _ _
      | exact ih1 _ _ _ _ _ _ _ _ _
      | exact ih2 _ _ _ _ _ _ _ _ _
      | exact ih3 _ _ _ _ _ _ _ _ _
      | exact ih4 _ _ _ _ _ _ _ _
      | exact gatewardenref06_values.mono _ _ _ _ _
      | exact LeO.none _
      | refine LeO.ite ?_ ?_
      | refine LeO.bind ?_ (fun _ => ?_)
    · intro y0 y1 y2 y3 y4 y5 y6 y7
      unfold gatewardenref06_read.j2
      repeat' first
      | (with_reducible exact ih0 _ _ _ _ _ _ _ _)
      | (with_reducible exact ih1 _ _ _ _ _ _ _ _ _)
      | (with_reducible exact ih2 _ _ _ _ _ _ _ _ _)
      | (with_reducible exact ih3 _ _ _ _ _ _ _ _ _)
      | (with_reducible exact ih4 _ _ _ _ _ _ _ _)
      | (with_reducible exact gatewardenref06_values.mono _ _ _ _ _)
      | (with_reducible exact LeO.refl _)
      | (with_reducible exact LeO.none _)
      | (with_reducible refine LeO.ite ?_ ?_)
      | (with_reducible refine LeO.bind ?_ (fun _ => ?_))
      | exact ih0 _ _ _ _ _ _ _ _
      | exact ih1 _ _ _ _ _ _ _ _ _
      | exact ih2 _ _ _ _ _ _ _ _ _
      | exact ih3 _ _ _ _ _ _ _ _ _
      | exact ih4 _ _ _ _ _ _ _ _
      | exact gatewardenref06_values.mono _ _ _ _ _
      | exact LeO.none _
      | refine LeO.ite ?_ ?_
      | refine LeO.bind ?_ (fun _ => ?_)
theorem gatewardenref06_read.mono : ∀ a0 k, LeO (gatewardenref06_read.f k a0) (gatewardenref06_read.f (k + 1) a0) := by
  intro a0 k
  obtain ⟨ih0, ih1, ih2, ih3, ih4⟩ := gatewardenref06_read.mono_l k
  unfold gatewardenref06_read.f
  repeat' first
      | (with_reducible exact ih0 _ _ _ _ _ _ _ _)
      | (with_reducible exact ih1 _ _ _ _ _ _ _ _ _)
      | (with_reducible exact ih2 _ _ _ _ _ _ _ _ _)
      | (with_reducible exact ih3 _ _ _ _ _ _ _ _ _)
      | (with_reducible exact ih4 _ _ _ _ _ _ _ _)
      | (with_reducible exact gatewardenref06_values.mono _ _ _ _ _)
      | (with_reducible exact LeO.refl _)
      | (with_reducible exact LeO.none _)
      | (with_reducible refine LeO.ite ?_ ?_)
      | (with_reducible refine LeO.bind ?_ (fun _ => ?_))
      | exact ih0 _ _ _ _ _ _ _ _
      | exact ih1 _ _ _ _ _ _ _ _ _
      | exact ih2 _ _ _ _ _ _ _ _ _
      | exact ih3 _ _ _ _ _ _ _ _ _
      | exact ih4 _ _ _ _ _ _ _ _
      | exact gatewardenref06_values.mono _ _ _ _ _
      | exact LeO.none _
      | refine LeO.ite ?_ ?_
      | refine LeO.bind ?_ (fun _ => ?_)
set_option maxHeartbeats 8000000 in
set_option maxRecDepth 100000 in
theorem gatewardenref06_read.calls (k : Nat) (a0 : ByteArray) (r1 : Int) (r2 : Int) (r3 : Int) (r4 : Int) (r5 : Int) (r6 : List Int) (r7 : Bool) (w : World) (h : gatewardenref06_read.f k a0 = some (r1, r2, r3, r4, r5, r6, r7)) :
    Calls Try.prog 64 #[.string a0] w fun e w' => ∃ v5_ : Value, e = .returned (.tuple #[.agg #[.int .i64 r1, .int .i64 r2, .int .i64 r3, .int .i64 r4, .int .i64 r5, v5_], .bool r7]) ∧ Kd.R (Kd.int .i64) 3 w' w.heap.size (fun _ => True) v5_ r6 ∧ Below w.heap.size w w' := by
  have hu24 := Try.underlying24
  have HB := Aside0.mk (Below.refl w.heap.size w)
  have H : (if 0 < (a0.size : Int) then (if (wrap64 (bt a0 0)) = 1 then (gatewardenref06_read.j0 k a0 (wrap64 (bt a0 0)) (wrap64 (bt a0 0)) ((wrap64 (bt a0 0)) == 1) (wrap64 (bt a0 0)) 0 0 0 0) else (if (wrap64 (bt a0 0)) = 2 then (gatewardenref06_read.j0 k a0 (wrap64 (bt a0 0)) (wrap64 (bt a0 0)) ((wrap64 (bt a0 0)) == 2) (wrap64 (bt a0 0)) 0 0 0 0) else (if (wrap64 (bt a0 0)) = 3 then (gatewardenref06_read.j0 k a0 (wrap64 (bt a0 0)) (wrap64 (bt a0 0)) ((wrap64 (bt a0 0)) == 3) (wrap64 (bt a0 0)) 0 0 0 0) else (gatewardenref06_read.j0 k a0 (wrap64 (bt a0 0)) (wrap64 (bt a0 0)) ((wrap64 (bt a0 0)) == 4) (wrap64 (bt a0 0)) 0 0 0 0)))) else (none)) = some (r1, r2, r3, r4, r5, r6, r7) := h
  clear h
  by_cases c2 : 0 < (a0.size : Int)
  · rw [if_pos c2] at H
    have c2b0 : decide (0 < (a0.size : Int)) = true := decide_eq_true c2
    have c2b1 : decide (0 < a0.size) = true := decide_eq_true (by omega)
    clear c2
    have HC4 := Aside0.mk H
    clear H
    go_enter Try.func64, Try.ntmps64
    go_upto_block 0 with (first | ((with_reducible refine gate_dst (N := 2) rfl ?_); refine box_event ?hg (N := 2) ?hd (cs := #[.int .i64 0, .int .i64 0, .int .i64 0, .int .i64 0, .int .i64 0, .slice none 0 0]) (t := 24) ?hr ?_; (case hd => rfl); (case hg => rfl); (case hr => first | (go_simp; done) | (go_simp; rfl)); intro gb308 hg w5 hbox hb; have n0_ := Aside0.mk (below_step (by repeat (first | (with_reducible first | exact HB.out | apply below_alloc | apply pw_below_drewN | apply below_drew1) | exact HB.out)) hb); have n1_ := Aside0.mk (hbox); have n2_ := Aside0.mk ((by rw [hg]; exact (below_size (by repeat (first | (with_reducible first | exact HB.out | apply below_alloc | apply pw_below_drewN | apply below_drew1) | exact HB.out))) : w.heap.size ≤ gb308)); have n3_ := Aside0.mk ((by rw [hg]; exact (below_size (by repeat (first | (with_reducible first | exact HB.out | apply below_alloc | apply pw_below_drewN | apply below_drew1) | exact HB.out))) : w.heap.size ≤ gb308)); clear HB; have HB := n0_; have BK308 := n1_; have GW308 := n2_; have GE308 := n3_; clear n0_ n1_ n2_ n3_; clear hb hbox hg; have p3 : 0 ≤ (0 : Int) := (by omega); have q3 : 0 < a0.size := (by have : (0 : Int) < (a0.size : Int) := of_decide_eq_true (by first | (with_reducible assumption) | assumption); omega); have hx3 : ∀ h : 0 < a0.size, ((a0[0]'h).toNat : Int) = bt a0 0 := bt_at a0 0; clear p3; have qi3 : (0 < (a0.size : Int)) = True := eq_true (of_decide_eq_true (by first | (with_reducible assumption) | assumption)); replace q3 := eq_true q3) | ((with_reducible refine gate_dst (N := 5) rfl ?_); refine box_event ?hg (N := 5) ?hd (cs := #[.int .i64 0, .int .i64 0, .int .i64 0, .int .i64 0, .int .i64 0, .slice none 0 0]) (t := 24) ?hr ?_; (case hd => rfl); (case hg => rfl); (case hr => first | (go_simp; done) | (go_simp; rfl)); intro gb309 hg w6 hbox hb; have n0_ := Aside0.mk (blk_below (g := gb308) (o := .cells #[.int .i64 0, .int .i64 0, .int .i64 0, .int .i64 0, .int .i64 0, .slice none 0 0] 24 (0, 0)) (by (with_reducible repeat (first | refine blk_drewN ?_ _ | refine blk_drew ?_ | refine blk_alloc ?_ _)); exact BK308.out) hb); have n1_ := Aside0.mk (below_step (by repeat (first | (with_reducible first | exact HB.out | apply below_alloc | apply pw_below_drewN | apply below_drew1 | refine below_set ?_ GE308.out) | exact HB.out)) hb); have n2_ := Aside0.mk (hbox); have n3_ := Aside0.mk ((by rw [hg]; exact (below_size (by repeat (first | (with_reducible first | exact HB.out | apply below_alloc | apply pw_below_drewN | apply below_drew1 | refine below_set ?_ GE308.out) | exact HB.out))) : w.heap.size ≤ gb309)); have n4_ := Aside0.mk ((by rw [hg]; exact (below_size (by repeat (first | (with_reducible first | exact HB.out | apply below_alloc | apply pw_below_drewN | apply below_drew1 | refine below_set ?_ GE308.out) | exact HB.out))) : w.heap.size ≤ gb309)); have n5_ := Aside0.mk ((by rw [hg]; exact Nat.ne_of_lt (blk_lt (g := gb308) (o := .cells #[.int .i64 0, .int .i64 0, .int .i64 0, .int .i64 0, .int .i64 0, .slice none 0 0] 24 (0, 0)) (by (with_reducible repeat (first | refine blk_drewN ?_ _ | refine blk_drew ?_ | refine blk_alloc ?_ _)); exact BK308.out)) : gb308 ≠ gb309)); have n6_ := Aside0.mk ((by rw [hg]; exact Nat.ne_of_gt (blk_lt (g := gb308) (o := .cells #[.int .i64 0, .int .i64 0, .int .i64 0, .int .i64 0, .int .i64 0, .slice none 0 0] 24 (0, 0)) (by (with_reducible repeat (first | refine blk_drewN ?_ _ | refine blk_drew ?_ | refine blk_alloc ?_ _)); exact BK308.out)) : gb309 ≠ gb308)); clear BK308; clear HB; have BK308 := n0_; have HB := n1_; have BK309 := n2_; have GW309 := n3_; have GE309 := n4_; have NB308_309 := n5_; have NB309_308 := n6_; clear n0_ n1_ n2_ n3_ n4_ n5_ n6_; clear hb hbox hg; have hnb7 := NB309_308.out; have hnc7 := NB308_309.out; have hcz8_0 : w6.cell? ⟨gb309, 0, none⟩ = some (.int .i64 0) := (blk_cell BK309.out 0).trans rfl; have hcz8_1 : w6.cell? ⟨gb309, 1, none⟩ = some (.int .i64 0) := (blk_cell BK309.out 1).trans rfl; have hcz8_2 : w6.cell? ⟨gb309, 2, none⟩ = some (.int .i64 0) := (blk_cell BK309.out 2).trans rfl; have hcz8_3 : w6.cell? ⟨gb309, 3, none⟩ = some (.int .i64 0) := (blk_cell BK309.out 3).trans rfl; have hcz8_4 : w6.cell? ⟨gb309, 4, none⟩ = some (.int .i64 0) := (blk_cell BK309.out 4).trans rfl; have hcz8_5 : w6.cell? ⟨gb309, 5, none⟩ = some (.slice none 0 0) := (blk_cell BK309.out 5).trans rfl; have hfz8_0 := blk_frozen BK309.out 0; have hfz8_1 := blk_frozen BK309.out 1; have hfz8_2 := blk_frozen BK309.out 2; have hfz8_3 := blk_frozen BK309.out 3; have hfz8_4 := blk_frozen BK309.out 4; have hfz8_5 := blk_frozen BK309.out 5))
    (try simp only [Act.put, List.setIfInBounds_toArray, List.set_cons_zero, List.set_cons_succ])
    go_cut [6] (fun v6 wc => ∃ (kq : Nat) (x6_3 : Bool) (x310001_3 : Int) (x310002_3 : Int) (x310003_3 : Int) (x310004_3 : Int) (x310005_3 : List Int) (u310005 : Value), v6 = .bool x6_3 ∧ Aside0 (gatewardenref06_read.j3 kq (wrap64 (bt a0 0)) x6_3 (wrap64 (bt a0 0)) x310001_3 x310002_3 x310003_3 x310004_3 x310005_3 = some (r1, r2, r3, r4, r5, r6, r7)) ∧ Aside0 (kq ≤ k) ∧ Aside0 (Kd.R (Kd.int .i64) 3 wc w.heap.size (fun _ => True) u310005 x310005_3) ∧ Aside0 (wc.heap[gb308]? = some (.cells #[.int .i64 0, .int .i64 0, .int .i64 0, .int .i64 0, .int .i64 0, (.slice none 0 0)] 24 (0, 0))) ∧ Aside0 (wc.heap[gb309]? = some (.cells #[.int .i64 (wrap64 (bt a0 0)), .int .i64 x310001_3, .int .i64 x310002_3, .int .i64 x310003_3, .int .i64 x310004_3, u310005] 24 (0, 0))) ∧ Aside0 (Below w.heap.size w wc))
    case first =>
      have H := HC4.out
      clear HC4
      have HC9 := Aside0.mk H
      clear H
      go_upto_if 34 with (fail)
      go_cut [34] (fun v34 wc => ∃ (kq : Nat) (x34_8 : Bool), v34 = .bool x34_8 ∧ Aside0 (gatewardenref06_read.j0 kq a0 (wrap64 (bt a0 0)) (wrap64 (bt a0 0)) x34_8 (wrap64 (bt a0 0)) 0 0 0 0 = some (r1, r2, r3, r4, r5, r6, r7)) ∧ Aside0 (kq ≤ k) ∧ Aside0 (wc.heap[gb308]? = some (.cells #[.int .i64 0, .int .i64 0, .int .i64 0, .int .i64 0, .int .i64 0, (.slice none 0 0)] 24 (0, 0))) ∧ Aside0 (wc.heap[gb309]? = some (.cells #[.int .i64 (wrap64 (bt a0 0)), .int .i64 0, .int .i64 0, .int .i64 0, .int .i64 0, (.slice none 0 0)] 24 (0, 0))) ∧ Aside0 (Below w.heap.size w wc))
      case first =>
        have H := HC9.out
        clear HC9
        by_cases c10 : (wrap64 (bt a0 0)) = 1
        · rw [if_pos c10] at H
          have c10b0 : ((wrap64 (bt a0 0)) == 1) = true := beq_iff_eq.mpr c10
          have c10b1 : ((wrap64 (bt a0 0)) != 1) = false := bne_eq_false_iff_eq.mpr c10
          clear c10
          (first | rw [c10b0] | (simp only [i64_w, i32_w]; rw [c10b0]) | skip)
          have H' := Aside0.mk H
          clear H
          go_wp2
          go_meet
          case rel => exact ⟨_, (((wrap64 (bt a0 0)) == 1)), (by first | rfl | (simp; done) | (simp [*]; done)), H', ⟨by first | omega | exact Nat.le_refl _⟩, ⟨by (with_reducible repeat (first | refine blk_drewN ?_ _ | refine blk_drew ?_ | refine blk_alloc ?_ _)); refine blk_far ?_ NB308_309.out _; (with_reducible repeat (first | refine blk_drewN ?_ _ | refine blk_drew ?_ | refine blk_alloc ?_ _)); refine blk_far ?_ NB308_309.out _; (with_reducible repeat (first | refine blk_drewN ?_ _ | refine blk_drew ?_ | refine blk_alloc ?_ _)); refine blk_far ?_ NB308_309.out _; (with_reducible repeat (first | refine blk_drewN ?_ _ | refine blk_drew ?_ | refine blk_alloc ?_ _)); refine blk_far ?_ NB308_309.out _; (with_reducible repeat (first | refine blk_drewN ?_ _ | refine blk_drew ?_ | refine blk_alloc ?_ _)); refine blk_far ?_ NB308_309.out _; (with_reducible repeat (first | refine blk_drewN ?_ _ | refine blk_drew ?_ | refine blk_alloc ?_ _)); refine blk_far ?_ NB308_309.out _; (with_reducible repeat (first | refine blk_drewN ?_ _ | refine blk_drew ?_ | refine blk_alloc ?_ _)); exact BK308.out⟩, ⟨by (with_reducible repeat (first | refine blk_drewN ?_ _ | refine blk_drew ?_ | refine blk_alloc ?_ _)); refine blk_put (cs := #[.int .i64 (wrap64 (bt a0 0)), .int .i64 0, .int .i64 0, .int .i64 0, .int .i64 0, .slice none 0 0]) ?_ 5 _ rfl; (with_reducible repeat (first | refine blk_drewN ?_ _ | refine blk_drew ?_ | refine blk_alloc ?_ _)); refine blk_put (cs := #[.int .i64 (wrap64 (bt a0 0)), .int .i64 0, .int .i64 0, .int .i64 0, .int .i64 0, .slice none 0 0]) ?_ 4 _ rfl; (with_reducible repeat (first | refine blk_drewN ?_ _ | refine blk_drew ?_ | refine blk_alloc ?_ _)); refine blk_put (cs := #[.int .i64 (wrap64 (bt a0 0)), .int .i64 0, .int .i64 0, .int .i64 0, .int .i64 0, .slice none 0 0]) ?_ 3 _ rfl; (with_reducible repeat (first | refine blk_drewN ?_ _ | refine blk_drew ?_ | refine blk_alloc ?_ _)); refine blk_put (cs := #[.int .i64 (wrap64 (bt a0 0)), .int .i64 0, .int .i64 0, .int .i64 0, .int .i64 0, .slice none 0 0]) ?_ 2 _ rfl; (with_reducible repeat (first | refine blk_drewN ?_ _ | refine blk_drew ?_ | refine blk_alloc ?_ _)); refine blk_put (cs := #[.int .i64 (wrap64 (bt a0 0)), .int .i64 0, .int .i64 0, .int .i64 0, .int .i64 0, .slice none 0 0]) ?_ 1 _ rfl; (with_reducible repeat (first | refine blk_drewN ?_ _ | refine blk_drew ?_ | refine blk_alloc ?_ _)); refine blk_put (cs := #[.int .i64 0, .int .i64 0, .int .i64 0, .int .i64 0, .int .i64 0, .slice none 0 0]) ?_ 0 _ rfl; (with_reducible repeat (first | refine blk_drewN ?_ _ | refine blk_drew ?_ | refine blk_alloc ?_ _)); exact BK309.out⟩, ⟨by repeat (first | (with_reducible first | exact HB.out | apply below_alloc | apply pw_below_drewN | apply below_drew1 | refine below_set ?_ GE308.out | refine below_set ?_ GE309.out) | exact HB.out)⟩⟩
        · rw [if_neg c10] at H
          have c10b0 : ((wrap64 (bt a0 0)) == 1) = false := beq_eq_false_iff_ne.mpr c10
          have c10b1 : ((wrap64 (bt a0 0)) != 1) = true := bne_iff_ne.mpr c10
          (first | rw [c10b0] | (simp only [i64_w, i32_w]; rw [c10b0]) | skip)
          by_cases c11 : (wrap64 (bt a0 0)) = 2
          · rw [if_pos c11] at H
            have c11b0 : ((wrap64 (bt a0 0)) == 2) = true := beq_iff_eq.mpr c11
            have c11b1 : ((wrap64 (bt a0 0)) != 2) = false := bne_eq_false_iff_eq.mpr c11
            clear c11
            have H' := Aside0.mk H
            clear H
            go_wp2
            go_meet
            case rel => exact ⟨_, (((wrap64 (bt a0 0)) == 2)), (by first | rfl | (simp; done) | (simp [*]; done)), H', ⟨by first | omega | exact Nat.le_refl _⟩, ⟨by (with_reducible repeat (first | refine blk_drewN ?_ _ | refine blk_drew ?_ | refine blk_alloc ?_ _)); refine blk_far ?_ NB308_309.out _; (with_reducible repeat (first | refine blk_drewN ?_ _ | refine blk_drew ?_ | refine blk_alloc ?_ _)); refine blk_far ?_ NB308_309.out _; (with_reducible repeat (first | refine blk_drewN ?_ _ | refine blk_drew ?_ | refine blk_alloc ?_ _)); refine blk_far ?_ NB308_309.out _; (with_reducible repeat (first | refine blk_drewN ?_ _ | refine blk_drew ?_ | refine blk_alloc ?_ _)); refine blk_far ?_ NB308_309.out _; (with_reducible repeat (first | refine blk_drewN ?_ _ | refine blk_drew ?_ | refine blk_alloc ?_ _)); refine blk_far ?_ NB308_309.out _; (with_reducible repeat (first | refine blk_drewN ?_ _ | refine blk_drew ?_ | refine blk_alloc ?_ _)); refine blk_far ?_ NB308_309.out _; (with_reducible repeat (first | refine blk_drewN ?_ _ | refine blk_drew ?_ | refine blk_alloc ?_ _)); exact BK308.out⟩, ⟨by (with_reducible repeat (first | refine blk_drewN ?_ _ | refine blk_drew ?_ | refine blk_alloc ?_ _)); refine blk_put (cs := #[.int .i64 (wrap64 (bt a0 0)), .int .i64 0, .int .i64 0, .int .i64 0, .int .i64 0, .slice none 0 0]) ?_ 5 _ rfl; (with_reducible repeat (first | refine blk_drewN ?_ _ | refine blk_drew ?_ | refine blk_alloc ?_ _)); refine blk_put (cs := #[.int .i64 (wrap64 (bt a0 0)), .int .i64 0, .int .i64 0, .int .i64 0, .int .i64 0, .slice none 0 0]) ?_ 4 _ rfl; (with_reducible repeat (first | refine blk_drewN ?_ _ | refine blk_drew ?_ | refine blk_alloc ?_ _)); refine blk_put (cs := #[.int .i64 (wrap64 (bt a0 0)), .int .i64 0, .int .i64 0, .int .i64 0, .int .i64 0, .slice none 0 0]) ?_ 3 _ rfl; (with_reducible repeat (first | refine blk_drewN ?_ _ | refine blk_drew ?_ | refine blk_alloc ?_ _)); refine blk_put (cs := #[.int .i64 (wrap64 (bt a0 0)), .int .i64 0, .int .i64 0, .int .i64 0, .int .i64 0, .slice none 0 0]) ?_ 2 _ rfl; (with_reducible repeat (first | refine blk_drewN ?_ _ | refine blk_drew ?_ | refine blk_alloc ?_ _)); refine blk_put (cs := #[.int .i64 (wrap64 (bt a0 0)), .int .i64 0, .int .i64 0, .int .i64 0, .int .i64 0, .slice none 0 0]) ?_ 1 _ rfl; (with_reducible repeat (first | refine blk_drewN ?_ _ | refine blk_drew ?_ | refine blk_alloc ?_ _)); refine blk_put (cs := #[.int .i64 0, .int .i64 0, .int .i64 0, .int .i64 0, .int .i64 0, .slice none 0 0]) ?_ 0 _ rfl; (with_reducible repeat (first | refine blk_drewN ?_ _ | refine blk_drew ?_ | refine blk_alloc ?_ _)); exact BK309.out⟩, ⟨by repeat (first | (with_reducible first | exact HB.out | apply below_alloc | apply pw_below_drewN | apply below_drew1 | refine below_set ?_ GE308.out | refine below_set ?_ GE309.out) | exact HB.out)⟩⟩
          · rw [if_neg c11] at H
            have c11b0 : ((wrap64 (bt a0 0)) == 2) = false := beq_eq_false_iff_ne.mpr c11
            have c11b1 : ((wrap64 (bt a0 0)) != 2) = true := bne_iff_ne.mpr c11
            by_cases c12 : (wrap64 (bt a0 0)) = 3
            · rw [if_pos c12] at H
              have c12b0 : ((wrap64 (bt a0 0)) == 3) = true := beq_iff_eq.mpr c12
              have c12b1 : ((wrap64 (bt a0 0)) != 3) = false := bne_eq_false_iff_eq.mpr c12
              clear c12
              have H' := Aside0.mk H
              clear H
              go_wp2
              go_meet
              case rel => exact ⟨_, (((wrap64 (bt a0 0)) == 3)), (by first | rfl | (simp; done) | (simp [*]; done)), H', ⟨by first | omega | exact Nat.le_refl _⟩, ⟨by (with_reducible repeat (first | refine blk_drewN ?_ _ | refine blk_drew ?_ | refine blk_alloc ?_ _)); refine blk_far ?_ NB308_309.out _; (with_reducible repeat (first | refine blk_drewN ?_ _ | refine blk_drew ?_ | refine blk_alloc ?_ _)); refine blk_far ?_ NB308_309.out _; (with_reducible repeat (first | refine blk_drewN ?_ _ | refine blk_drew ?_ | refine blk_alloc ?_ _)); refine blk_far ?_ NB308_309.out _; (with_reducible repeat (first | refine blk_drewN ?_ _ | refine blk_drew ?_ | refine blk_alloc ?_ _)); refine blk_far ?_ NB308_309.out _; (with_reducible repeat (first | refine blk_drewN ?_ _ | refine blk_drew ?_ | refine blk_alloc ?_ _)); refine blk_far ?_ NB308_309.out _; (with_reducible repeat (first | refine blk_drewN ?_ _ | refine blk_drew ?_ | refine blk_alloc ?_ _)); refine blk_far ?_ NB308_309.out _; (with_reducible repeat (first | refine blk_drewN ?_ _ | refine blk_drew ?_ | refine blk_alloc ?_ _)); exact BK308.out⟩, ⟨by (with_reducible repeat (first | refine blk_drewN ?_ _ | refine blk_drew ?_ | refine blk_alloc ?_ _)); refine blk_put (cs := #[.int .i64 (wrap64 (bt a0 0)), .int .i64 0, .int .i64 0, .int .i64 0, .int .i64 0, .slice none 0 0]) ?_ 5 _ rfl; (with_reducible repeat (first | refine blk_drewN ?_ _ | refine blk_drew ?_ | refine blk_alloc ?_ _)); refine blk_put (cs := #[.int .i64 (wrap64 (bt a0 0)), .int .i64 0, .int .i64 0, .int .i64 0, .int .i64 0, .slice none 0 0]) ?_ 4 _ rfl; (with_reducible repeat (first | refine blk_drewN ?_ _ | refine blk_drew ?_ | refine blk_alloc ?_ _)); refine blk_put (cs := #[.int .i64 (wrap64 (bt a0 0)), .int .i64 0, .int .i64 0, .int .i64 0, .int .i64 0, .slice none 0 0]) ?_ 3 _ rfl; (with_reducible repeat (first | refine blk_drewN ?_ _ | refine blk_drew ?_ | refine blk_alloc ?_ _)); refine blk_put (cs := #[.int .i64 (wrap64 (bt a0 0)), .int .i64 0, .int .i64 0, .int .i64 0, .int .i64 0, .slice none 0 0]) ?_ 2 _ rfl; (with_reducible repeat (first | refine blk_drewN ?_ _ | refine blk_drew ?_ | refine blk_alloc ?_ _)); refine blk_put (cs := #[.int .i64 (wrap64 (bt a0 0)), .int .i64 0, .int .i64 0, .int .i64 0, .int .i64 0, .slice none 0 0]) ?_ 1 _ rfl; (with_reducible repeat (first | refine blk_drewN ?_ _ | refine blk_drew ?_ | refine blk_alloc ?_ _)); refine blk_put (cs := #[.int .i64 0, .int .i64 0, .int .i64 0, .int .i64 0, .int .i64 0, .slice none 0 0]) ?_ 0 _ rfl; (with_reducible repeat (first | refine blk_drewN ?_ _ | refine blk_drew ?_ | refine blk_alloc ?_ _)); exact BK309.out⟩, ⟨by repeat (first | (with_reducible first | exact HB.out | apply below_alloc | apply pw_below_drewN | apply below_drew1 | refine below_set ?_ GE308.out | refine below_set ?_ GE309.out) | exact HB.out)⟩⟩
            · rw [if_neg c12] at H
              have c12b0 : ((wrap64 (bt a0 0)) == 3) = false := beq_eq_false_iff_ne.mpr c12
              have c12b1 : ((wrap64 (bt a0 0)) != 3) = true := bne_iff_ne.mpr c12
              have H' := Aside0.mk H
              clear H
              go_wp2
              go_meet
              case rel => exact ⟨_, (((wrap64 (bt a0 0)) == 4)), (by first | rfl | (simp; done) | (simp [*]; done)), H', ⟨by first | omega | exact Nat.le_refl _⟩, ⟨by (with_reducible repeat (first | refine blk_drewN ?_ _ | refine blk_drew ?_ | refine blk_alloc ?_ _)); refine blk_far ?_ NB308_309.out _; (with_reducible repeat (first | refine blk_drewN ?_ _ | refine blk_drew ?_ | refine blk_alloc ?_ _)); refine blk_far ?_ NB308_309.out _; (with_reducible repeat (first | refine blk_drewN ?_ _ | refine blk_drew ?_ | refine blk_alloc ?_ _)); refine blk_far ?_ NB308_309.out _; (with_reducible repeat (first | refine blk_drewN ?_ _ | refine blk_drew ?_ | refine blk_alloc ?_ _)); refine blk_far ?_ NB308_309.out _; (with_reducible repeat (first | refine blk_drewN ?_ _ | refine blk_drew ?_ | refine blk_alloc ?_ _)); refine blk_far ?_ NB308_309.out _; (with_reducible repeat (first | refine blk_drewN ?_ _ | refine blk_drew ?_ | refine blk_alloc ?_ _)); refine blk_far ?_ NB308_309.out _; (with_reducible repeat (first | refine blk_drewN ?_ _ | refine blk_drew ?_ | refine blk_alloc ?_ _)); exact BK308.out⟩, ⟨by (with_reducible repeat (first | refine blk_drewN ?_ _ | refine blk_drew ?_ | refine blk_alloc ?_ _)); refine blk_put (cs := #[.int .i64 (wrap64 (bt a0 0)), .int .i64 0, .int .i64 0, .int .i64 0, .int .i64 0, .slice none 0 0]) ?_ 5 _ rfl; (with_reducible repeat (first | refine blk_drewN ?_ _ | refine blk_drew ?_ | refine blk_alloc ?_ _)); refine blk_put (cs := #[.int .i64 (wrap64 (bt a0 0)), .int .i64 0, .int .i64 0, .int .i64 0, .int .i64 0, .slice none 0 0]) ?_ 4 _ rfl; (with_reducible repeat (first | refine blk_drewN ?_ _ | refine blk_drew ?_ | refine blk_alloc ?_ _)); refine blk_put (cs := #[.int .i64 (wrap64 (bt a0 0)), .int .i64 0, .int .i64 0, .int .i64 0, .int .i64 0, .slice none 0 0]) ?_ 3 _ rfl; (with_reducible repeat (first | refine blk_drewN ?_ _ | refine blk_drew ?_ | refine blk_alloc ?_ _)); refine blk_put (cs := #[.int .i64 (wrap64 (bt a0 0)), .int .i64 0, .int .i64 0, .int .i64 0, .int .i64 0, .slice none 0 0]) ?_ 2 _ rfl; (with_reducible repeat (first | refine blk_drewN ?_ _ | refine blk_drew ?_ | refine blk_alloc ?_ _)); refine blk_put (cs := #[.int .i64 (wrap64 (bt a0 0)), .int .i64 0, .int .i64 0, .int .i64 0, .int .i64 0, .slice none 0 0]) ?_ 1 _ rfl; (with_reducible repeat (first | refine blk_drewN ?_ _ | refine blk_drew ?_ | refine blk_alloc ?_ _)); refine blk_put (cs := #[.int .i64 0, .int .i64 0, .int .i64 0, .int .i64 0, .int .i64 0, .slice none 0 0]) ?_ 0 _ rfl; (with_reducible repeat (first | refine blk_drewN ?_ _ | refine blk_drew ?_ | refine blk_alloc ?_ _)); exact BK309.out⟩, ⟨by repeat (first | (with_reducible first | exact HB.out | apply below_alloc | apply pw_below_drewN | apply below_drew1 | refine below_set ?_ GE308.out | refine below_set ?_ GE309.out) | exact HB.out)⟩⟩
      case rest =>
        clear HC9
        try clear c1
        try clear c2
        try clear c2b0
        try clear c2b1
        try clear p2
        try clear p3
        try clear q3
        try clear hx3
        try clear qi3
        try clear c6
        try clear p6
        try clear c7
        try clear c10
        try clear c10b0
        try clear c10b1
        try clear c11
        try clear c11b0
        try clear c11b1
        try clear c12
        try clear c12b0
        try clear c12b1
        try clear hcz8_0
        try clear hcz8_1
        try clear hcz8_2
        try clear hcz8_3
        try clear hcz8_4
        try clear hcz8_5
        try clear hfz8_0
        try clear hfz8_1
        try clear hfz8_2
        try clear hfz8_3
        try clear hfz8_4
        try clear hfz8_5
        try clear p3
        try clear q3
        obtain ⟨kq, x34_8, rfl, HA, HJ8, BK308, BK309, HB⟩ := hcut
        cases kq with
        | zero => exact absurd HA.out (by simp [gatewardenref06_read.j0])
        | succ kj8 =>
          have H := HA.out
          clear HA
          simp only [gatewardenref06_read.j0] at H
          by_cases c13 : x34_8 = true
          · subst c13
            have H1 : ((gatewardenref06_at.f a0 1).bind fun t310 => ((gatewardenref06_at.f a0 3).bind fun t311 => (gatewardenref06_read.j3 kj8 (wrap64 (bt a0 0)) ((a0.size : Int) == 5) (wrap64 (bt a0 0)) t310 t311 0 0 ([] : List Int)))) = some (r1, r2, r3, r4, r5, r6, r7) := by rw [if_pos rfl] at H; exact H
            clear H
            have H := H1
            clear H1
            replace H := Option.bind_eq_some_iff.mp H
            obtain ⟨t310, A140, H⟩ := H
            replace H : ((gatewardenref06_at.f a0 3).bind fun t311 => (gatewardenref06_read.j3 kj8 (wrap64 (bt a0 0)) ((a0.size : Int) == 5) (wrap64 (bt a0 0)) t310 t311 0 0 ([] : List Int))) = some (r1, r2, r3, r4, r5, r6, r7) := H
            have A14 := Aside0.mk A140
            clear A140
            replace H := Option.bind_eq_some_iff.mp H
            obtain ⟨t311, A150, H⟩ := H
            replace H : (gatewardenref06_read.j3 kj8 (wrap64 (bt a0 0)) ((a0.size : Int) == 5) (wrap64 (bt a0 0)) t310 t311 0 0 ([] : List Int)) = some (r1, r2, r3, r4, r5, r6, r7) := H
            have A15 := Aside0.mk A150
            clear A150
            have H' := Aside0.mk H
            clear H
            have tk0_ := True.intro
            go_wp2_with (first | (have t_ := tk0_; clear t_; ((with_reducible refine gate_callee (f := 83) rfl ?_); refine goesL_ (some 40) rfl rfl Try.func83 (by kernel_rfl) rfl #[.string a0, .int .i64 1] rfl (by (try simp only [List.map_toArray, List.map_cons, List.map_nil]); first | done | rfl | (simp only [List.length_drop, List.length_take]; rfl)) ?_; (with_reducible refine (gatewardenref06_at.calls a0 1 t310 _ A14.out).mono ?_); rintro e w' ⟨rfl, ⟨nd, rfl⟩⟩; refine ⟨_, rfl, ?_⟩; (try (rw [drewN_self wc]; generalize hq_ : World.drewN wc _ = wc; have n0_ : Aside0 (wc.heap[gb308]? = some (.cells #[.int .i64 0, .int .i64 0, .int .i64 0, .int .i64 0, .int .i64 0, .slice none 0 0] 24 (0, 0))) := ⟨by rw [← hq_]; exact (by (with_reducible repeat (first | refine blk_drewN ?_ _ | refine blk_drew ?_ | refine blk_alloc ?_ _)); exact BK308.out)⟩; have n1_ : Aside0 (wc.heap[gb309]? = some (.cells #[.int .i64 (wrap64 (bt a0 0)), .int .i64 0, .int .i64 0, .int .i64 0, .int .i64 0, .slice none 0 0] 24 (0, 0))) := ⟨by rw [← hq_]; exact (by (with_reducible repeat (first | refine blk_drewN ?_ _ | refine blk_drew ?_ | refine blk_alloc ?_ _)); exact BK309.out)⟩; have n2_ : Aside0 (Below w.heap.size w wc) := ⟨by rw [← hq_]; exact (by repeat (first | (with_reducible first | exact HB.out | apply below_alloc | apply pw_below_drewN | apply below_drew1 | refine below_set ?_ GE308.out | refine below_set ?_ GE309.out) | exact HB.out))⟩; clear BK308 BK309 HB hq_; have BK308 := n0_; have BK309 := n1_; have HB := n2_; clear n0_ n1_ n2_))); clear tk0_; have tk1_ := True.intro) | (have t_ := tk1_; clear t_; ((with_reducible refine gate_callee (f := 83) rfl ?_); refine goesL_ (some 42) rfl rfl Try.func83 (by kernel_rfl) rfl #[.string a0, .int .i64 3] rfl (by (try simp only [List.map_toArray, List.map_cons, List.map_nil]); first | done | rfl | (simp only [List.length_drop, List.length_take]; rfl)) ?_; (with_reducible refine (gatewardenref06_at.calls a0 3 t311 _ A15.out).mono ?_); rintro e w' ⟨rfl, ⟨nd, rfl⟩⟩; refine ⟨_, rfl, ?_⟩; (try (rw [drewN_self wc]; generalize hq_ : World.drewN wc _ = wc; have n0_ : Aside0 (wc.heap[gb308]? = some (.cells #[.int .i64 0, .int .i64 0, .int .i64 0, .int .i64 0, .int .i64 0, .slice none 0 0] 24 (0, 0))) := ⟨by rw [← hq_]; exact (by (with_reducible repeat (first | refine blk_drewN ?_ _ | refine blk_drew ?_ | refine blk_alloc ?_ _)); exact BK308.out)⟩; have n1_ : Aside0 (wc.heap[gb309]? = some (.cells #[.int .i64 (wrap64 (bt a0 0)), .int .i64 0, .int .i64 0, .int .i64 0, .int .i64 0, .slice none 0 0] 24 (0, 0))) := ⟨by rw [← hq_]; exact (by (with_reducible repeat (first | refine blk_drewN ?_ _ | refine blk_drew ?_ | refine blk_alloc ?_ _)); exact BK309.out)⟩; have n2_ : Aside0 (Below w.heap.size w wc) := ⟨by rw [← hq_]; exact (by repeat (first | (with_reducible first | exact HB.out | apply below_alloc | apply pw_below_drewN | apply below_drew1 | refine below_set ?_ GE308.out | refine below_set ?_ GE309.out) | exact HB.out))⟩; clear BK308 BK309 HB hq_; have BK308 := n0_; have BK309 := n1_; have HB := n2_; clear n0_ n1_ n2_)); have hnb16 := NB309_308.out; have hnc16 := NB308_309.out; have hcz17_0 : wc.cell? ⟨gb309, 0, none⟩ = some (.int .i64 (wrap64 (bt a0 0))) := (blk_cell BK309.out 0).trans rfl; have hcz17_1 : wc.cell? ⟨gb309, 1, none⟩ = some (.int .i64 0) := (blk_cell BK309.out 1).trans rfl; have hcz17_2 : wc.cell? ⟨gb309, 2, none⟩ = some (.int .i64 0) := (blk_cell BK309.out 2).trans rfl; have hcz17_3 : wc.cell? ⟨gb309, 3, none⟩ = some (.int .i64 0) := (blk_cell BK309.out 3).trans rfl; have hcz17_4 : wc.cell? ⟨gb309, 4, none⟩ = some (.int .i64 0) := (blk_cell BK309.out 4).trans rfl; have hcz17_5 : wc.cell? ⟨gb309, 5, none⟩ = some (.slice none 0 0) := (blk_cell BK309.out 5).trans rfl; have hfz17_0 := blk_frozen BK309.out 0; have hfz17_1 := blk_frozen BK309.out 1; have hfz17_2 := blk_frozen BK309.out 2; have hfz17_3 := blk_frozen BK309.out 3; have hfz17_4 := blk_frozen BK309.out 4; have hfz17_5 := blk_frozen BK309.out 5); clear tk1_; have tk2_ := True.intro))
            go_meet
            case rel => exact ⟨_, (((a0.size : Int) == 5)), (t310), (t311), (0), (0), (([] : List Int)), (.slice none 0 0), (by first | rfl | (simp; done) | (simp [*]; done)), H', ⟨by have := HJ8.out; first | omega | exact Nat.le_refl _⟩, ⟨by first | exact Kd.R_nil _ _ _ _ _ | exact Kd.N_nil _ _ _ _ _ | exact Kd.V_nil _ _ _ _ _ | exact Kd.Q_nil _ _ _ _ _ | exact Kd.S_nil _ _ _ _ _⟩, ⟨by (with_reducible repeat (first | refine blk_drewN ?_ _ | refine blk_drew ?_ | refine blk_alloc ?_ _)); refine blk_far ?_ NB308_309.out _; (with_reducible repeat (first | refine blk_drewN ?_ _ | refine blk_drew ?_ | refine blk_alloc ?_ _)); refine blk_far ?_ NB308_309.out _; (with_reducible repeat (first | refine blk_drewN ?_ _ | refine blk_drew ?_ | refine blk_alloc ?_ _)); exact BK308.out⟩, ⟨by (with_reducible repeat (first | refine blk_drewN ?_ _ | refine blk_drew ?_ | refine blk_alloc ?_ _)); refine blk_put (cs := #[.int .i64 (wrap64 (bt a0 0)), .int .i64 t310, .int .i64 0, .int .i64 0, .int .i64 0, .slice none 0 0]) ?_ 2 _ rfl; (with_reducible repeat (first | refine blk_drewN ?_ _ | refine blk_drew ?_ | refine blk_alloc ?_ _)); refine blk_put (cs := #[.int .i64 (wrap64 (bt a0 0)), .int .i64 0, .int .i64 0, .int .i64 0, .int .i64 0, .slice none 0 0]) ?_ 1 _ rfl; (with_reducible repeat (first | refine blk_drewN ?_ _ | refine blk_drew ?_ | refine blk_alloc ?_ _)); exact BK309.out⟩, ⟨by repeat (first | (with_reducible first | exact HB.out | apply below_alloc | apply pw_below_drewN | apply below_drew1 | refine below_set ?_ GE308.out | refine below_set ?_ GE309.out) | exact HB.out)⟩⟩
          · replace c13 := Bool.eq_false_iff.mpr c13
            subst c13
            have H1 : (if (wrap64 (bt a0 0)) = 5 then (gatewardenref06_read.j1 kj8 a0 (wrap64 (bt a0 0)) (wrap64 (bt a0 0)) ((wrap64 (bt a0 0)) == 5) (wrap64 (bt a0 0)) 0 0 0 0) else (gatewardenref06_read.j1 kj8 a0 (wrap64 (bt a0 0)) (wrap64 (bt a0 0)) ((wrap64 (bt a0 0)) == 6) (wrap64 (bt a0 0)) 0 0 0 0)) = some (r1, r2, r3, r4, r5, r6, r7) := by rw [if_neg (show ¬ (false = true) by decide)] at H; exact H
            clear H
            have H := H1
            clear H1
            have HC18 := Aside0.mk H
            clear H
            go_upto_if 48 with (fail)
            go_cut [48] (fun v48 wc => ∃ (kq : Nat) (x48_17 : Bool), v48 = .bool x48_17 ∧ Aside0 (gatewardenref06_read.j1 kq a0 (wrap64 (bt a0 0)) (wrap64 (bt a0 0)) x48_17 (wrap64 (bt a0 0)) 0 0 0 0 = some (r1, r2, r3, r4, r5, r6, r7)) ∧ Aside0 (kq ≤ kj8) ∧ Aside0 (wc.heap[gb308]? = some (.cells #[.int .i64 0, .int .i64 0, .int .i64 0, .int .i64 0, .int .i64 0, (.slice none 0 0)] 24 (0, 0))) ∧ Aside0 (wc.heap[gb309]? = some (.cells #[.int .i64 (wrap64 (bt a0 0)), .int .i64 0, .int .i64 0, .int .i64 0, .int .i64 0, (.slice none 0 0)] 24 (0, 0))) ∧ Aside0 (Below w.heap.size w wc))
            case first =>
              have H := HC18.out
              clear HC18
              by_cases c19 : (wrap64 (bt a0 0)) = 5
              · rw [if_pos c19] at H
                have c19b0 : ((wrap64 (bt a0 0)) == 5) = true := beq_iff_eq.mpr c19
                have c19b1 : ((wrap64 (bt a0 0)) != 5) = false := bne_eq_false_iff_eq.mpr c19
                clear c19
                (first | rw [c19b0] | (simp only [i64_w, i32_w]; rw [c19b0]) | skip)
                have H' := Aside0.mk H
                clear H
                go_wp2
                go_meet
                case rel => exact ⟨_, (((wrap64 (bt a0 0)) == 5)), (by first | rfl | (simp; done) | (simp [*]; done)), H', ⟨by have := HJ8.out; first | omega | exact Nat.le_refl _⟩, ⟨by (with_reducible repeat (first | refine blk_drewN ?_ _ | refine blk_drew ?_ | refine blk_alloc ?_ _)); exact BK308.out⟩, ⟨by (with_reducible repeat (first | refine blk_drewN ?_ _ | refine blk_drew ?_ | refine blk_alloc ?_ _)); exact BK309.out⟩, ⟨by repeat (first | (with_reducible first | exact HB.out | apply below_alloc | apply pw_below_drewN | apply below_drew1 | refine below_set ?_ GE308.out | refine below_set ?_ GE309.out) | exact HB.out)⟩⟩
              · rw [if_neg c19] at H
                have c19b0 : ((wrap64 (bt a0 0)) == 5) = false := beq_eq_false_iff_ne.mpr c19
                have c19b1 : ((wrap64 (bt a0 0)) != 5) = true := bne_iff_ne.mpr c19
                (first | rw [c19b0] | (simp only [i64_w, i32_w]; rw [c19b0]) | skip)
                have H' := Aside0.mk H
                clear H
                go_wp2
                go_meet
                case rel => exact ⟨_, (((wrap64 (bt a0 0)) == 6)), (by first | rfl | (simp; done) | (simp [*]; done)), H', ⟨by have := HJ8.out; first | omega | exact Nat.le_refl _⟩, ⟨by (with_reducible repeat (first | refine blk_drewN ?_ _ | refine blk_drew ?_ | refine blk_alloc ?_ _)); exact BK308.out⟩, ⟨by (with_reducible repeat (first | refine blk_drewN ?_ _ | refine blk_drew ?_ | refine blk_alloc ?_ _)); exact BK309.out⟩, ⟨by repeat (first | (with_reducible first | exact HB.out | apply below_alloc | apply pw_below_drewN | apply below_drew1 | refine below_set ?_ GE308.out | refine below_set ?_ GE309.out) | exact HB.out)⟩⟩
            case rest =>
              clear HC18
              try clear c1
              try clear c2
              try clear c2b0
              try clear c2b1
              try clear p2
              try clear p3
              try clear q3
              try clear hx3
              try clear qi3
              try clear c6
              try clear p6
              try clear c7
              try clear c8
              try clear c10
              try clear c10b0
              try clear c10b1
              try clear c11
              try clear c11b0
              try clear c11b1
              try clear c12
              try clear c12b0
              try clear c12b1
              try clear c13
              try clear c16
              try clear c19
              try clear c19b0
              try clear c19b1
              try clear hcz17_0
              try clear hcz17_1
              try clear hcz17_2
              try clear hcz17_3
              try clear hcz17_4
              try clear hcz17_5
              try clear hcz8_0
              try clear hcz8_1
              try clear hcz8_2
              try clear hcz8_3
              try clear hcz8_4
              try clear hcz8_5
              try clear hfz17_0
              try clear hfz17_1
              try clear hfz17_2
              try clear hfz17_3
              try clear hfz17_4
              try clear hfz17_5
              try clear hfz8_0
              try clear hfz8_1
              try clear hfz8_2
              try clear hfz8_3
              try clear hfz8_4
              try clear hfz8_5
              try clear p2
              try clear p3
              try clear p6
              try clear q3
              obtain ⟨kq, x48_17, rfl, HA, HJ17, BK308, BK309, HB⟩ := hcut
              cases kq with
              | zero => exact absurd HA.out (by simp [gatewardenref06_read.j1])
              | succ kj17 =>
                have H := HA.out
                clear HA
                simp only [gatewardenref06_read.j1] at H
                by_cases c20 : x48_17 = true
                · subst c20
                  have H1 : ((gatewardenref06_at.f a0 1).bind fun t312 => ((gatewardenref06_at.f a0 3).bind fun t313 => (gatewardenref06_read.j3 kj17 (wrap64 (bt a0 0)) ((a0.size : Int) == 5) (wrap64 (bt a0 0)) 0 0 t312 1 (([t313] : List Int))))) = some (r1, r2, r3, r4, r5, r6, r7) := by rw [if_pos rfl] at H; exact H
                  clear H
                  have H := H1
                  clear H1
                  replace H := Option.bind_eq_some_iff.mp H
                  obtain ⟨t312, A210, H⟩ := H
                  replace H : ((gatewardenref06_at.f a0 3).bind fun t313 => (gatewardenref06_read.j3 kj17 (wrap64 (bt a0 0)) ((a0.size : Int) == 5) (wrap64 (bt a0 0)) 0 0 t312 1 (([t313] : List Int)))) = some (r1, r2, r3, r4, r5, r6, r7) := H
                  have A21 := Aside0.mk A210
                  clear A210
                  replace H := Option.bind_eq_some_iff.mp H
                  obtain ⟨t313, A220, H⟩ := H
                  replace H : (gatewardenref06_read.j3 kj17 (wrap64 (bt a0 0)) ((a0.size : Int) == 5) (wrap64 (bt a0 0)) 0 0 t312 1 (([t313] : List Int))) = some (r1, r2, r3, r4, r5, r6, r7) := H
                  have A22 := Aside0.mk A220
                  clear A220
                  obtain ⟨y314, hy314⟩ : ∃ y_ : List Int, y_ = (([t313] : List Int)) := ⟨_, rfl⟩
                  replace H : (gatewardenref06_read.j3 kj17 (wrap64 (bt a0 0)) ((a0.size : Int) == 5) (wrap64 (bt a0 0)) 0 0 t312 1 y314) = some (r1, r2, r3, r4, r5, r6, r7) := by first | (rw [hy314]; with_reducible exact H) | (have H2_ := (Option.bind_some _ _).symm.trans H; rw [hy314]; with_reducible exact H2_) | (have H2_ := (Option.bind_some _ _).symm.trans H; with_reducible exact H2_) | with_reducible exact H | (rw [hy314]; exact H) | exact H
                  have Ny314 := Aside0.mk hy314
                  clear hy314
                  have H' := Aside0.mk H
                  clear H
                  have tk0_ := True.intro
                  go_wp2_with (first | (have t_ := tk0_; clear t_; ((with_reducible refine gate_callee (f := 83) rfl ?_); refine goesL_ (some 52) rfl rfl Try.func83 (by kernel_rfl) rfl #[.string a0, .int .i64 1] rfl (by (try simp only [List.map_toArray, List.map_cons, List.map_nil]); first | done | rfl | (simp only [List.length_drop, List.length_take]; rfl)) ?_; (with_reducible refine (gatewardenref06_at.calls a0 1 t312 _ A21.out).mono ?_); rintro e w' ⟨rfl, ⟨nd, rfl⟩⟩; refine ⟨_, rfl, ?_⟩; (try (rw [drewN_self wc]; generalize hq_ : World.drewN wc _ = wc; have n0_ : Aside0 (wc.heap[gb308]? = some (.cells #[.int .i64 0, .int .i64 0, .int .i64 0, .int .i64 0, .int .i64 0, .slice none 0 0] 24 (0, 0))) := ⟨by rw [← hq_]; exact (by (with_reducible repeat (first | refine blk_drewN ?_ _ | refine blk_drew ?_ | refine blk_alloc ?_ _)); exact BK308.out)⟩; have n1_ : Aside0 (wc.heap[gb309]? = some (.cells #[.int .i64 (wrap64 (bt a0 0)), .int .i64 0, .int .i64 0, .int .i64 0, .int .i64 0, .slice none 0 0] 24 (0, 0))) := ⟨by rw [← hq_]; exact (by (with_reducible repeat (first | refine blk_drewN ?_ _ | refine blk_drew ?_ | refine blk_alloc ?_ _)); exact BK309.out)⟩; have n2_ : Aside0 (Below w.heap.size w wc) := ⟨by rw [← hq_]; exact (by repeat (first | (with_reducible first | exact HB.out | apply below_alloc | apply pw_below_drewN | apply below_drew1 | refine below_set ?_ GE308.out | refine below_set ?_ GE309.out) | exact HB.out))⟩; clear BK308 BK309 HB hq_; have BK308 := n0_; have BK309 := n1_; have HB := n2_; clear n0_ n1_ n2_))); clear tk0_; have tk1_ := True.intro) | (have t_ := tk1_; clear t_; ((with_reducible refine gate_callee (f := 83) rfl ?_); refine goesL_ (some 54) rfl rfl Try.func83 (by kernel_rfl) rfl #[.string a0, .int .i64 3] rfl (by (try simp only [List.map_toArray, List.map_cons, List.map_nil]); first | done | rfl | (simp only [List.length_drop, List.length_take]; rfl)) ?_; (with_reducible refine (gatewardenref06_at.calls a0 3 t313 _ A22.out).mono ?_); rintro e w' ⟨rfl, ⟨nd, rfl⟩⟩; refine ⟨_, rfl, ?_⟩; (try (rw [drewN_self wc]; generalize hq_ : World.drewN wc _ = wc; have n0_ : Aside0 (wc.heap[gb308]? = some (.cells #[.int .i64 0, .int .i64 0, .int .i64 0, .int .i64 0, .int .i64 0, .slice none 0 0] 24 (0, 0))) := ⟨by rw [← hq_]; exact (by (with_reducible repeat (first | refine blk_drewN ?_ _ | refine blk_drew ?_ | refine blk_alloc ?_ _)); exact BK308.out)⟩; have n1_ : Aside0 (wc.heap[gb309]? = some (.cells #[.int .i64 (wrap64 (bt a0 0)), .int .i64 0, .int .i64 0, .int .i64 0, .int .i64 0, .slice none 0 0] 24 (0, 0))) := ⟨by rw [← hq_]; exact (by (with_reducible repeat (first | refine blk_drewN ?_ _ | refine blk_drew ?_ | refine blk_alloc ?_ _)); exact BK309.out)⟩; have n2_ : Aside0 (Below w.heap.size w wc) := ⟨by rw [← hq_]; exact (by repeat (first | (with_reducible first | exact HB.out | apply below_alloc | apply pw_below_drewN | apply below_drew1 | refine below_set ?_ GE308.out | refine below_set ?_ GE309.out) | exact HB.out))⟩; clear BK308 BK309 HB hq_; have BK308 := n0_; have BK309 := n1_; have HB := n2_; clear n0_ n1_ n2_))); clear tk1_; have tk2_ := True.intro) | (have t_ := tk2_; clear t_; ((with_reducible refine gate_dst (N := 55) rfl ?_); refine Kd.R_lit (Kd.int .i64) _ 3 ?hg (N := 55) ?hd (xs := ([t313] : List Int)) (inner := [.int .i64 t313]) (ok := fun _ => True) (okp := fun _ => True) ?hr ?hp (fun _ hk => hk) trivial (Below.refl _ _) (Nat.le_refl _) (by simp) ?_; (case hd => rfl); (case hg => rfl); (case hr => first | (go_simp; done) | (go_simp; rfl)); (case hp => exact (Reps.one (show Kd.M (Kd.int .i64) _ _ _ t313 [.int .i64 t313] from rfl) (Reps.none _ _))); intro v315 w23 ho24 hb hg_ hnew_; clear hg_ hnew_; (first | rw [← Ny314.out] at ho24 | (simp only [Int.reduceToNat] at ho24; rw [← Ny314.out] at ho24)); have n0_ := Aside0.mk (Kd.R_lower ho24 (below_size (by repeat (first | (with_reducible first | exact HB.out | apply below_alloc | apply pw_below_drewN | apply below_drew1 | refine below_set ?_ GE308.out | refine below_set ?_ GE309.out) | exact HB.out)))); have n1_ := Aside0.mk (blk_below (g := gb308) (o := .cells #[.int .i64 0, .int .i64 0, .int .i64 0, .int .i64 0, .int .i64 0, .slice none 0 0] 24 (0, 0)) (by (with_reducible repeat (first | refine blk_drewN ?_ _ | refine blk_drew ?_ | refine blk_alloc ?_ _)); exact BK308.out) hb); have n2_ := Aside0.mk (blk_below (g := gb309) (o := .cells #[.int .i64 (wrap64 (bt a0 0)), .int .i64 0, .int .i64 0, .int .i64 0, .int .i64 0, .slice none 0 0] 24 (0, 0)) (by (with_reducible repeat (first | refine blk_drewN ?_ _ | refine blk_drew ?_ | refine blk_alloc ?_ _)); exact BK309.out) hb); have n3_ := Aside0.mk (below_step (by repeat (first | (with_reducible first | exact HB.out | apply below_alloc | apply pw_below_drewN | apply below_drew1 | refine below_set ?_ GE308.out | refine below_set ?_ GE309.out) | exact HB.out)) hb); clear BK308; clear BK309; clear HB; have HO316 := n0_; have BK308 := n1_; have BK309 := n2_; have HB := n3_; clear n0_ n1_ n2_ n3_; clear hb ho24; have hnb25 := NB309_308.out; have hnc25 := NB308_309.out; have hcz26_0 : w23.cell? ⟨gb309, 0, none⟩ = some (.int .i64 (wrap64 (bt a0 0))) := (blk_cell BK309.out 0).trans rfl; have hcz26_1 : w23.cell? ⟨gb309, 1, none⟩ = some (.int .i64 0) := (blk_cell BK309.out 1).trans rfl; have hcz26_2 : w23.cell? ⟨gb309, 2, none⟩ = some (.int .i64 0) := (blk_cell BK309.out 2).trans rfl; have hcz26_3 : w23.cell? ⟨gb309, 3, none⟩ = some (.int .i64 0) := (blk_cell BK309.out 3).trans rfl; have hcz26_4 : w23.cell? ⟨gb309, 4, none⟩ = some (.int .i64 0) := (blk_cell BK309.out 4).trans rfl; have hcz26_5 : w23.cell? ⟨gb309, 5, none⟩ = some (.slice none 0 0) := (blk_cell BK309.out 5).trans rfl; have hfz26_0 := blk_frozen BK309.out 0; have hfz26_1 := blk_frozen BK309.out 1; have hfz26_2 := blk_frozen BK309.out 2; have hfz26_3 := blk_frozen BK309.out 3; have hfz26_4 := blk_frozen BK309.out 4; have hfz26_5 := blk_frozen BK309.out 5; obtain ⟨Ao27, co27, eo27⟩ := Kd.R_slice HO316.out; subst eo27); clear tk2_; have tk3_ := True.intro))
                  go_meet
                  case rel => exact ⟨_, (((a0.size : Int) == 5)), (0), (0), (t312), (1), (y314), (.slice Ao27 y314.length co27), (by first | rfl | (simp; done) | (simp [*]; done)), H', ⟨by have := HJ8.out; have := HJ17.out; first | omega | exact Nat.le_refl _⟩, ⟨by (with_reducible repeat (first | apply Kd.R_alloc | apply Kd.R_drewN | apply Kd.R_drew)); exact Kd.R_mono (Kd.R_far (p := ⟨gb309, 5, none⟩) (Kd.R_far (p := ⟨gb309, 4, none⟩) (Kd.R_far (p := ⟨gb309, 3, none⟩) (Kd.R_types HO316.out BK309.out (by decide)) (fun _ hk => hk.2) (.int .i64 t312)) (fun _ hk => hk.2) (.int .i64 1)) (fun _ hk => hk.2) (.slice Ao27 y314.length co27)) (fun _ hk => trivial)⟩, ⟨by (with_reducible repeat (first | refine blk_drewN ?_ _ | refine blk_drew ?_ | refine blk_alloc ?_ _)); refine blk_far ?_ NB308_309.out _; (with_reducible repeat (first | refine blk_drewN ?_ _ | refine blk_drew ?_ | refine blk_alloc ?_ _)); refine blk_far ?_ NB308_309.out _; (with_reducible repeat (first | refine blk_drewN ?_ _ | refine blk_drew ?_ | refine blk_alloc ?_ _)); refine blk_far ?_ NB308_309.out _; (with_reducible repeat (first | refine blk_drewN ?_ _ | refine blk_drew ?_ | refine blk_alloc ?_ _)); exact BK308.out⟩, ⟨by (with_reducible repeat (first | refine blk_drewN ?_ _ | refine blk_drew ?_ | refine blk_alloc ?_ _)); refine blk_put (cs := #[.int .i64 (wrap64 (bt a0 0)), .int .i64 0, .int .i64 0, .int .i64 t312, .int .i64 1, .slice none 0 0]) ?_ 5 _ rfl; (with_reducible repeat (first | refine blk_drewN ?_ _ | refine blk_drew ?_ | refine blk_alloc ?_ _)); refine blk_put (cs := #[.int .i64 (wrap64 (bt a0 0)), .int .i64 0, .int .i64 0, .int .i64 t312, .int .i64 0, .slice none 0 0]) ?_ 4 _ rfl; (with_reducible repeat (first | refine blk_drewN ?_ _ | refine blk_drew ?_ | refine blk_alloc ?_ _)); refine blk_put (cs := #[.int .i64 (wrap64 (bt a0 0)), .int .i64 0, .int .i64 0, .int .i64 0, .int .i64 0, .slice none 0 0]) ?_ 3 _ rfl; (with_reducible repeat (first | refine blk_drewN ?_ _ | refine blk_drew ?_ | refine blk_alloc ?_ _)); exact BK309.out⟩, ⟨by repeat (first | (with_reducible first | exact HB.out | apply below_alloc | apply pw_below_drewN | apply below_drew1 | refine below_set ?_ GE308.out | refine below_set ?_ GE309.out) | exact HB.out)⟩⟩
                · replace c20 := Bool.eq_false_iff.mpr c20
                  subst c20
                  have H1 : (if (wrap64 (bt a0 0)) = 22 then ((gatewardenref06_at.f a0 1).bind fun t317 => ((gatewardenref06_at.f a0 3).bind fun t318 => ((gatewardenref06_at.f a0 5).bind fun t319 => (gatewardenref06_read.j3 kj17 (wrap64 (bt a0 0)) ((a0.size : Int) == 7) (wrap64 (bt a0 0)) 0 0 t317 1 (([t318, t319] : List Int)))))) else (if (wrap64 (bt a0 0)) = 15 then (gatewardenref06_read.j2 kj17 a0 (wrap64 (bt a0 0)) ((wrap64 (bt a0 0)) == 15) (wrap64 (bt a0 0)) 0 0 0 0) else (gatewardenref06_read.j2 kj17 a0 (wrap64 (bt a0 0)) ((wrap64 (bt a0 0)) == 16) (wrap64 (bt a0 0)) 0 0 0 0))) = some (r1, r2, r3, r4, r5, r6, r7) := by rw [if_neg (show ¬ (false = true) by decide)] at H; exact H
                  clear H
                  have H := H1
                  clear H1
                  by_cases c28 : (wrap64 (bt a0 0)) = 22
                  · rw [if_pos c28] at H
                    have c28b0 : ((wrap64 (bt a0 0)) == 22) = true := beq_iff_eq.mpr c28
                    have c28b1 : ((wrap64 (bt a0 0)) != 22) = false := bne_eq_false_iff_eq.mpr c28
                    clear c28
                    replace H := Option.bind_eq_some_iff.mp H
                    obtain ⟨t317, A290, H⟩ := H
                    replace H : ((gatewardenref06_at.f a0 3).bind fun t318 => ((gatewardenref06_at.f a0 5).bind fun t319 => (gatewardenref06_read.j3 kj17 (wrap64 (bt a0 0)) ((a0.size : Int) == 7) (wrap64 (bt a0 0)) 0 0 t317 1 (([t318, t319] : List Int))))) = some (r1, r2, r3, r4, r5, r6, r7) := H
                    have A29 := Aside0.mk A290
                    clear A290
                    replace H := Option.bind_eq_some_iff.mp H
                    obtain ⟨t318, A300, H⟩ := H
                    replace H : ((gatewardenref06_at.f a0 5).bind fun t319 => (gatewardenref06_read.j3 kj17 (wrap64 (bt a0 0)) ((a0.size : Int) == 7) (wrap64 (bt a0 0)) 0 0 t317 1 (([t318, t319] : List Int)))) = some (r1, r2, r3, r4, r5, r6, r7) := H
                    have A30 := Aside0.mk A300
                    clear A300
                    replace H := Option.bind_eq_some_iff.mp H
                    obtain ⟨t319, A310, H⟩ := H
                    replace H : (gatewardenref06_read.j3 kj17 (wrap64 (bt a0 0)) ((a0.size : Int) == 7) (wrap64 (bt a0 0)) 0 0 t317 1 (([t318, t319] : List Int))) = some (r1, r2, r3, r4, r5, r6, r7) := H
                    have A31 := Aside0.mk A310
                    clear A310
                    obtain ⟨y320, hy320⟩ : ∃ y_ : List Int, y_ = (([t318, t319] : List Int)) := ⟨_, rfl⟩
                    replace H : (gatewardenref06_read.j3 kj17 (wrap64 (bt a0 0)) ((a0.size : Int) == 7) (wrap64 (bt a0 0)) 0 0 t317 1 y320) = some (r1, r2, r3, r4, r5, r6, r7) := by first | (rw [hy320]; with_reducible exact H) | (have H2_ := (Option.bind_some _ _).symm.trans H; rw [hy320]; with_reducible exact H2_) | (have H2_ := (Option.bind_some _ _).symm.trans H; with_reducible exact H2_) | with_reducible exact H | (rw [hy320]; exact H) | exact H
                    have Ny320 := Aside0.mk hy320
                    clear hy320
                    have H' := Aside0.mk H
                    clear H
                    have tk0_ := True.intro
                    go_wp2_with (first | (have t_ := tk0_; clear t_; ((with_reducible refine gate_callee (f := 83) rfl ?_); refine goesL_ (some 65) rfl rfl Try.func83 (by kernel_rfl) rfl #[.string a0, .int .i64 1] rfl (by (try simp only [List.map_toArray, List.map_cons, List.map_nil]); first | done | rfl | (simp only [List.length_drop, List.length_take]; rfl)) ?_; (with_reducible refine (gatewardenref06_at.calls a0 1 t317 _ A29.out).mono ?_); rintro e w' ⟨rfl, ⟨nd, rfl⟩⟩; refine ⟨_, rfl, ?_⟩; (try (rw [drewN_self wc]; generalize hq_ : World.drewN wc _ = wc; have n0_ : Aside0 (wc.heap[gb308]? = some (.cells #[.int .i64 0, .int .i64 0, .int .i64 0, .int .i64 0, .int .i64 0, .slice none 0 0] 24 (0, 0))) := ⟨by rw [← hq_]; exact (by (with_reducible repeat (first | refine blk_drewN ?_ _ | refine blk_drew ?_ | refine blk_alloc ?_ _)); exact BK308.out)⟩; have n1_ : Aside0 (wc.heap[gb309]? = some (.cells #[.int .i64 (wrap64 (bt a0 0)), .int .i64 0, .int .i64 0, .int .i64 0, .int .i64 0, .slice none 0 0] 24 (0, 0))) := ⟨by rw [← hq_]; exact (by (with_reducible repeat (first | refine blk_drewN ?_ _ | refine blk_drew ?_ | refine blk_alloc ?_ _)); exact BK309.out)⟩; have n2_ : Aside0 (Below w.heap.size w wc) := ⟨by rw [← hq_]; exact (by repeat (first | (with_reducible first | exact HB.out | apply below_alloc | apply pw_below_drewN | apply below_drew1 | refine below_set ?_ GE308.out | refine below_set ?_ GE309.out) | exact HB.out))⟩; clear BK308 BK309 HB hq_; have BK308 := n0_; have BK309 := n1_; have HB := n2_; clear n0_ n1_ n2_))); clear tk0_; have tk1_ := True.intro) | (have t_ := tk1_; clear t_; ((with_reducible refine gate_callee (f := 83) rfl ?_); refine goesL_ (some 67) rfl rfl Try.func83 (by kernel_rfl) rfl #[.string a0, .int .i64 3] rfl (by (try simp only [List.map_toArray, List.map_cons, List.map_nil]); first | done | rfl | (simp only [List.length_drop, List.length_take]; rfl)) ?_; (with_reducible refine (gatewardenref06_at.calls a0 3 t318 _ A30.out).mono ?_); rintro e w' ⟨rfl, ⟨nd, rfl⟩⟩; refine ⟨_, rfl, ?_⟩; (try (rw [drewN_self wc]; generalize hq_ : World.drewN wc _ = wc; have n0_ : Aside0 (wc.heap[gb308]? = some (.cells #[.int .i64 0, .int .i64 0, .int .i64 0, .int .i64 0, .int .i64 0, .slice none 0 0] 24 (0, 0))) := ⟨by rw [← hq_]; exact (by (with_reducible repeat (first | refine blk_drewN ?_ _ | refine blk_drew ?_ | refine blk_alloc ?_ _)); exact BK308.out)⟩; have n1_ : Aside0 (wc.heap[gb309]? = some (.cells #[.int .i64 (wrap64 (bt a0 0)), .int .i64 0, .int .i64 0, .int .i64 0, .int .i64 0, .slice none 0 0] 24 (0, 0))) := ⟨by rw [← hq_]; exact (by (with_reducible repeat (first | refine blk_drewN ?_ _ | refine blk_drew ?_ | refine blk_alloc ?_ _)); exact BK309.out)⟩; have n2_ : Aside0 (Below w.heap.size w wc) := ⟨by rw [← hq_]; exact (by repeat (first | (with_reducible first | exact HB.out | apply below_alloc | apply pw_below_drewN | apply below_drew1 | refine below_set ?_ GE308.out | refine below_set ?_ GE309.out) | exact HB.out))⟩; clear BK308 BK309 HB hq_; have BK308 := n0_; have BK309 := n1_; have HB := n2_; clear n0_ n1_ n2_))); clear tk1_; have tk2_ := True.intro) | (have t_ := tk2_; clear t_; ((with_reducible refine gate_callee (f := 83) rfl ?_); refine goesL_ (some 69) rfl rfl Try.func83 (by kernel_rfl) rfl #[.string a0, .int .i64 5] rfl (by (try simp only [List.map_toArray, List.map_cons, List.map_nil]); first | done | rfl | (simp only [List.length_drop, List.length_take]; rfl)) ?_; (with_reducible refine (gatewardenref06_at.calls a0 5 t319 _ A31.out).mono ?_); rintro e w' ⟨rfl, ⟨nd, rfl⟩⟩; refine ⟨_, rfl, ?_⟩; (try (rw [drewN_self wc]; generalize hq_ : World.drewN wc _ = wc; have n0_ : Aside0 (wc.heap[gb308]? = some (.cells #[.int .i64 0, .int .i64 0, .int .i64 0, .int .i64 0, .int .i64 0, .slice none 0 0] 24 (0, 0))) := ⟨by rw [← hq_]; exact (by (with_reducible repeat (first | refine blk_drewN ?_ _ | refine blk_drew ?_ | refine blk_alloc ?_ _)); exact BK308.out)⟩; have n1_ : Aside0 (wc.heap[gb309]? = some (.cells #[.int .i64 (wrap64 (bt a0 0)), .int .i64 0, .int .i64 0, .int .i64 0, .int .i64 0, .slice none 0 0] 24 (0, 0))) := ⟨by rw [← hq_]; exact (by (with_reducible repeat (first | refine blk_drewN ?_ _ | refine blk_drew ?_ | refine blk_alloc ?_ _)); exact BK309.out)⟩; have n2_ : Aside0 (Below w.heap.size w wc) := ⟨by rw [← hq_]; exact (by repeat (first | (with_reducible first | exact HB.out | apply below_alloc | apply pw_below_drewN | apply below_drew1 | refine below_set ?_ GE308.out | refine below_set ?_ GE309.out) | exact HB.out))⟩; clear BK308 BK309 HB hq_; have BK308 := n0_; have BK309 := n1_; have HB := n2_; clear n0_ n1_ n2_))); clear tk2_; have tk3_ := True.intro) | (have t_ := tk3_; clear t_; ((with_reducible refine gate_dst (N := 70) rfl ?_); refine Kd.R_lit (Kd.int .i64) _ 3 ?hg (N := 70) ?hd (xs := ([t318, t319] : List Int)) (inner := [.int .i64 t318, .int .i64 t319]) (ok := fun _ => True) (okp := fun _ => True) ?hr ?hp (fun _ hk => hk) trivial (Below.refl _ _) (Nat.le_refl _) (by simp) ?_; (case hd => rfl); (case hg => rfl); (case hr => first | (go_simp; done) | (go_simp; rfl)); (case hp => exact (Reps.one (show Kd.M (Kd.int .i64) _ _ _ t318 [.int .i64 t318] from rfl) (Reps.one (show Kd.M (Kd.int .i64) _ _ _ t319 [.int .i64 t319] from rfl) (Reps.none _ _)))); intro v321 w32 ho33 hb hg_ hnew_; clear hg_ hnew_; (first | rw [← Ny320.out] at ho33 | (simp only [Int.reduceToNat] at ho33; rw [← Ny320.out] at ho33)); have n0_ := Aside0.mk (Kd.R_lower ho33 (below_size (by repeat (first | (with_reducible first | exact HB.out | apply below_alloc | apply pw_below_drewN | apply below_drew1 | refine below_set ?_ GE308.out | refine below_set ?_ GE309.out) | exact HB.out)))); have n1_ := Aside0.mk (blk_below (g := gb308) (o := .cells #[.int .i64 0, .int .i64 0, .int .i64 0, .int .i64 0, .int .i64 0, .slice none 0 0] 24 (0, 0)) (by (with_reducible repeat (first | refine blk_drewN ?_ _ | refine blk_drew ?_ | refine blk_alloc ?_ _)); exact BK308.out) hb); have n2_ := Aside0.mk (blk_below (g := gb309) (o := .cells #[.int .i64 (wrap64 (bt a0 0)), .int .i64 0, .int .i64 0, .int .i64 0, .int .i64 0, .slice none 0 0] 24 (0, 0)) (by (with_reducible repeat (first | refine blk_drewN ?_ _ | refine blk_drew ?_ | refine blk_alloc ?_ _)); exact BK309.out) hb); have n3_ := Aside0.mk (below_step (by repeat (first | (with_reducible first | exact HB.out | apply below_alloc | apply pw_below_drewN | apply below_drew1 | refine below_set ?_ GE308.out | refine below_set ?_ GE309.out) | exact HB.out)) hb); clear BK308; clear BK309; clear HB; have HO322 := n0_; have BK308 := n1_; have BK309 := n2_; have HB := n3_; clear n0_ n1_ n2_ n3_; clear hb ho33; have hnb34 := NB309_308.out; have hnc34 := NB308_309.out; have hcz35_0 : w32.cell? ⟨gb309, 0, none⟩ = some (.int .i64 (wrap64 (bt a0 0))) := (blk_cell BK309.out 0).trans rfl; have hcz35_1 : w32.cell? ⟨gb309, 1, none⟩ = some (.int .i64 0) := (blk_cell BK309.out 1).trans rfl; have hcz35_2 : w32.cell? ⟨gb309, 2, none⟩ = some (.int .i64 0) := (blk_cell BK309.out 2).trans rfl; have hcz35_3 : w32.cell? ⟨gb309, 3, none⟩ = some (.int .i64 0) := (blk_cell BK309.out 3).trans rfl; have hcz35_4 : w32.cell? ⟨gb309, 4, none⟩ = some (.int .i64 0) := (blk_cell BK309.out 4).trans rfl; have hcz35_5 : w32.cell? ⟨gb309, 5, none⟩ = some (.slice none 0 0) := (blk_cell BK309.out 5).trans rfl; have hfz35_0 := blk_frozen BK309.out 0; have hfz35_1 := blk_frozen BK309.out 1; have hfz35_2 := blk_frozen BK309.out 2; have hfz35_3 := blk_frozen BK309.out 3; have hfz35_4 := blk_frozen BK309.out 4; have hfz35_5 := blk_frozen BK309.out 5; obtain ⟨Ao36, co36, eo36⟩ := Kd.R_slice HO322.out; subst eo36); clear tk3_; have tk4_ := True.intro))
                    go_meet
                    case rel => exact ⟨_, (((a0.size : Int) == 7)), (0), (0), (t317), (1), (y320), (.slice Ao36 y320.length co36), (by first | rfl | (simp; done) | (simp [*]; done)), H', ⟨by have := HJ8.out; have := HJ17.out; first | omega | exact Nat.le_refl _⟩, ⟨by (with_reducible repeat (first | apply Kd.R_alloc | apply Kd.R_drewN | apply Kd.R_drew)); exact Kd.R_mono (Kd.R_far (p := ⟨gb309, 5, none⟩) (Kd.R_far (p := ⟨gb309, 4, none⟩) (Kd.R_far (p := ⟨gb309, 3, none⟩) (Kd.R_types HO322.out BK309.out (by decide)) (fun _ hk => hk.2) (.int .i64 t317)) (fun _ hk => hk.2) (.int .i64 1)) (fun _ hk => hk.2) (.slice Ao36 y320.length co36)) (fun _ hk => trivial)⟩, ⟨by (with_reducible repeat (first | refine blk_drewN ?_ _ | refine blk_drew ?_ | refine blk_alloc ?_ _)); refine blk_far ?_ NB308_309.out _; (with_reducible repeat (first | refine blk_drewN ?_ _ | refine blk_drew ?_ | refine blk_alloc ?_ _)); refine blk_far ?_ NB308_309.out _; (with_reducible repeat (first | refine blk_drewN ?_ _ | refine blk_drew ?_ | refine blk_alloc ?_ _)); refine blk_far ?_ NB308_309.out _; (with_reducible repeat (first | refine blk_drewN ?_ _ | refine blk_drew ?_ | refine blk_alloc ?_ _)); exact BK308.out⟩, ⟨by (with_reducible repeat (first | refine blk_drewN ?_ _ | refine blk_drew ?_ | refine blk_alloc ?_ _)); refine blk_put (cs := #[.int .i64 (wrap64 (bt a0 0)), .int .i64 0, .int .i64 0, .int .i64 t317, .int .i64 1, .slice none 0 0]) ?_ 5 _ rfl; (with_reducible repeat (first | refine blk_drewN ?_ _ | refine blk_drew ?_ | refine blk_alloc ?_ _)); refine blk_put (cs := #[.int .i64 (wrap64 (bt a0 0)), .int .i64 0, .int .i64 0, .int .i64 t317, .int .i64 0, .slice none 0 0]) ?_ 4 _ rfl; (with_reducible repeat (first | refine blk_drewN ?_ _ | refine blk_drew ?_ | refine blk_alloc ?_ _)); refine blk_put (cs := #[.int .i64 (wrap64 (bt a0 0)), .int .i64 0, .int .i64 0, .int .i64 0, .int .i64 0, .slice none 0 0]) ?_ 3 _ rfl; (with_reducible repeat (first | refine blk_drewN ?_ _ | refine blk_drew ?_ | refine blk_alloc ?_ _)); exact BK309.out⟩, ⟨by repeat (first | (with_reducible first | exact HB.out | apply below_alloc | apply pw_below_drewN | apply below_drew1 | refine below_set ?_ GE308.out | refine below_set ?_ GE309.out) | exact HB.out)⟩⟩
                  · rw [if_neg c28] at H
                    have c28b0 : ((wrap64 (bt a0 0)) == 22) = false := beq_eq_false_iff_ne.mpr c28
                    have c28b1 : ((wrap64 (bt a0 0)) != 22) = true := bne_iff_ne.mpr c28
                    have HC37 := Aside0.mk H
                    clear H
                    go_upto_if 77 with (fail)
                    go_cut [77] (fun v77 wc => ∃ (kq : Nat) (x77_36 : Bool), v77 = .bool x77_36 ∧ Aside0 (gatewardenref06_read.j2 kq a0 (wrap64 (bt a0 0)) x77_36 (wrap64 (bt a0 0)) 0 0 0 0 = some (r1, r2, r3, r4, r5, r6, r7)) ∧ Aside0 (kq ≤ kj17) ∧ Aside0 (wc.heap[gb308]? = some (.cells #[.int .i64 0, .int .i64 0, .int .i64 0, .int .i64 0, .int .i64 0, (.slice none 0 0)] 24 (0, 0))) ∧ Aside0 (wc.heap[gb309]? = some (.cells #[.int .i64 (wrap64 (bt a0 0)), .int .i64 0, .int .i64 0, .int .i64 0, .int .i64 0, (.slice none 0 0)] 24 (0, 0))) ∧ Aside0 (Below w.heap.size w wc))
                    case first =>
                      have H := HC37.out
                      clear HC37
                      by_cases c38 : (wrap64 (bt a0 0)) = 15
                      · rw [if_pos c38] at H
                        have c38b0 : ((wrap64 (bt a0 0)) == 15) = true := beq_iff_eq.mpr c38
                        have c38b1 : ((wrap64 (bt a0 0)) != 15) = false := bne_eq_false_iff_eq.mpr c38
                        clear c38
                        (first | rw [c38b0] | (simp only [i64_w, i32_w]; rw [c38b0]) | skip)
                        have H' := Aside0.mk H
                        clear H
                        go_wp2
                        go_meet
                        case rel => exact ⟨_, (((wrap64 (bt a0 0)) == 15)), (by first | rfl | (simp; done) | (simp [*]; done)), H', ⟨by have := HJ8.out; have := HJ17.out; first | omega | exact Nat.le_refl _⟩, ⟨by (with_reducible repeat (first | refine blk_drewN ?_ _ | refine blk_drew ?_ | refine blk_alloc ?_ _)); exact BK308.out⟩, ⟨by (with_reducible repeat (first | refine blk_drewN ?_ _ | refine blk_drew ?_ | refine blk_alloc ?_ _)); exact BK309.out⟩, ⟨by repeat (first | (with_reducible first | exact HB.out | apply below_alloc | apply pw_below_drewN | apply below_drew1 | refine below_set ?_ GE308.out | refine below_set ?_ GE309.out) | exact HB.out)⟩⟩
                      · rw [if_neg c38] at H
                        have c38b0 : ((wrap64 (bt a0 0)) == 15) = false := beq_eq_false_iff_ne.mpr c38
                        have c38b1 : ((wrap64 (bt a0 0)) != 15) = true := bne_iff_ne.mpr c38
                        (first | rw [c38b0] | (simp only [i64_w, i32_w]; rw [c38b0]) | skip)
                        have H' := Aside0.mk H
                        clear H
                        go_wp2
                        go_meet
                        case rel => exact ⟨_, (((wrap64 (bt a0 0)) == 16)), (by first | rfl | (simp; done) | (simp [*]; done)), H', ⟨by have := HJ8.out; have := HJ17.out; first | omega | exact Nat.le_refl _⟩, ⟨by (with_reducible repeat (first | refine blk_drewN ?_ _ | refine blk_drew ?_ | refine blk_alloc ?_ _)); exact BK308.out⟩, ⟨by (with_reducible repeat (first | refine blk_drewN ?_ _ | refine blk_drew ?_ | refine blk_alloc ?_ _)); exact BK309.out⟩, ⟨by repeat (first | (with_reducible first | exact HB.out | apply below_alloc | apply pw_below_drewN | apply below_drew1 | refine below_set ?_ GE308.out | refine below_set ?_ GE309.out) | exact HB.out)⟩⟩
                    case rest =>
                      clear HC37
                      try clear c1
                      try clear c2
                      try clear c2b0
                      try clear c2b1
                      try clear p2
                      try clear c3
                      try clear p3
                      try clear q3
                      try clear hx3
                      try clear qi3
                      try clear c6
                      try clear p6
                      try clear c7
                      try clear c8
                      try clear c10
                      try clear c10b0
                      try clear c10b1
                      try clear c11
                      try clear c11b0
                      try clear c11b1
                      try clear c12
                      try clear c12b0
                      try clear c12b1
                      try clear c13
                      try clear c16
                      try clear c19
                      try clear c19b0
                      try clear c19b1
                      try clear c20
                      try clear c25
                      try clear c28
                      try clear c28b0
                      try clear c28b1
                      try clear c34
                      try clear c38
                      try clear c38b0
                      try clear c38b1
                      try clear hcz17_0
                      try clear hcz17_1
                      try clear hcz17_2
                      try clear hcz17_3
                      try clear hcz17_4
                      try clear hcz17_5
                      try clear hcz26_0
                      try clear hcz26_1
                      try clear hcz26_2
                      try clear hcz26_3
                      try clear hcz26_4
                      try clear hcz26_5
                      try clear hcz35_0
                      try clear hcz35_1
                      try clear hcz35_2
                      try clear hcz35_3
                      try clear hcz35_4
                      try clear hcz35_5
                      try clear hcz8_0
                      try clear hcz8_1
                      try clear hcz8_2
                      try clear hcz8_3
                      try clear hcz8_4
                      try clear hcz8_5
                      try clear hfz17_0
                      try clear hfz17_1
                      try clear hfz17_2
                      try clear hfz17_3
                      try clear hfz17_4
                      try clear hfz17_5
                      try clear hfz26_0
                      try clear hfz26_1
                      try clear hfz26_2
                      try clear hfz26_3
                      try clear hfz26_4
                      try clear hfz26_5
                      try clear hfz35_0
                      try clear hfz35_1
                      try clear hfz35_2
                      try clear hfz35_3
                      try clear hfz35_4
                      try clear hfz35_5
                      try clear hfz8_0
                      try clear hfz8_1
                      try clear hfz8_2
                      try clear hfz8_3
                      try clear hfz8_4
                      try clear hfz8_5
                      try clear p2
                      try clear p3
                      try clear p6
                      try clear q3
                      obtain ⟨kq, x77_36, rfl, HA, HJ36, BK308, BK309, HB⟩ := hcut
                      cases kq with
                      | zero => exact absurd HA.out (by simp [gatewardenref06_read.j2])
                      | succ kj36 =>
                        have H := HA.out
                        clear HA
                        simp only [gatewardenref06_read.j2] at H
                        by_cases c39 : x77_36 = true
                        · subst c39
                          have H1 : ((gatewardenref06_at.f a0 1).bind fun t323 => ((gatewardenref06_at.f a0 3).bind fun t324 => ((gatewardenref06_values.f kj36 a0 5 (wrap64 (bt a0 0)) t324).bind fun bt325 => (gatewardenref06_read.j3 kj36 (wrap64 (bt a0 0)) bt325.2 (wrap64 (bt a0 0)) 0 0 t323 t324 bt325.1)))) = some (r1, r2, r3, r4, r5, r6, r7) := by rw [if_pos rfl] at H; exact H
                          clear H
                          have H := H1
                          clear H1
                          replace H := Option.bind_eq_some_iff.mp H
                          obtain ⟨t323, A400, H⟩ := H
                          replace H : ((gatewardenref06_at.f a0 3).bind fun t324 => ((gatewardenref06_values.f kj36 a0 5 (wrap64 (bt a0 0)) t324).bind fun bt325 => (gatewardenref06_read.j3 kj36 (wrap64 (bt a0 0)) bt325.2 (wrap64 (bt a0 0)) 0 0 t323 t324 bt325.1))) = some (r1, r2, r3, r4, r5, r6, r7) := H
                          have A40 := Aside0.mk A400
                          clear A400
                          replace H := Option.bind_eq_some_iff.mp H
                          obtain ⟨t324, A410, H⟩ := H
                          replace H : ((gatewardenref06_values.f kj36 a0 5 (wrap64 (bt a0 0)) t324).bind fun bt325 => (gatewardenref06_read.j3 kj36 (wrap64 (bt a0 0)) bt325.2 (wrap64 (bt a0 0)) 0 0 t323 t324 bt325.1)) = some (r1, r2, r3, r4, r5, r6, r7) := H
                          have A41 := Aside0.mk A410
                          clear A410
                          replace H := Option.bind_eq_some_iff.mp H
                          obtain ⟨⟨t325, t326⟩, A420, H⟩ := H
                          replace H : (gatewardenref06_read.j3 kj36 (wrap64 (bt a0 0)) t326 (wrap64 (bt a0 0)) 0 0 t323 t324 t325) = some (r1, r2, r3, r4, r5, r6, r7) := H
                          have A42 := Aside0.mk A420
                          clear A420
                          have H' := Aside0.mk H
                          clear H
                          have tk0_ := True.intro
                          go_wp2_with (first | (have t_ := tk0_; clear t_; ((with_reducible refine gate_callee (f := 83) rfl ?_); refine goesL_ (some 81) rfl rfl Try.func83 (by kernel_rfl) rfl #[.string a0, .int .i64 1] rfl (by (try simp only [List.map_toArray, List.map_cons, List.map_nil]); first | done | rfl | (simp only [List.length_drop, List.length_take]; rfl)) ?_; (with_reducible refine (gatewardenref06_at.calls a0 1 t323 _ A40.out).mono ?_); rintro e w' ⟨rfl, ⟨nd, rfl⟩⟩; refine ⟨_, rfl, ?_⟩; (try (rw [drewN_self wc]; generalize hq_ : World.drewN wc _ = wc; have n0_ : Aside0 (wc.heap[gb308]? = some (.cells #[.int .i64 0, .int .i64 0, .int .i64 0, .int .i64 0, .int .i64 0, .slice none 0 0] 24 (0, 0))) := ⟨by rw [← hq_]; exact (by (with_reducible repeat (first | refine blk_drewN ?_ _ | refine blk_drew ?_ | refine blk_alloc ?_ _)); exact BK308.out)⟩; have n1_ : Aside0 (wc.heap[gb309]? = some (.cells #[.int .i64 (wrap64 (bt a0 0)), .int .i64 0, .int .i64 0, .int .i64 0, .int .i64 0, .slice none 0 0] 24 (0, 0))) := ⟨by rw [← hq_]; exact (by (with_reducible repeat (first | refine blk_drewN ?_ _ | refine blk_drew ?_ | refine blk_alloc ?_ _)); exact BK309.out)⟩; have n2_ : Aside0 (Below w.heap.size w wc) := ⟨by rw [← hq_]; exact (by repeat (first | (with_reducible first | exact HB.out | apply below_alloc | apply pw_below_drewN | apply below_drew1 | refine below_set ?_ GE308.out | refine below_set ?_ GE309.out) | exact HB.out))⟩; clear BK308 BK309 HB hq_; have BK308 := n0_; have BK309 := n1_; have HB := n2_; clear n0_ n1_ n2_))); clear tk0_; have tk1_ := True.intro) | (have t_ := tk1_; clear t_; ((with_reducible refine gate_callee (f := 83) rfl ?_); refine goesL_ (some 83) rfl rfl Try.func83 (by kernel_rfl) rfl #[.string a0, .int .i64 3] rfl (by (try simp only [List.map_toArray, List.map_cons, List.map_nil]); first | done | rfl | (simp only [List.length_drop, List.length_take]; rfl)) ?_; (with_reducible refine (gatewardenref06_at.calls a0 3 t324 _ A41.out).mono ?_); rintro e w' ⟨rfl, ⟨nd, rfl⟩⟩; refine ⟨_, rfl, ?_⟩; (try (rw [drewN_self wc]; generalize hq_ : World.drewN wc _ = wc; have n0_ : Aside0 (wc.heap[gb308]? = some (.cells #[.int .i64 0, .int .i64 0, .int .i64 0, .int .i64 0, .int .i64 0, .slice none 0 0] 24 (0, 0))) := ⟨by rw [← hq_]; exact (by (with_reducible repeat (first | refine blk_drewN ?_ _ | refine blk_drew ?_ | refine blk_alloc ?_ _)); exact BK308.out)⟩; have n1_ : Aside0 (wc.heap[gb309]? = some (.cells #[.int .i64 (wrap64 (bt a0 0)), .int .i64 0, .int .i64 0, .int .i64 0, .int .i64 0, .slice none 0 0] 24 (0, 0))) := ⟨by rw [← hq_]; exact (by (with_reducible repeat (first | refine blk_drewN ?_ _ | refine blk_drew ?_ | refine blk_alloc ?_ _)); exact BK309.out)⟩; have n2_ : Aside0 (Below w.heap.size w wc) := ⟨by rw [← hq_]; exact (by repeat (first | (with_reducible first | exact HB.out | apply below_alloc | apply pw_below_drewN | apply below_drew1 | refine below_set ?_ GE308.out | refine below_set ?_ GE309.out) | exact HB.out))⟩; clear BK308 BK309 HB hq_; have BK308 := n0_; have BK309 := n1_; have HB := n2_; clear n0_ n1_ n2_)); have hnb43 := NB309_308.out; have hnc43 := NB308_309.out; have hcz44_0 : wc.cell? ⟨gb309, 0, none⟩ = some (.int .i64 (wrap64 (bt a0 0))) := (blk_cell BK309.out 0).trans rfl; have hcz44_1 : wc.cell? ⟨gb309, 1, none⟩ = some (.int .i64 0) := (blk_cell BK309.out 1).trans rfl; have hcz44_2 : wc.cell? ⟨gb309, 2, none⟩ = some (.int .i64 0) := (blk_cell BK309.out 2).trans rfl; have hcz44_3 : wc.cell? ⟨gb309, 3, none⟩ = some (.int .i64 0) := (blk_cell BK309.out 3).trans rfl; have hcz44_4 : wc.cell? ⟨gb309, 4, none⟩ = some (.int .i64 0) := (blk_cell BK309.out 4).trans rfl; have hcz44_5 : wc.cell? ⟨gb309, 5, none⟩ = some (.slice none 0 0) := (blk_cell BK309.out 5).trans rfl; have hfz44_0 := blk_frozen BK309.out 0; have hfz44_1 := blk_frozen BK309.out 1; have hfz44_2 := blk_frozen BK309.out 2; have hfz44_3 := blk_frozen BK309.out 3; have hfz44_4 := blk_frozen BK309.out 4; have hfz44_5 := blk_frozen BK309.out 5); clear tk1_; have tk2_ := True.intro) | (have t_ := tk2_; clear t_; ((with_reducible refine gate_callee (f := 84) rfl ?_); refine goesL_ (some 91) rfl rfl Try.func84 (by kernel_rfl) rfl #[.string a0, .int .i64 5, .int .i64 (wrap64 (bt a0 0)), .int .i64 t324] rfl (by (try simp only [List.map_toArray, List.map_cons, List.map_nil]); first | done | rfl | (simp only [List.length_drop, List.length_take]; rfl)) ?_; (with_reducible refine (gatewardenref06_values.calls kj36 a0 5 (wrap64 (bt a0 0)) t324 t325 t326 _ A42.out).mono ?_); rintro e w45 ⟨v327, rfl, ho0, hb⟩; refine ⟨_, rfl, ?_⟩; have n0_ := Aside0.mk (Kd.R_lower ho0 (below_size (by repeat (first | (with_reducible first | exact HB.out | apply below_alloc | apply pw_below_drewN | apply below_drew1 | refine below_set ?_ GE308.out | refine below_set ?_ GE309.out) | exact HB.out)))); have n1_ := Aside0.mk (blk_below (g := gb308) (o := .cells #[.int .i64 0, .int .i64 0, .int .i64 0, .int .i64 0, .int .i64 0, .slice none 0 0] 24 (0, 0)) (by (with_reducible repeat (first | refine blk_drewN ?_ _ | refine blk_drew ?_ | refine blk_alloc ?_ _)); refine blk_far ?_ NB308_309.out _; (with_reducible repeat (first | refine blk_drewN ?_ _ | refine blk_drew ?_ | refine blk_alloc ?_ _)); refine blk_far ?_ NB308_309.out _; (with_reducible repeat (first | refine blk_drewN ?_ _ | refine blk_drew ?_ | refine blk_alloc ?_ _)); exact BK308.out) hb); have n2_ := Aside0.mk (blk_below (g := gb309) (o := .cells #[.int .i64 (wrap64 (bt a0 0)), .int .i64 0, .int .i64 0, .int .i64 t323, .int .i64 t324, .slice none 0 0] 24 (0, 0)) (by (with_reducible repeat (first | refine blk_drewN ?_ _ | refine blk_drew ?_ | refine blk_alloc ?_ _)); refine blk_put (cs := #[.int .i64 (wrap64 (bt a0 0)), .int .i64 0, .int .i64 0, .int .i64 t323, .int .i64 0, .slice none 0 0]) ?_ 4 _ rfl; (with_reducible repeat (first | refine blk_drewN ?_ _ | refine blk_drew ?_ | refine blk_alloc ?_ _)); refine blk_put (cs := #[.int .i64 (wrap64 (bt a0 0)), .int .i64 0, .int .i64 0, .int .i64 0, .int .i64 0, .slice none 0 0]) ?_ 3 _ rfl; (with_reducible repeat (first | refine blk_drewN ?_ _ | refine blk_drew ?_ | refine blk_alloc ?_ _)); exact BK309.out) hb); have n3_ := Aside0.mk (below_step (by repeat (first | (with_reducible first | exact HB.out | apply below_alloc | apply pw_below_drewN | apply below_drew1 | refine below_set ?_ GE308.out | refine below_set ?_ GE309.out) | exact HB.out)) hb); clear BK308; clear BK309; clear HB; have HO328 := n0_; have BK308 := n1_; have BK309 := n2_; have HB := n3_; clear n0_ n1_ n2_ n3_; (try clear hb); (try clear hb2); (try clear hk); (try clear hi); (try clear ho0); obtain ⟨Ao46, co46, eo46⟩ := Kd.R_slice HO328.out; subst eo46; have hcz47_0 : w45.cell? ⟨gb309, 0, none⟩ = some (.int .i64 (wrap64 (bt a0 0))) := (blk_cell BK309.out 0).trans rfl; have hcz47_1 : w45.cell? ⟨gb309, 1, none⟩ = some (.int .i64 0) := (blk_cell BK309.out 1).trans rfl; have hcz47_2 : w45.cell? ⟨gb309, 2, none⟩ = some (.int .i64 0) := (blk_cell BK309.out 2).trans rfl; have hcz47_3 : w45.cell? ⟨gb309, 3, none⟩ = some (.int .i64 t323) := (blk_cell BK309.out 3).trans rfl; have hcz47_4 : w45.cell? ⟨gb309, 4, none⟩ = some (.int .i64 t324) := (blk_cell BK309.out 4).trans rfl; have hcz47_5 : w45.cell? ⟨gb309, 5, none⟩ = some (.slice none 0 0) := (blk_cell BK309.out 5).trans rfl; have hfz47_0 := blk_frozen BK309.out 0; have hfz47_1 := blk_frozen BK309.out 1; have hfz47_2 := blk_frozen BK309.out 2; have hfz47_3 := blk_frozen BK309.out 3; have hfz47_4 := blk_frozen BK309.out 4; have hfz47_5 := blk_frozen BK309.out 5); clear tk2_; have tk3_ := True.intro))
                          go_meet
                          case rel => exact ⟨_, (t326), (0), (0), (t323), (t324), (t325), (.slice Ao46 t325.length co46), (by first | rfl | (simp; done) | (simp [*]; done)), H', ⟨by have := HJ8.out; have := HJ17.out; have := HJ36.out; first | omega | exact Nat.le_refl _⟩, ⟨by (with_reducible repeat (first | apply Kd.R_alloc | apply Kd.R_drewN | apply Kd.R_drew)); exact Kd.R_mono (Kd.R_far (p := ⟨gb309, 5, none⟩) (Kd.R_types HO328.out BK309.out (by decide)) (fun _ hk => hk.2) (.slice Ao46 t325.length co46)) (fun _ hk => trivial)⟩, ⟨by (with_reducible repeat (first | refine blk_drewN ?_ _ | refine blk_drew ?_ | refine blk_alloc ?_ _)); refine blk_far ?_ NB308_309.out _; (with_reducible repeat (first | refine blk_drewN ?_ _ | refine blk_drew ?_ | refine blk_alloc ?_ _)); exact BK308.out⟩, ⟨by (with_reducible repeat (first | refine blk_drewN ?_ _ | refine blk_drew ?_ | refine blk_alloc ?_ _)); refine blk_put (cs := #[.int .i64 (wrap64 (bt a0 0)), .int .i64 0, .int .i64 0, .int .i64 t323, .int .i64 t324, .slice none 0 0]) ?_ 5 _ rfl; (with_reducible repeat (first | refine blk_drewN ?_ _ | refine blk_drew ?_ | refine blk_alloc ?_ _)); exact BK309.out⟩, ⟨by repeat (first | (with_reducible first | exact HB.out | apply below_alloc | apply pw_below_drewN | apply below_drew1 | refine below_set ?_ GE308.out | refine below_set ?_ GE309.out) | exact HB.out)⟩⟩
                        · replace c39 := Bool.eq_false_iff.mpr c39
                          subst c39
                          have H1 : ((gatewardenref06_at.f a0 1).bind fun t329 => ((gatewardenref06_at.f a0 3).bind fun t330 => ((gatewardenref06_at.f a0 5).bind fun t331 => ((gatewardenref06_at.f a0 7).bind fun t332 => ((gatewardenref06_values.f kj36 a0 9 (wrap64 (bt a0 0)) t332).bind fun bt333 => (gatewardenref06_read.j3 kj36 (wrap64 (bt a0 0)) bt333.2 (wrap64 (bt a0 0)) t329 t330 t331 t332 bt333.1)))))) = some (r1, r2, r3, r4, r5, r6, r7) := by rw [if_neg (show ¬ (false = true) by decide)] at H; exact H
                          clear H
                          have H := H1
                          clear H1
                          replace H := Option.bind_eq_some_iff.mp H
                          obtain ⟨t329, A480, H⟩ := H
                          replace H : ((gatewardenref06_at.f a0 3).bind fun t330 => ((gatewardenref06_at.f a0 5).bind fun t331 => ((gatewardenref06_at.f a0 7).bind fun t332 => ((gatewardenref06_values.f kj36 a0 9 (wrap64 (bt a0 0)) t332).bind fun bt333 => (gatewardenref06_read.j3 kj36 (wrap64 (bt a0 0)) bt333.2 (wrap64 (bt a0 0)) t329 t330 t331 t332 bt333.1))))) = some (r1, r2, r3, r4, r5, r6, r7) := H
                          have A48 := Aside0.mk A480
                          clear A480
                          replace H := Option.bind_eq_some_iff.mp H
                          obtain ⟨t330, A490, H⟩ := H
                          replace H : ((gatewardenref06_at.f a0 5).bind fun t331 => ((gatewardenref06_at.f a0 7).bind fun t332 => ((gatewardenref06_values.f kj36 a0 9 (wrap64 (bt a0 0)) t332).bind fun bt333 => (gatewardenref06_read.j3 kj36 (wrap64 (bt a0 0)) bt333.2 (wrap64 (bt a0 0)) t329 t330 t331 t332 bt333.1)))) = some (r1, r2, r3, r4, r5, r6, r7) := H
                          have A49 := Aside0.mk A490
                          clear A490
                          replace H := Option.bind_eq_some_iff.mp H
                          obtain ⟨t331, A500, H⟩ := H
                          replace H : ((gatewardenref06_at.f a0 7).bind fun t332 => ((gatewardenref06_values.f kj36 a0 9 (wrap64 (bt a0 0)) t332).bind fun bt333 => (gatewardenref06_read.j3 kj36 (wrap64 (bt a0 0)) bt333.2 (wrap64 (bt a0 0)) t329 t330 t331 t332 bt333.1))) = some (r1, r2, r3, r4, r5, r6, r7) := H
                          have A50 := Aside0.mk A500
                          clear A500
                          replace H := Option.bind_eq_some_iff.mp H
                          obtain ⟨t332, A510, H⟩ := H
                          replace H : ((gatewardenref06_values.f kj36 a0 9 (wrap64 (bt a0 0)) t332).bind fun bt333 => (gatewardenref06_read.j3 kj36 (wrap64 (bt a0 0)) bt333.2 (wrap64 (bt a0 0)) t329 t330 t331 t332 bt333.1)) = some (r1, r2, r3, r4, r5, r6, r7) := H
                          have A51 := Aside0.mk A510
                          clear A510
                          replace H := Option.bind_eq_some_iff.mp H
                          obtain ⟨⟨t333, t334⟩, A520, H⟩ := H
                          replace H : (gatewardenref06_read.j3 kj36 (wrap64 (bt a0 0)) t334 (wrap64 (bt a0 0)) t329 t330 t331 t332 t333) = some (r1, r2, r3, r4, r5, r6, r7) := H
                          have A52 := Aside0.mk A520
                          clear A520
                          have H' := Aside0.mk H
                          clear H
                          have tk0_ := True.intro
                          go_wp2_with (first | (have t_ := tk0_; clear t_; ((with_reducible refine gate_callee (f := 83) rfl ?_); refine goesL_ (some 14) rfl rfl Try.func83 (by kernel_rfl) rfl #[.string a0, .int .i64 1] rfl (by (try simp only [List.map_toArray, List.map_cons, List.map_nil]); first | done | rfl | (simp only [List.length_drop, List.length_take]; rfl)) ?_; (with_reducible refine (gatewardenref06_at.calls a0 1 t329 _ A48.out).mono ?_); rintro e w' ⟨rfl, ⟨nd, rfl⟩⟩; refine ⟨_, rfl, ?_⟩; (try (rw [drewN_self wc]; generalize hq_ : World.drewN wc _ = wc; have n0_ : Aside0 (wc.heap[gb308]? = some (.cells #[.int .i64 0, .int .i64 0, .int .i64 0, .int .i64 0, .int .i64 0, .slice none 0 0] 24 (0, 0))) := ⟨by rw [← hq_]; exact (by (with_reducible repeat (first | refine blk_drewN ?_ _ | refine blk_drew ?_ | refine blk_alloc ?_ _)); exact BK308.out)⟩; have n1_ : Aside0 (wc.heap[gb309]? = some (.cells #[.int .i64 (wrap64 (bt a0 0)), .int .i64 0, .int .i64 0, .int .i64 0, .int .i64 0, .slice none 0 0] 24 (0, 0))) := ⟨by rw [← hq_]; exact (by (with_reducible repeat (first | refine blk_drewN ?_ _ | refine blk_drew ?_ | refine blk_alloc ?_ _)); exact BK309.out)⟩; have n2_ : Aside0 (Below w.heap.size w wc) := ⟨by rw [← hq_]; exact (by repeat (first | (with_reducible first | exact HB.out | apply below_alloc | apply pw_below_drewN | apply below_drew1 | refine below_set ?_ GE308.out | refine below_set ?_ GE309.out) | exact HB.out))⟩; clear BK308 BK309 HB hq_; have BK308 := n0_; have BK309 := n1_; have HB := n2_; clear n0_ n1_ n2_))); clear tk0_; have tk1_ := True.intro) | (have t_ := tk1_; clear t_; ((with_reducible refine gate_callee (f := 83) rfl ?_); refine goesL_ (some 16) rfl rfl Try.func83 (by kernel_rfl) rfl #[.string a0, .int .i64 3] rfl (by (try simp only [List.map_toArray, List.map_cons, List.map_nil]); first | done | rfl | (simp only [List.length_drop, List.length_take]; rfl)) ?_; (with_reducible refine (gatewardenref06_at.calls a0 3 t330 _ A49.out).mono ?_); rintro e w' ⟨rfl, ⟨nd, rfl⟩⟩; refine ⟨_, rfl, ?_⟩; (try (rw [drewN_self wc]; generalize hq_ : World.drewN wc _ = wc; have n0_ : Aside0 (wc.heap[gb308]? = some (.cells #[.int .i64 0, .int .i64 0, .int .i64 0, .int .i64 0, .int .i64 0, .slice none 0 0] 24 (0, 0))) := ⟨by rw [← hq_]; exact (by (with_reducible repeat (first | refine blk_drewN ?_ _ | refine blk_drew ?_ | refine blk_alloc ?_ _)); exact BK308.out)⟩; have n1_ : Aside0 (wc.heap[gb309]? = some (.cells #[.int .i64 (wrap64 (bt a0 0)), .int .i64 0, .int .i64 0, .int .i64 0, .int .i64 0, .slice none 0 0] 24 (0, 0))) := ⟨by rw [← hq_]; exact (by (with_reducible repeat (first | refine blk_drewN ?_ _ | refine blk_drew ?_ | refine blk_alloc ?_ _)); exact BK309.out)⟩; have n2_ : Aside0 (Below w.heap.size w wc) := ⟨by rw [← hq_]; exact (by repeat (first | (with_reducible first | exact HB.out | apply below_alloc | apply pw_below_drewN | apply below_drew1 | refine below_set ?_ GE308.out | refine below_set ?_ GE309.out) | exact HB.out))⟩; clear BK308 BK309 HB hq_; have BK308 := n0_; have BK309 := n1_; have HB := n2_; clear n0_ n1_ n2_))); clear tk1_; have tk2_ := True.intro) | (have t_ := tk2_; clear t_; ((with_reducible refine gate_callee (f := 83) rfl ?_); refine goesL_ (some 18) rfl rfl Try.func83 (by kernel_rfl) rfl #[.string a0, .int .i64 5] rfl (by (try simp only [List.map_toArray, List.map_cons, List.map_nil]); first | done | rfl | (simp only [List.length_drop, List.length_take]; rfl)) ?_; (with_reducible refine (gatewardenref06_at.calls a0 5 t331 _ A50.out).mono ?_); rintro e w' ⟨rfl, ⟨nd, rfl⟩⟩; refine ⟨_, rfl, ?_⟩; (try (rw [drewN_self wc]; generalize hq_ : World.drewN wc _ = wc; have n0_ : Aside0 (wc.heap[gb308]? = some (.cells #[.int .i64 0, .int .i64 0, .int .i64 0, .int .i64 0, .int .i64 0, .slice none 0 0] 24 (0, 0))) := ⟨by rw [← hq_]; exact (by (with_reducible repeat (first | refine blk_drewN ?_ _ | refine blk_drew ?_ | refine blk_alloc ?_ _)); exact BK308.out)⟩; have n1_ : Aside0 (wc.heap[gb309]? = some (.cells #[.int .i64 (wrap64 (bt a0 0)), .int .i64 0, .int .i64 0, .int .i64 0, .int .i64 0, .slice none 0 0] 24 (0, 0))) := ⟨by rw [← hq_]; exact (by (with_reducible repeat (first | refine blk_drewN ?_ _ | refine blk_drew ?_ | refine blk_alloc ?_ _)); exact BK309.out)⟩; have n2_ : Aside0 (Below w.heap.size w wc) := ⟨by rw [← hq_]; exact (by repeat (first | (with_reducible first | exact HB.out | apply below_alloc | apply pw_below_drewN | apply below_drew1 | refine below_set ?_ GE308.out | refine below_set ?_ GE309.out) | exact HB.out))⟩; clear BK308 BK309 HB hq_; have BK308 := n0_; have BK309 := n1_; have HB := n2_; clear n0_ n1_ n2_))); clear tk2_; have tk3_ := True.intro) | (have t_ := tk3_; clear t_; ((with_reducible refine gate_callee (f := 83) rfl ?_); refine goesL_ (some 20) rfl rfl Try.func83 (by kernel_rfl) rfl #[.string a0, .int .i64 7] rfl (by (try simp only [List.map_toArray, List.map_cons, List.map_nil]); first | done | rfl | (simp only [List.length_drop, List.length_take]; rfl)) ?_; (with_reducible refine (gatewardenref06_at.calls a0 7 t332 _ A51.out).mono ?_); rintro e w' ⟨rfl, ⟨nd, rfl⟩⟩; refine ⟨_, rfl, ?_⟩; (try (rw [drewN_self wc]; generalize hq_ : World.drewN wc _ = wc; have n0_ : Aside0 (wc.heap[gb308]? = some (.cells #[.int .i64 0, .int .i64 0, .int .i64 0, .int .i64 0, .int .i64 0, .slice none 0 0] 24 (0, 0))) := ⟨by rw [← hq_]; exact (by (with_reducible repeat (first | refine blk_drewN ?_ _ | refine blk_drew ?_ | refine blk_alloc ?_ _)); exact BK308.out)⟩; have n1_ : Aside0 (wc.heap[gb309]? = some (.cells #[.int .i64 (wrap64 (bt a0 0)), .int .i64 0, .int .i64 0, .int .i64 0, .int .i64 0, .slice none 0 0] 24 (0, 0))) := ⟨by rw [← hq_]; exact (by (with_reducible repeat (first | refine blk_drewN ?_ _ | refine blk_drew ?_ | refine blk_alloc ?_ _)); exact BK309.out)⟩; have n2_ : Aside0 (Below w.heap.size w wc) := ⟨by rw [← hq_]; exact (by repeat (first | (with_reducible first | exact HB.out | apply below_alloc | apply pw_below_drewN | apply below_drew1 | refine below_set ?_ GE308.out | refine below_set ?_ GE309.out) | exact HB.out))⟩; clear BK308 BK309 HB hq_; have BK308 := n0_; have BK309 := n1_; have HB := n2_; clear n0_ n1_ n2_)); have hnb53 := NB309_308.out; have hnc53 := NB308_309.out; have hcz54_0 : wc.cell? ⟨gb309, 0, none⟩ = some (.int .i64 (wrap64 (bt a0 0))) := (blk_cell BK309.out 0).trans rfl; have hcz54_1 : wc.cell? ⟨gb309, 1, none⟩ = some (.int .i64 0) := (blk_cell BK309.out 1).trans rfl; have hcz54_2 : wc.cell? ⟨gb309, 2, none⟩ = some (.int .i64 0) := (blk_cell BK309.out 2).trans rfl; have hcz54_3 : wc.cell? ⟨gb309, 3, none⟩ = some (.int .i64 0) := (blk_cell BK309.out 3).trans rfl; have hcz54_4 : wc.cell? ⟨gb309, 4, none⟩ = some (.int .i64 0) := (blk_cell BK309.out 4).trans rfl; have hcz54_5 : wc.cell? ⟨gb309, 5, none⟩ = some (.slice none 0 0) := (blk_cell BK309.out 5).trans rfl; have hfz54_0 := blk_frozen BK309.out 0; have hfz54_1 := blk_frozen BK309.out 1; have hfz54_2 := blk_frozen BK309.out 2; have hfz54_3 := blk_frozen BK309.out 3; have hfz54_4 := blk_frozen BK309.out 4; have hfz54_5 := blk_frozen BK309.out 5); clear tk3_; have tk4_ := True.intro) | (have t_ := tk4_; clear t_; ((with_reducible refine gate_callee (f := 84) rfl ?_); refine goesL_ (some 30) rfl rfl Try.func84 (by kernel_rfl) rfl #[.string a0, .int .i64 9, .int .i64 (wrap64 (bt a0 0)), .int .i64 t332] rfl (by (try simp only [List.map_toArray, List.map_cons, List.map_nil]); first | done | rfl | (simp only [List.length_drop, List.length_take]; rfl)) ?_; (with_reducible refine (gatewardenref06_values.calls kj36 a0 9 (wrap64 (bt a0 0)) t332 t333 t334 _ A52.out).mono ?_); rintro e w55 ⟨v335, rfl, ho0, hb⟩; refine ⟨_, rfl, ?_⟩; have n0_ := Aside0.mk (Kd.R_lower ho0 (below_size (by repeat (first | (with_reducible first | exact HB.out | apply below_alloc | apply pw_below_drewN | apply below_drew1 | refine below_set ?_ GE308.out | refine below_set ?_ GE309.out) | exact HB.out)))); have n1_ := Aside0.mk (blk_below (g := gb308) (o := .cells #[.int .i64 0, .int .i64 0, .int .i64 0, .int .i64 0, .int .i64 0, .slice none 0 0] 24 (0, 0)) (by (with_reducible repeat (first | refine blk_drewN ?_ _ | refine blk_drew ?_ | refine blk_alloc ?_ _)); refine blk_far ?_ NB308_309.out _; (with_reducible repeat (first | refine blk_drewN ?_ _ | refine blk_drew ?_ | refine blk_alloc ?_ _)); refine blk_far ?_ NB308_309.out _; (with_reducible repeat (first | refine blk_drewN ?_ _ | refine blk_drew ?_ | refine blk_alloc ?_ _)); refine blk_far ?_ NB308_309.out _; (with_reducible repeat (first | refine blk_drewN ?_ _ | refine blk_drew ?_ | refine blk_alloc ?_ _)); refine blk_far ?_ NB308_309.out _; (with_reducible repeat (first | refine blk_drewN ?_ _ | refine blk_drew ?_ | refine blk_alloc ?_ _)); exact BK308.out) hb); have n2_ := Aside0.mk (blk_below (g := gb309) (o := .cells #[.int .i64 (wrap64 (bt a0 0)), .int .i64 t329, .int .i64 t330, .int .i64 t331, .int .i64 t332, .slice none 0 0] 24 (0, 0)) (by (with_reducible repeat (first | refine blk_drewN ?_ _ | refine blk_drew ?_ | refine blk_alloc ?_ _)); refine blk_put (cs := #[.int .i64 (wrap64 (bt a0 0)), .int .i64 t329, .int .i64 t330, .int .i64 t331, .int .i64 0, .slice none 0 0]) ?_ 4 _ rfl; (with_reducible repeat (first | refine blk_drewN ?_ _ | refine blk_drew ?_ | refine blk_alloc ?_ _)); refine blk_put (cs := #[.int .i64 (wrap64 (bt a0 0)), .int .i64 t329, .int .i64 t330, .int .i64 0, .int .i64 0, .slice none 0 0]) ?_ 3 _ rfl; (with_reducible repeat (first | refine blk_drewN ?_ _ | refine blk_drew ?_ | refine blk_alloc ?_ _)); refine blk_put (cs := #[.int .i64 (wrap64 (bt a0 0)), .int .i64 t329, .int .i64 0, .int .i64 0, .int .i64 0, .slice none 0 0]) ?_ 2 _ rfl; (with_reducible repeat (first | refine blk_drewN ?_ _ | refine blk_drew ?_ | refine blk_alloc ?_ _)); refine blk_put (cs := #[.int .i64 (wrap64 (bt a0 0)), .int .i64 0, .int .i64 0, .int .i64 0, .int .i64 0, .slice none 0 0]) ?_ 1 _ rfl; (with_reducible repeat (first | refine blk_drewN ?_ _ | refine blk_drew ?_ | refine blk_alloc ?_ _)); exact BK309.out) hb); have n3_ := Aside0.mk (below_step (by repeat (first | (with_reducible first | exact HB.out | apply below_alloc | apply pw_below_drewN | apply below_drew1 | refine below_set ?_ GE308.out | refine below_set ?_ GE309.out) | exact HB.out)) hb); clear BK308; clear BK309; clear HB; have HO336 := n0_; have BK308 := n1_; have BK309 := n2_; have HB := n3_; clear n0_ n1_ n2_ n3_; (try clear hb); (try clear hb2); (try clear hk); (try clear hi); (try clear ho0); obtain ⟨Ao56, co56, eo56⟩ := Kd.R_slice HO336.out; subst eo56; have hcz57_0 : w55.cell? ⟨gb309, 0, none⟩ = some (.int .i64 (wrap64 (bt a0 0))) := (blk_cell BK309.out 0).trans rfl; have hcz57_1 : w55.cell? ⟨gb309, 1, none⟩ = some (.int .i64 t329) := (blk_cell BK309.out 1).trans rfl; have hcz57_2 : w55.cell? ⟨gb309, 2, none⟩ = some (.int .i64 t330) := (blk_cell BK309.out 2).trans rfl; have hcz57_3 : w55.cell? ⟨gb309, 3, none⟩ = some (.int .i64 t331) := (blk_cell BK309.out 3).trans rfl; have hcz57_4 : w55.cell? ⟨gb309, 4, none⟩ = some (.int .i64 t332) := (blk_cell BK309.out 4).trans rfl; have hcz57_5 : w55.cell? ⟨gb309, 5, none⟩ = some (.slice none 0 0) := (blk_cell BK309.out 5).trans rfl; have hfz57_0 := blk_frozen BK309.out 0; have hfz57_1 := blk_frozen BK309.out 1; have hfz57_2 := blk_frozen BK309.out 2; have hfz57_3 := blk_frozen BK309.out 3; have hfz57_4 := blk_frozen BK309.out 4; have hfz57_5 := blk_frozen BK309.out 5); clear tk4_; have tk5_ := True.intro))
                          go_meet
                          case rel => exact ⟨_, (t334), (t329), (t330), (t331), (t332), (t333), (.slice Ao56 t333.length co56), (by first | rfl | (simp; done) | (simp [*]; done)), H', ⟨by have := HJ8.out; have := HJ17.out; have := HJ36.out; first | omega | exact Nat.le_refl _⟩, ⟨by (with_reducible repeat (first | apply Kd.R_alloc | apply Kd.R_drewN | apply Kd.R_drew)); exact Kd.R_mono (Kd.R_far (p := ⟨gb309, 5, none⟩) (Kd.R_types HO336.out BK309.out (by decide)) (fun _ hk => hk.2) (.slice Ao56 t333.length co56)) (fun _ hk => trivial)⟩, ⟨by (with_reducible repeat (first | refine blk_drewN ?_ _ | refine blk_drew ?_ | refine blk_alloc ?_ _)); refine blk_far ?_ NB308_309.out _; (with_reducible repeat (first | refine blk_drewN ?_ _ | refine blk_drew ?_ | refine blk_alloc ?_ _)); exact BK308.out⟩, ⟨by (with_reducible repeat (first | refine blk_drewN ?_ _ | refine blk_drew ?_ | refine blk_alloc ?_ _)); refine blk_put (cs := #[.int .i64 (wrap64 (bt a0 0)), .int .i64 t329, .int .i64 t330, .int .i64 t331, .int .i64 t332, .slice none 0 0]) ?_ 5 _ rfl; (with_reducible repeat (first | refine blk_drewN ?_ _ | refine blk_drew ?_ | refine blk_alloc ?_ _)); exact BK309.out⟩, ⟨by repeat (first | (with_reducible first | exact HB.out | apply below_alloc | apply pw_below_drewN | apply below_drew1 | refine below_set ?_ GE308.out | refine below_set ?_ GE309.out) | exact HB.out)⟩⟩
    case rest =>
      clear HC4
      try clear c1
      try clear c2
      try clear c2b0
      try clear c2b1
      try clear p2
      try clear c3
      try clear p3
      try clear q3
      try clear hx3
      try clear qi3
      try clear c4
      try clear c5
      try clear c6
      try clear p6
      try clear c7
      try clear c8
      try clear c10
      try clear c10b0
      try clear c10b1
      try clear c11
      try clear c11b0
      try clear c11b1
      try clear c12
      try clear c12b0
      try clear c12b1
      try clear c13
      try clear c16
      try clear c19
      try clear c19b0
      try clear c19b1
      try clear c20
      try clear c25
      try clear c28
      try clear c28b0
      try clear c28b1
      try clear c34
      try clear c38
      try clear c38b0
      try clear c38b1
      try clear c39
      try clear c43
      try clear c53
      try clear hcz17_0
      try clear hcz17_1
      try clear hcz17_2
      try clear hcz17_3
      try clear hcz17_4
      try clear hcz17_5
      try clear hcz26_0
      try clear hcz26_1
      try clear hcz26_2
      try clear hcz26_3
      try clear hcz26_4
      try clear hcz26_5
      try clear hcz35_0
      try clear hcz35_1
      try clear hcz35_2
      try clear hcz35_3
      try clear hcz35_4
      try clear hcz35_5
      try clear hcz44_0
      try clear hcz44_1
      try clear hcz44_2
      try clear hcz44_3
      try clear hcz44_4
      try clear hcz44_5
      try clear hcz47_0
      try clear hcz47_1
      try clear hcz47_2
      try clear hcz47_3
      try clear hcz47_4
      try clear hcz47_5
      try clear hcz54_0
      try clear hcz54_1
      try clear hcz54_2
      try clear hcz54_3
      try clear hcz54_4
      try clear hcz54_5
      try clear hcz57_0
      try clear hcz57_1
      try clear hcz57_2
      try clear hcz57_3
      try clear hcz57_4
      try clear hcz57_5
      try clear hcz8_0
      try clear hcz8_1
      try clear hcz8_2
      try clear hcz8_3
      try clear hcz8_4
      try clear hcz8_5
      try clear hfz17_0
      try clear hfz17_1
      try clear hfz17_2
      try clear hfz17_3
      try clear hfz17_4
      try clear hfz17_5
      try clear hfz26_0
      try clear hfz26_1
      try clear hfz26_2
      try clear hfz26_3
      try clear hfz26_4
      try clear hfz26_5
      try clear hfz35_0
      try clear hfz35_1
      try clear hfz35_2
      try clear hfz35_3
      try clear hfz35_4
      try clear hfz35_5
      try clear hfz44_0
      try clear hfz44_1
      try clear hfz44_2
      try clear hfz44_3
      try clear hfz44_4
      try clear hfz44_5
      try clear hfz47_0
      try clear hfz47_1
      try clear hfz47_2
      try clear hfz47_3
      try clear hfz47_4
      try clear hfz47_5
      try clear hfz54_0
      try clear hfz54_1
      try clear hfz54_2
      try clear hfz54_3
      try clear hfz54_4
      try clear hfz54_5
      try clear hfz57_0
      try clear hfz57_1
      try clear hfz57_2
      try clear hfz57_3
      try clear hfz57_4
      try clear hfz57_5
      try clear hfz8_0
      try clear hfz8_1
      try clear hfz8_2
      try clear hfz8_3
      try clear hfz8_4
      try clear hfz8_5
      try clear p2
      try clear p3
      try clear p6
      try clear q3
      obtain ⟨kq, x6_3, x310001_3, x310002_3, x310003_3, x310004_3, x310005_3, u310005, rfl, HA, HJ3, HO_310005, BK308, BK309, HB⟩ := hcut
      cases kq with
      | zero => exact absurd HA.out (by simp [gatewardenref06_read.j3])
      | succ kj3 =>
        have H := HA.out
        clear HA
        simp only [gatewardenref06_read.j3] at H
        have HC58 := Aside0.mk H
        clear H
        go_upto_region 24 with (fail)
        go_cut [103] (fun v103 wc => ∃ (kq : Nat) (x103_57 : Bool), v103 = .bool x103_57 ∧ Aside0 (gatewardenref06_read.j4 kq (wrap64 (bt a0 0)) x6_3 x103_57 (wrap64 (bt a0 0)) x310001_3 x310002_3 x310003_3 x310004_3 x310005_3 = some (r1, r2, r3, r4, r5, r6, r7)) ∧ Aside0 (kq ≤ kj3) ∧ Aside0 (Kd.R (Kd.int .i64) 3 wc w.heap.size (fun _ => True) u310005 x310005_3) ∧ Aside0 (wc.heap[gb308]? = some (.cells #[.int .i64 0, .int .i64 0, .int .i64 0, .int .i64 0, .int .i64 0, (.slice none 0 0)] 24 (0, 0))) ∧ Aside0 (wc.heap[gb309]? = some (.cells #[.int .i64 (wrap64 (bt a0 0)), .int .i64 x310001_3, .int .i64 x310002_3, .int .i64 x310003_3, .int .i64 x310004_3, u310005] 24 (0, 0))) ∧ Aside0 (Below w.heap.size w wc))
        case first =>
          have H := HC58.out
          clear HC58
          by_cases c59 : (wrap64 (bt a0 0)) = 5
          · rw [if_pos c59] at H
            have c59b0 : ((wrap64 (bt a0 0)) == 5) = true := beq_iff_eq.mpr c59
            have c59b1 : ((wrap64 (bt a0 0)) != 5) = false := bne_eq_false_iff_eq.mpr c59
            clear c59
            (first | rw [c59b0] | (simp only [i64_w, i32_w]; rw [c59b0]) | skip)
            by_cases c60 : 0 < (x310005_3.length : Int)
            · rw [if_pos c60] at H
              have c60b0 : decide (0 < (x310005_3.length : Int)) = true := decide_eq_true c60
              have c60b1 : decide (0 < x310005_3.length) = true := decide_eq_true (by omega)
              clear c60
              have H' := Aside0.mk H
              clear H
              have hnb61 := NB309_308.out
              have hnc61 := NB308_309.out
              have hcz62_0 : wc.cell? ⟨gb309, 0, none⟩ = some (.int .i64 (wrap64 (bt a0 0))) := (blk_cell BK309.out 0).trans rfl
              have hcz62_1 : wc.cell? ⟨gb309, 1, none⟩ = some (.int .i64 x310001_3) := (blk_cell BK309.out 1).trans rfl
              have hcz62_2 : wc.cell? ⟨gb309, 2, none⟩ = some (.int .i64 x310002_3) := (blk_cell BK309.out 2).trans rfl
              have hcz62_3 : wc.cell? ⟨gb309, 3, none⟩ = some (.int .i64 x310003_3) := (blk_cell BK309.out 3).trans rfl
              have hcz62_4 : wc.cell? ⟨gb309, 4, none⟩ = some (.int .i64 x310004_3) := (blk_cell BK309.out 4).trans rfl
              have hcz62_5 : wc.cell? ⟨gb309, 5, none⟩ = some (u310005) := (blk_cell BK309.out 5).trans rfl
              have hfz62_0 := blk_frozen BK309.out 0
              have hfz62_1 := blk_frozen BK309.out 1
              have hfz62_2 := blk_frozen BK309.out 2
              have hfz62_3 := blk_frozen BK309.out 3
              have hfz62_4 := blk_frozen BK309.out 4
              have hfz62_5 := blk_frozen BK309.out 5
              obtain ⟨Ao63, co63, eo63⟩ := Kd.R_slice HO_310005.out
              subst eo63
              have p337 : 0 ≤ (0 : Int) := (by omega)
              have q337 : 0 < (x310005_3.length : Int) := of_decide_eq_true (by first | (with_reducible assumption) | assumption)
              obtain ⟨ad337, e337, hx337_0⟩ := Kd.at_int (Kd.R_reads' HO_310005.out).2.2 0 p337 q337
              cases e337
              have qi337 : (0 < x310005_3.length) = True := eq_true (by omega)
              (try rw [show ((0 : Int)).toNat = 0 from rfl] at hx337_0)
              (try rw [Addr.add_zero'] at hx337_0)
              replace p337 := eq_true p337
              replace q337 := eq_true q337
              go_wp2
              go_meet
              case rel => exact ⟨_, (((rd x310005_3 0) == 65280)), (by first | rfl | (simp; done) | (simp [*]; done)), H', ⟨by have := HJ3.out; first | omega | exact Nat.le_refl _⟩, ⟨by (with_reducible repeat (first | apply Kd.R_alloc | apply Kd.R_drewN | apply Kd.R_drew)); exact HO_310005.out⟩, ⟨by (with_reducible repeat (first | refine blk_drewN ?_ _ | refine blk_drew ?_ | refine blk_alloc ?_ _)); exact BK308.out⟩, ⟨by (with_reducible repeat (first | refine blk_drewN ?_ _ | refine blk_drew ?_ | refine blk_alloc ?_ _)); exact BK309.out⟩, ⟨by repeat (first | (with_reducible first | exact HB.out | apply below_alloc | apply pw_below_drewN | apply below_drew1 | refine below_set ?_ GE308.out | refine below_set ?_ GE309.out) | exact HB.out)⟩⟩
            · rw [if_neg c60] at H
              exact absurd H (by simp)
          · rw [if_neg c59] at H
            have c59b0 : ((wrap64 (bt a0 0)) == 5) = false := beq_eq_false_iff_ne.mpr c59
            have c59b1 : ((wrap64 (bt a0 0)) != 5) = true := bne_iff_ne.mpr c59
            (first | rw [c59b0] | (simp only [i64_w, i32_w]; rw [c59b0]) | skip)
            have H' := Aside0.mk H
            clear H
            go_wp2
            go_meet
            case rel => exact ⟨_, (false), (by first | rfl | (simp; done) | (simp [*]; done)), H', ⟨by have := HJ3.out; first | omega | exact Nat.le_refl _⟩, ⟨by (with_reducible repeat (first | apply Kd.R_alloc | apply Kd.R_drewN | apply Kd.R_drew)); exact HO_310005.out⟩, ⟨by (with_reducible repeat (first | refine blk_drewN ?_ _ | refine blk_drew ?_ | refine blk_alloc ?_ _)); exact BK308.out⟩, ⟨by (with_reducible repeat (first | refine blk_drewN ?_ _ | refine blk_drew ?_ | refine blk_alloc ?_ _)); exact BK309.out⟩, ⟨by repeat (first | (with_reducible first | exact HB.out | apply below_alloc | apply pw_below_drewN | apply below_drew1 | refine below_set ?_ GE308.out | refine below_set ?_ GE309.out) | exact HB.out)⟩⟩
        case rest =>
          clear HC58
          try clear c1
          try clear c2
          try clear c2b0
          try clear c2b1
          try clear p2
          try clear c3
          try clear p3
          try clear q3
          try clear hx3
          try clear qi3
          try clear c4
          try clear c5
          try clear c6
          try clear p6
          try clear c7
          try clear c8
          try clear c10
          try clear c10b0
          try clear c10b1
          try clear c11
          try clear c11b0
          try clear c11b1
          try clear c12
          try clear c12b0
          try clear c12b1
          try clear c13
          try clear c16
          try clear c19
          try clear c19b0
          try clear c19b1
          try clear c20
          try clear c25
          try clear c28
          try clear c28b0
          try clear c28b1
          try clear p33
          try clear q33
          try clear hx33
          try clear qi33
          try clear c34
          try clear c38
          try clear c38b0
          try clear c38b1
          try clear c39
          try clear c43
          try clear c53
          try clear c59
          try clear c59b0
          try clear c59b1
          try clear c60
          try clear c60b0
          try clear c60b1
          try clear c61
          try clear hcz17_0
          try clear hcz17_1
          try clear hcz17_2
          try clear hcz17_3
          try clear hcz17_4
          try clear hcz17_5
          try clear hcz26_0
          try clear hcz26_1
          try clear hcz26_2
          try clear hcz26_3
          try clear hcz26_4
          try clear hcz26_5
          try clear hcz35_0
          try clear hcz35_1
          try clear hcz35_2
          try clear hcz35_3
          try clear hcz35_4
          try clear hcz35_5
          try clear hcz44_0
          try clear hcz44_1
          try clear hcz44_2
          try clear hcz44_3
          try clear hcz44_4
          try clear hcz44_5
          try clear hcz47_0
          try clear hcz47_1
          try clear hcz47_2
          try clear hcz47_3
          try clear hcz47_4
          try clear hcz47_5
          try clear hcz54_0
          try clear hcz54_1
          try clear hcz54_2
          try clear hcz54_3
          try clear hcz54_4
          try clear hcz54_5
          try clear hcz57_0
          try clear hcz57_1
          try clear hcz57_2
          try clear hcz57_3
          try clear hcz57_4
          try clear hcz57_5
          try clear hcz62_0
          try clear hcz62_1
          try clear hcz62_2
          try clear hcz62_3
          try clear hcz62_4
          try clear hcz62_5
          try clear hcz8_0
          try clear hcz8_1
          try clear hcz8_2
          try clear hcz8_3
          try clear hcz8_4
          try clear hcz8_5
          try clear hfz17_0
          try clear hfz17_1
          try clear hfz17_2
          try clear hfz17_3
          try clear hfz17_4
          try clear hfz17_5
          try clear hfz26_0
          try clear hfz26_1
          try clear hfz26_2
          try clear hfz26_3
          try clear hfz26_4
          try clear hfz26_5
          try clear hfz35_0
          try clear hfz35_1
          try clear hfz35_2
          try clear hfz35_3
          try clear hfz35_4
          try clear hfz35_5
          try clear hfz44_0
          try clear hfz44_1
          try clear hfz44_2
          try clear hfz44_3
          try clear hfz44_4
          try clear hfz44_5
          try clear hfz47_0
          try clear hfz47_1
          try clear hfz47_2
          try clear hfz47_3
          try clear hfz47_4
          try clear hfz47_5
          try clear hfz54_0
          try clear hfz54_1
          try clear hfz54_2
          try clear hfz54_3
          try clear hfz54_4
          try clear hfz54_5
          try clear hfz57_0
          try clear hfz57_1
          try clear hfz57_2
          try clear hfz57_3
          try clear hfz57_4
          try clear hfz57_5
          try clear hfz62_0
          try clear hfz62_1
          try clear hfz62_2
          try clear hfz62_3
          try clear hfz62_4
          try clear hfz62_5
          try clear hfz8_0
          try clear hfz8_1
          try clear hfz8_2
          try clear hfz8_3
          try clear hfz8_4
          try clear hfz8_5
          try clear hx337_0
          try clear p2
          try clear p3
          try clear p337
          try clear p6
          try clear q3
          try clear q337
          obtain ⟨kq, x103_57, rfl, HA, HJ57, HO_310005, BK308, BK309, HB⟩ := hcut
          cases kq with
          | zero => exact absurd HA.out (by simp [gatewardenref06_read.j4])
          | succ kj57 =>
            have H := HA.out
            clear HA
            simp only [gatewardenref06_read.j4] at H
            by_cases c64 : x103_57 = true
            · subst c64
              have H1 : (if 0 < (x310005_3.length : Int) then (some ((wrap64 (bt a0 0)), x310001_3, x310002_3, x310003_3, x310004_3, (x310005_3.set (0 : Int).toNat 1), x6_3)) else (none)) = some (r1, r2, r3, r4, r5, r6, r7) := by rw [if_pos rfl] at H; exact H
              clear H
              have H := H1
              clear H1
              by_cases c65 : 0 < (x310005_3.length : Int)
              · rw [if_pos c65] at H
                have c65b0 : decide (0 < (x310005_3.length : Int)) = true := decide_eq_true c65
                have c65b1 : decide (0 < x310005_3.length) = true := decide_eq_true (by omega)
                clear c65
                obtain ⟨y338, hy338⟩ : ∃ y_ : List Int, y_ = (x310005_3.set (0 : Int).toNat 1) := ⟨_, rfl⟩
                replace H : (some ((wrap64 (bt a0 0)), x310001_3, x310002_3, x310003_3, x310004_3, y338, x6_3)) = some (r1, r2, r3, r4, r5, r6, r7) := by first | (rw [hy338]; with_reducible exact H) | (have H2_ := (Option.bind_some _ _).symm.trans H; rw [hy338]; with_reducible exact H2_) | (have H2_ := (Option.bind_some _ _).symm.trans H; with_reducible exact H2_) | with_reducible exact H | (rw [hy338]; exact H) | exact H
                have Ny338 := Aside0.mk hy338
                clear hy338
                simp only [Option.some.injEq, Prod.mk.injEq] at H
                obtain ⟨rfl, rfl, rfl, rfl, rfl, rfl, rfl⟩ := H
                have hnb67 := NB309_308.out
                have hnc67 := NB308_309.out
                have hcz68_0 : wc.cell? ⟨gb309, 0, none⟩ = some (.int .i64 (wrap64 (bt a0 0))) := (blk_cell BK309.out 0).trans rfl
                have hcz68_1 : wc.cell? ⟨gb309, 1, none⟩ = some (.int .i64 x310001_3) := (blk_cell BK309.out 1).trans rfl
                have hcz68_2 : wc.cell? ⟨gb309, 2, none⟩ = some (.int .i64 x310002_3) := (blk_cell BK309.out 2).trans rfl
                have hcz68_3 : wc.cell? ⟨gb309, 3, none⟩ = some (.int .i64 x310003_3) := (blk_cell BK309.out 3).trans rfl
                have hcz68_4 : wc.cell? ⟨gb309, 4, none⟩ = some (.int .i64 x310004_3) := (blk_cell BK309.out 4).trans rfl
                have hcz68_5 : wc.cell? ⟨gb309, 5, none⟩ = some (u310005) := (blk_cell BK309.out 5).trans rfl
                have hfz68_0 := blk_frozen BK309.out 0
                have hfz68_1 := blk_frozen BK309.out 1
                have hfz68_2 := blk_frozen BK309.out 2
                have hfz68_3 := blk_frozen BK309.out 3
                have hfz68_4 := blk_frozen BK309.out 4
                have hfz68_5 := blk_frozen BK309.out 5
                have p66 : 0 ≤ (0 : Int) := (by omega)
                have q66 : (0 : Int) < ((x310005_3.length : Int) : Int) := of_decide_eq_true (by first | (with_reducible assumption) | assumption)
                have qi66 : (0 < x310005_3.length) = True := eq_true (by omega)
                obtain ⟨go66, co66, eo66, gb66, gl66, cl66, HG66⟩ := Kd.R_form HO_310005.out (by omega)
                (first | cases eo66 | (injection eo66 with ea_ en_ ec_; (first | subst ea_ | (injection ea_ with ea_; subst ea_)); subst ec_; clear en_))
                have GB66 := Aside0.mk gb66
                have GG66 := Aside0.mk HG66
                clear gb66 gl66 HG66
                obtain ⟨hx66_0, hf66_0⟩ := Kd.R_celln 0 HO_310005.out (0 : Int) p66 q66
                (try rw [show ((0 : Int)).toNat = 0 from rfl] at hx66_0)
                (try simp only [Nat.reduceMul, Nat.zero_mul, Nat.zero_add, Nat.reduceAdd] at hx66_0)
                (try rw [show ((0 : Int)).toNat = 0 from rfl] at hf66_0)
                (try simp only [Nat.reduceMul, Nat.zero_mul, Nat.zero_add, Nat.reduceAdd] at hf66_0)
                replace p66 := eq_true p66
                replace q66 := eq_true q66
                have HP69 := Kd.R_putg HO_310005.out (0 : Int) 1
                go_wp2_with (first | ((with_reducible refine gate_store (t := 3) (p := 106) rfl ?_); refine store_event (t := 3) (p := 106) (v := ?vo_w70) (w1 := (wc.setCell ⟨go66, (0 : Int).toNat, none⟩ (.int .i64 1))) ?hg ?ho ?hn ?hr ?_; (case ho => rfl); (case hg => rfl); (case hn => rfl); (case hr => first | (go_simp; done) | (go_simp; rfl)); intro w70 hw; have hg : wc.grownBy w70 (some go66) := (by rw [hw]; exact HP69.2); have hp_ : Kd.R (Kd.int .i64) 3 w70 w.heap.size (fun _ => True) (.slice (some ⟨go66, 0, none⟩) x310005_3.length co66) y338 := (by rw [hw, Ny338.out]; exact HP69.1); clear HP69; have n0_ := Aside0.mk (hp_); have n1_ := Aside0.mk (blk_grown (g := gb308) (o := .cells #[.int .i64 0, .int .i64 0, .int .i64 0, .int .i64 0, .int .i64 0, .slice none 0 0] 24 (0, 0)) (by (with_reducible repeat (first | refine blk_drewN ?_ _ | refine blk_drew ?_ | refine blk_alloc ?_ _)); exact BK308.out) hg (Kd.R_ne HO_310005.out BK308.out (by decide))); have n2_ := Aside0.mk (blk_grown (g := gb309) (o := .cells #[.int .i64 (wrap64 (bt a0 0)), .int .i64 x310001_3, .int .i64 x310002_3, .int .i64 x310003_3, .int .i64 x310004_3, .slice (some ⟨go66, 0, none⟩) x310005_3.length co66] 24 (0, 0)) (by (with_reducible repeat (first | refine blk_drewN ?_ _ | refine blk_drew ?_ | refine blk_alloc ?_ _)); exact BK309.out) hg (Kd.R_ne HO_310005.out BK309.out (by decide))); have n3_ := Aside0.mk ((by rw [hw]; exact below_set (HB.out) GB66.out : Below w.heap.size w w70)); clear HO_310005; clear BK308; clear BK309; clear HB; have HO_310005 := n0_; have BK308 := n1_; have BK309 := n2_; have HB := n3_; clear n0_ n1_ n2_ n3_; clear hg hw hp_; have hcz71_0 : w70.cell? ⟨gb309, 0, none⟩ = some (.int .i64 (wrap64 (bt a0 0))) := (blk_cell BK309.out 0).trans rfl; have hcz71_1 : w70.cell? ⟨gb309, 1, none⟩ = some (.int .i64 x310001_3) := (blk_cell BK309.out 1).trans rfl; have hcz71_2 : w70.cell? ⟨gb309, 2, none⟩ = some (.int .i64 x310002_3) := (blk_cell BK309.out 2).trans rfl; have hcz71_3 : w70.cell? ⟨gb309, 3, none⟩ = some (.int .i64 x310003_3) := (blk_cell BK309.out 3).trans rfl; have hcz71_4 : w70.cell? ⟨gb309, 4, none⟩ = some (.int .i64 x310004_3) := (blk_cell BK309.out 4).trans rfl; have hcz71_5 : w70.cell? ⟨gb309, 5, none⟩ = some (.slice (some ⟨go66, 0, none⟩) x310005_3.length co66) := (blk_cell BK309.out 5).trans rfl; have hfz71_0 := blk_frozen BK309.out 0; have hfz71_1 := blk_frozen BK309.out 1; have hfz71_2 := blk_frozen BK309.out 2; have hfz71_3 := blk_frozen BK309.out 3; have hfz71_4 := blk_frozen BK309.out 4; have hfz71_5 := blk_frozen BK309.out 5; have hcz72_0 : w70.cell? ⟨gb308, 0, none⟩ = some (.int .i64 0) := (blk_cell BK308.out 0).trans rfl; have hcz72_1 : w70.cell? ⟨gb308, 1, none⟩ = some (.int .i64 0) := (blk_cell BK308.out 1).trans rfl; have hcz72_2 : w70.cell? ⟨gb308, 2, none⟩ = some (.int .i64 0) := (blk_cell BK308.out 2).trans rfl; have hcz72_3 : w70.cell? ⟨gb308, 3, none⟩ = some (.int .i64 0) := (blk_cell BK308.out 3).trans rfl; have hcz72_4 : w70.cell? ⟨gb308, 4, none⟩ = some (.int .i64 0) := (blk_cell BK308.out 4).trans rfl; have hcz72_5 : w70.cell? ⟨gb308, 5, none⟩ = some (.slice none 0 0) := (blk_cell BK308.out 5).trans rfl; have hfz72_0 := blk_frozen BK308.out 0; have hfz72_1 := blk_frozen BK308.out 1; have hfz72_2 := blk_frozen BK308.out 2; have hfz72_3 := blk_frozen BK308.out 3; have hfz72_4 := blk_frozen BK308.out 4; have hfz72_5 := blk_frozen BK308.out 5))
                refine bodyPost_ret (results_ct rfl _ _ gb308 24 #[.int .i64 (wrap64 (bt a0 0)), .int .i64 x310001_3, .int .i64 x310002_3, .int .i64 x310003_3, .int .i64 x310004_3, .slice (some ⟨go66, 0, none⟩) x310005_3.length co66] (0, 0) _ rfl (by (with_reducible repeat (first | refine blk_drewN ?_ _ | refine blk_drew ?_ | refine blk_alloc ?_ _)); refine blk_put (cs := #[.int .i64 (wrap64 (bt a0 0)), .int .i64 x310001_3, .int .i64 x310002_3, .int .i64 x310003_3, .int .i64 x310004_3, .slice none 0 0]) ?_ 5 _ rfl; (with_reducible repeat (first | refine blk_drewN ?_ _ | refine blk_drew ?_ | refine blk_alloc ?_ _)); refine blk_put (cs := #[.int .i64 (wrap64 (bt a0 0)), .int .i64 x310001_3, .int .i64 x310002_3, .int .i64 x310003_3, .int .i64 0, .slice none 0 0]) ?_ 4 _ rfl; (with_reducible repeat (first | refine blk_drewN ?_ _ | refine blk_drew ?_ | refine blk_alloc ?_ _)); refine blk_put (cs := #[.int .i64 (wrap64 (bt a0 0)), .int .i64 x310001_3, .int .i64 x310002_3, .int .i64 0, .int .i64 0, .slice none 0 0]) ?_ 3 _ rfl; (with_reducible repeat (first | refine blk_drewN ?_ _ | refine blk_drew ?_ | refine blk_alloc ?_ _)); refine blk_put (cs := #[.int .i64 (wrap64 (bt a0 0)), .int .i64 x310001_3, .int .i64 0, .int .i64 0, .int .i64 0, .slice none 0 0]) ?_ 2 _ rfl; (with_reducible repeat (first | refine blk_drewN ?_ _ | refine blk_drew ?_ | refine blk_alloc ?_ _)); refine blk_put (cs := #[.int .i64 (wrap64 (bt a0 0)), .int .i64 0, .int .i64 0, .int .i64 0, .int .i64 0, .slice none 0 0]) ?_ 1 _ rfl; (with_reducible repeat (first | refine blk_drewN ?_ _ | refine blk_drew ?_ | refine blk_alloc ?_ _)); refine blk_put (cs := #[.int .i64 0, .int .i64 0, .int .i64 0, .int .i64 0, .int .i64 0, .slice none 0 0]) ?_ 0 _ rfl; (with_reducible repeat (first | refine blk_drewN ?_ _ | refine blk_drew ?_ | refine blk_alloc ?_ _)); exact BK308.out) Try.underlying24 rfl (by kernel_rfl)) rfl ?_
                exact ⟨_, by first | rfl | (simp [errW_none, errW_some] <;> rfl) | (simp [*, errW_none, errW_some] <;> rfl), by (with_reducible repeat (first | apply Kd.R_alloc | apply Kd.R_drewN | apply Kd.R_drew)); exact Kd.R_mono (Kd.R_far (p := ⟨gb308, 5, none⟩) (Kd.R_far (p := ⟨gb308, 4, none⟩) (Kd.R_far (p := ⟨gb308, 3, none⟩) (Kd.R_far (p := ⟨gb308, 2, none⟩) (Kd.R_far (p := ⟨gb308, 1, none⟩) (Kd.R_far (p := ⟨gb308, 0, none⟩) (Kd.R_types HO_310005.out BK308.out (by decide)) (fun _ hk => hk.2) (.int .i64 (wrap64 (bt a0 0)))) (fun _ hk => hk.2) (.int .i64 x310001_3)) (fun _ hk => hk.2) (.int .i64 x310002_3)) (fun _ hk => hk.2) (.int .i64 x310003_3)) (fun _ hk => hk.2) (.int .i64 x310004_3)) (fun _ hk => hk.2) (.slice (some ⟨go66, 0, none⟩) x310005_3.length co66)) (fun _ hk => trivial), by repeat (first | (with_reducible first | exact HB.out | apply below_alloc | apply pw_below_drewN | apply below_drew1 | refine below_set ?_ GE308.out | refine below_set ?_ GE309.out) | exact HB.out)⟩
              · rw [if_neg c65] at H
                exact absurd H (by simp)
            · replace c64 := Bool.eq_false_iff.mpr c64
              subst c64
              have H1 : (if (wrap64 (bt a0 0)) = 5 then (if 0 < (x310005_3.length : Int) then (if (rd x310005_3 0) = 0 then (some ((wrap64 (bt a0 0)), x310001_3, x310002_3, x310003_3, x310004_3, x310005_3, x6_3)) else (some ((wrap64 (bt a0 0)), x310001_3, x310002_3, x310003_3, x310004_3, x310005_3, false))) else (none)) else (some ((wrap64 (bt a0 0)), x310001_3, x310002_3, x310003_3, x310004_3, x310005_3, x6_3))) = some (r1, r2, r3, r4, r5, r6, r7) := by rw [if_neg (show ¬ (false = true) by decide)] at H; exact H
              clear H
              have H := H1
              clear H1
              by_cases c73 : (wrap64 (bt a0 0)) = 5
              · rw [if_pos c73] at H
                have c73b0 : ((wrap64 (bt a0 0)) == 5) = true := beq_iff_eq.mpr c73
                have c73b1 : ((wrap64 (bt a0 0)) != 5) = false := bne_eq_false_iff_eq.mpr c73
                clear c73
                by_cases c74 : 0 < (x310005_3.length : Int)
                · rw [if_pos c74] at H
                  have c74b0 : decide (0 < (x310005_3.length : Int)) = true := decide_eq_true c74
                  have c74b1 : decide (0 < x310005_3.length) = true := decide_eq_true (by omega)
                  clear c74
                  by_cases c75 : (rd x310005_3 0) = 0
                  · rw [if_pos c75] at H
                    have c75b0 : ((rd x310005_3 0) == 0) = true := beq_iff_eq.mpr c75
                    have c75b1 : ((rd x310005_3 0) != 0) = false := bne_eq_false_iff_eq.mpr c75
                    clear c75
                    simp only [Option.some.injEq, Prod.mk.injEq] at H
                    obtain ⟨rfl, rfl, rfl, rfl, rfl, rfl, rfl⟩ := H
                    have hnb76 := NB309_308.out
                    have hnc76 := NB308_309.out
                    have hcz77_0 : wc.cell? ⟨gb309, 0, none⟩ = some (.int .i64 (wrap64 (bt a0 0))) := (blk_cell BK309.out 0).trans rfl
                    have hcz77_1 : wc.cell? ⟨gb309, 1, none⟩ = some (.int .i64 x310001_3) := (blk_cell BK309.out 1).trans rfl
                    have hcz77_2 : wc.cell? ⟨gb309, 2, none⟩ = some (.int .i64 x310002_3) := (blk_cell BK309.out 2).trans rfl
                    have hcz77_3 : wc.cell? ⟨gb309, 3, none⟩ = some (.int .i64 x310003_3) := (blk_cell BK309.out 3).trans rfl
                    have hcz77_4 : wc.cell? ⟨gb309, 4, none⟩ = some (.int .i64 x310004_3) := (blk_cell BK309.out 4).trans rfl
                    have hcz77_5 : wc.cell? ⟨gb309, 5, none⟩ = some (u310005) := (blk_cell BK309.out 5).trans rfl
                    have hfz77_0 := blk_frozen BK309.out 0
                    have hfz77_1 := blk_frozen BK309.out 1
                    have hfz77_2 := blk_frozen BK309.out 2
                    have hfz77_3 := blk_frozen BK309.out 3
                    have hfz77_4 := blk_frozen BK309.out 4
                    have hfz77_5 := blk_frozen BK309.out 5
                    obtain ⟨Ao78, co78, eo78⟩ := Kd.R_slice HO_310005.out
                    subst eo78
                    have p339 : 0 ≤ (0 : Int) := (by omega)
                    have q339 : 0 < (x310005_3.length : Int) := of_decide_eq_true (by first | (with_reducible assumption) | assumption)
                    obtain ⟨ad339, e339, hx339_0⟩ := Kd.at_int (Kd.R_reads' HO_310005.out).2.2 0 p339 q339
                    cases e339
                    have qi339 : (0 < x310005_3.length) = True := eq_true (by omega)
                    (try rw [show ((0 : Int)).toNat = 0 from rfl] at hx339_0)
                    (try rw [Addr.add_zero'] at hx339_0)
                    replace p339 := eq_true p339
                    replace q339 := eq_true q339
                    have hcz79_0 : wc.cell? ⟨gb308, 0, none⟩ = some (.int .i64 0) := (blk_cell BK308.out 0).trans rfl
                    have hcz79_1 : wc.cell? ⟨gb308, 1, none⟩ = some (.int .i64 0) := (blk_cell BK308.out 1).trans rfl
                    have hcz79_2 : wc.cell? ⟨gb308, 2, none⟩ = some (.int .i64 0) := (blk_cell BK308.out 2).trans rfl
                    have hcz79_3 : wc.cell? ⟨gb308, 3, none⟩ = some (.int .i64 0) := (blk_cell BK308.out 3).trans rfl
                    have hcz79_4 : wc.cell? ⟨gb308, 4, none⟩ = some (.int .i64 0) := (blk_cell BK308.out 4).trans rfl
                    have hcz79_5 : wc.cell? ⟨gb308, 5, none⟩ = some (.slice none 0 0) := (blk_cell BK308.out 5).trans rfl
                    have hfz79_0 := blk_frozen BK308.out 0
                    have hfz79_1 := blk_frozen BK308.out 1
                    have hfz79_2 := blk_frozen BK308.out 2
                    have hfz79_3 := blk_frozen BK308.out 3
                    have hfz79_4 := blk_frozen BK308.out 4
                    have hfz79_5 := blk_frozen BK308.out 5
                    go_wp2
                    refine bodyPost_ret (results_ct rfl _ _ gb308 24 #[.int .i64 (wrap64 (bt a0 0)), .int .i64 x310001_3, .int .i64 x310002_3, .int .i64 x310003_3, .int .i64 x310004_3, .slice (some ad339) x310005_3.length co78] (0, 0) _ rfl (by (with_reducible repeat (first | refine blk_drewN ?_ _ | refine blk_drew ?_ | refine blk_alloc ?_ _)); refine blk_put (cs := #[.int .i64 (wrap64 (bt a0 0)), .int .i64 x310001_3, .int .i64 x310002_3, .int .i64 x310003_3, .int .i64 x310004_3, .slice none 0 0]) ?_ 5 _ rfl; (with_reducible repeat (first | refine blk_drewN ?_ _ | refine blk_drew ?_ | refine blk_alloc ?_ _)); refine blk_put (cs := #[.int .i64 (wrap64 (bt a0 0)), .int .i64 x310001_3, .int .i64 x310002_3, .int .i64 x310003_3, .int .i64 0, .slice none 0 0]) ?_ 4 _ rfl; (with_reducible repeat (first | refine blk_drewN ?_ _ | refine blk_drew ?_ | refine blk_alloc ?_ _)); refine blk_put (cs := #[.int .i64 (wrap64 (bt a0 0)), .int .i64 x310001_3, .int .i64 x310002_3, .int .i64 0, .int .i64 0, .slice none 0 0]) ?_ 3 _ rfl; (with_reducible repeat (first | refine blk_drewN ?_ _ | refine blk_drew ?_ | refine blk_alloc ?_ _)); refine blk_put (cs := #[.int .i64 (wrap64 (bt a0 0)), .int .i64 x310001_3, .int .i64 0, .int .i64 0, .int .i64 0, .slice none 0 0]) ?_ 2 _ rfl; (with_reducible repeat (first | refine blk_drewN ?_ _ | refine blk_drew ?_ | refine blk_alloc ?_ _)); refine blk_put (cs := #[.int .i64 (wrap64 (bt a0 0)), .int .i64 0, .int .i64 0, .int .i64 0, .int .i64 0, .slice none 0 0]) ?_ 1 _ rfl; (with_reducible repeat (first | refine blk_drewN ?_ _ | refine blk_drew ?_ | refine blk_alloc ?_ _)); refine blk_put (cs := #[.int .i64 0, .int .i64 0, .int .i64 0, .int .i64 0, .int .i64 0, .slice none 0 0]) ?_ 0 _ rfl; (with_reducible repeat (first | refine blk_drewN ?_ _ | refine blk_drew ?_ | refine blk_alloc ?_ _)); exact BK308.out) Try.underlying24 rfl (by kernel_rfl)) rfl ?_
                    exact ⟨_, by first | rfl | (simp [errW_none, errW_some] <;> rfl) | (simp [*, errW_none, errW_some] <;> rfl), by (with_reducible repeat (first | apply Kd.R_alloc | apply Kd.R_drewN | apply Kd.R_drew)); exact Kd.R_mono (Kd.R_far (p := ⟨gb308, 5, none⟩) (Kd.R_far (p := ⟨gb308, 4, none⟩) (Kd.R_far (p := ⟨gb308, 3, none⟩) (Kd.R_far (p := ⟨gb308, 2, none⟩) (Kd.R_far (p := ⟨gb308, 1, none⟩) (Kd.R_far (p := ⟨gb308, 0, none⟩) (Kd.R_types HO_310005.out BK308.out (by decide)) (fun _ hk => hk.2) (.int .i64 (wrap64 (bt a0 0)))) (fun _ hk => hk.2) (.int .i64 x310001_3)) (fun _ hk => hk.2) (.int .i64 x310002_3)) (fun _ hk => hk.2) (.int .i64 x310003_3)) (fun _ hk => hk.2) (.int .i64 x310004_3)) (fun _ hk => hk.2) (.slice (some ad339) x310005_3.length co78)) (fun _ hk => trivial), by repeat (first | (with_reducible first | exact HB.out | apply below_alloc | apply pw_below_drewN | apply below_drew1 | refine below_set ?_ GE308.out | refine below_set ?_ GE309.out) | exact HB.out)⟩
                  · rw [if_neg c75] at H
                    have c75b0 : ((rd x310005_3 0) == 0) = false := beq_eq_false_iff_ne.mpr c75
                    have c75b1 : ((rd x310005_3 0) != 0) = true := bne_iff_ne.mpr c75
                    simp only [Option.some.injEq, Prod.mk.injEq] at H
                    obtain ⟨rfl, rfl, rfl, rfl, rfl, rfl, rfl⟩ := H
                    have hnb80 := NB309_308.out
                    have hnc80 := NB308_309.out
                    have hcz81_0 : wc.cell? ⟨gb309, 0, none⟩ = some (.int .i64 (wrap64 (bt a0 0))) := (blk_cell BK309.out 0).trans rfl
                    have hcz81_1 : wc.cell? ⟨gb309, 1, none⟩ = some (.int .i64 x310001_3) := (blk_cell BK309.out 1).trans rfl
                    have hcz81_2 : wc.cell? ⟨gb309, 2, none⟩ = some (.int .i64 x310002_3) := (blk_cell BK309.out 2).trans rfl
                    have hcz81_3 : wc.cell? ⟨gb309, 3, none⟩ = some (.int .i64 x310003_3) := (blk_cell BK309.out 3).trans rfl
                    have hcz81_4 : wc.cell? ⟨gb309, 4, none⟩ = some (.int .i64 x310004_3) := (blk_cell BK309.out 4).trans rfl
                    have hcz81_5 : wc.cell? ⟨gb309, 5, none⟩ = some (u310005) := (blk_cell BK309.out 5).trans rfl
                    have hfz81_0 := blk_frozen BK309.out 0
                    have hfz81_1 := blk_frozen BK309.out 1
                    have hfz81_2 := blk_frozen BK309.out 2
                    have hfz81_3 := blk_frozen BK309.out 3
                    have hfz81_4 := blk_frozen BK309.out 4
                    have hfz81_5 := blk_frozen BK309.out 5
                    obtain ⟨Ao82, co82, eo82⟩ := Kd.R_slice HO_310005.out
                    subst eo82
                    have p339 : 0 ≤ (0 : Int) := (by omega)
                    have q339 : 0 < (x310005_3.length : Int) := of_decide_eq_true (by first | (with_reducible assumption) | assumption)
                    obtain ⟨ad339, e339, hx339_0⟩ := Kd.at_int (Kd.R_reads' HO_310005.out).2.2 0 p339 q339
                    cases e339
                    have qi339 : (0 < x310005_3.length) = True := eq_true (by omega)
                    (try rw [show ((0 : Int)).toNat = 0 from rfl] at hx339_0)
                    (try rw [Addr.add_zero'] at hx339_0)
                    replace p339 := eq_true p339
                    replace q339 := eq_true q339
                    have hcz83_0 : wc.cell? ⟨gb308, 0, none⟩ = some (.int .i64 0) := (blk_cell BK308.out 0).trans rfl
                    have hcz83_1 : wc.cell? ⟨gb308, 1, none⟩ = some (.int .i64 0) := (blk_cell BK308.out 1).trans rfl
                    have hcz83_2 : wc.cell? ⟨gb308, 2, none⟩ = some (.int .i64 0) := (blk_cell BK308.out 2).trans rfl
                    have hcz83_3 : wc.cell? ⟨gb308, 3, none⟩ = some (.int .i64 0) := (blk_cell BK308.out 3).trans rfl
                    have hcz83_4 : wc.cell? ⟨gb308, 4, none⟩ = some (.int .i64 0) := (blk_cell BK308.out 4).trans rfl
                    have hcz83_5 : wc.cell? ⟨gb308, 5, none⟩ = some (.slice none 0 0) := (blk_cell BK308.out 5).trans rfl
                    have hfz83_0 := blk_frozen BK308.out 0
                    have hfz83_1 := blk_frozen BK308.out 1
                    have hfz83_2 := blk_frozen BK308.out 2
                    have hfz83_3 := blk_frozen BK308.out 3
                    have hfz83_4 := blk_frozen BK308.out 4
                    have hfz83_5 := blk_frozen BK308.out 5
                    go_wp2
                    refine bodyPost_ret (results_ct rfl _ _ gb308 24 #[.int .i64 (wrap64 (bt a0 0)), .int .i64 x310001_3, .int .i64 x310002_3, .int .i64 x310003_3, .int .i64 x310004_3, .slice (some ad339) x310005_3.length co82] (0, 0) _ rfl (by (with_reducible repeat (first | refine blk_drewN ?_ _ | refine blk_drew ?_ | refine blk_alloc ?_ _)); refine blk_put (cs := #[.int .i64 (wrap64 (bt a0 0)), .int .i64 x310001_3, .int .i64 x310002_3, .int .i64 x310003_3, .int .i64 x310004_3, .slice none 0 0]) ?_ 5 _ rfl; (with_reducible repeat (first | refine blk_drewN ?_ _ | refine blk_drew ?_ | refine blk_alloc ?_ _)); refine blk_put (cs := #[.int .i64 (wrap64 (bt a0 0)), .int .i64 x310001_3, .int .i64 x310002_3, .int .i64 x310003_3, .int .i64 0, .slice none 0 0]) ?_ 4 _ rfl; (with_reducible repeat (first | refine blk_drewN ?_ _ | refine blk_drew ?_ | refine blk_alloc ?_ _)); refine blk_put (cs := #[.int .i64 (wrap64 (bt a0 0)), .int .i64 x310001_3, .int .i64 x310002_3, .int .i64 0, .int .i64 0, .slice none 0 0]) ?_ 3 _ rfl; (with_reducible repeat (first | refine blk_drewN ?_ _ | refine blk_drew ?_ | refine blk_alloc ?_ _)); refine blk_put (cs := #[.int .i64 (wrap64 (bt a0 0)), .int .i64 x310001_3, .int .i64 0, .int .i64 0, .int .i64 0, .slice none 0 0]) ?_ 2 _ rfl; (with_reducible repeat (first | refine blk_drewN ?_ _ | refine blk_drew ?_ | refine blk_alloc ?_ _)); refine blk_put (cs := #[.int .i64 (wrap64 (bt a0 0)), .int .i64 0, .int .i64 0, .int .i64 0, .int .i64 0, .slice none 0 0]) ?_ 1 _ rfl; (with_reducible repeat (first | refine blk_drewN ?_ _ | refine blk_drew ?_ | refine blk_alloc ?_ _)); refine blk_put (cs := #[.int .i64 0, .int .i64 0, .int .i64 0, .int .i64 0, .int .i64 0, .slice none 0 0]) ?_ 0 _ rfl; (with_reducible repeat (first | refine blk_drewN ?_ _ | refine blk_drew ?_ | refine blk_alloc ?_ _)); exact BK308.out) Try.underlying24 rfl (by kernel_rfl)) rfl ?_
                    exact ⟨_, by first | rfl | (simp [errW_none, errW_some] <;> rfl) | (simp [*, errW_none, errW_some] <;> rfl), by (with_reducible repeat (first | apply Kd.R_alloc | apply Kd.R_drewN | apply Kd.R_drew)); exact Kd.R_mono (Kd.R_far (p := ⟨gb308, 5, none⟩) (Kd.R_far (p := ⟨gb308, 4, none⟩) (Kd.R_far (p := ⟨gb308, 3, none⟩) (Kd.R_far (p := ⟨gb308, 2, none⟩) (Kd.R_far (p := ⟨gb308, 1, none⟩) (Kd.R_far (p := ⟨gb308, 0, none⟩) (Kd.R_types HO_310005.out BK308.out (by decide)) (fun _ hk => hk.2) (.int .i64 (wrap64 (bt a0 0)))) (fun _ hk => hk.2) (.int .i64 x310001_3)) (fun _ hk => hk.2) (.int .i64 x310002_3)) (fun _ hk => hk.2) (.int .i64 x310003_3)) (fun _ hk => hk.2) (.int .i64 x310004_3)) (fun _ hk => hk.2) (.slice (some ad339) x310005_3.length co82)) (fun _ hk => trivial), by repeat (first | (with_reducible first | exact HB.out | apply below_alloc | apply pw_below_drewN | apply below_drew1 | refine below_set ?_ GE308.out | refine below_set ?_ GE309.out) | exact HB.out)⟩
                · rw [if_neg c74] at H
                  exact absurd H (by simp)
              · rw [if_neg c73] at H
                have c73b0 : ((wrap64 (bt a0 0)) == 5) = false := beq_eq_false_iff_ne.mpr c73
                have c73b1 : ((wrap64 (bt a0 0)) != 5) = true := bne_iff_ne.mpr c73
                simp only [Option.some.injEq, Prod.mk.injEq] at H
                obtain ⟨rfl, rfl, rfl, rfl, rfl, rfl, rfl⟩ := H
                have hnb84 := NB309_308.out
                have hnc84 := NB308_309.out
                have hcz85_0 : wc.cell? ⟨gb309, 0, none⟩ = some (.int .i64 (wrap64 (bt a0 0))) := (blk_cell BK309.out 0).trans rfl
                have hcz85_1 : wc.cell? ⟨gb309, 1, none⟩ = some (.int .i64 x310001_3) := (blk_cell BK309.out 1).trans rfl
                have hcz85_2 : wc.cell? ⟨gb309, 2, none⟩ = some (.int .i64 x310002_3) := (blk_cell BK309.out 2).trans rfl
                have hcz85_3 : wc.cell? ⟨gb309, 3, none⟩ = some (.int .i64 x310003_3) := (blk_cell BK309.out 3).trans rfl
                have hcz85_4 : wc.cell? ⟨gb309, 4, none⟩ = some (.int .i64 x310004_3) := (blk_cell BK309.out 4).trans rfl
                have hcz85_5 : wc.cell? ⟨gb309, 5, none⟩ = some (u310005) := (blk_cell BK309.out 5).trans rfl
                have hfz85_0 := blk_frozen BK309.out 0
                have hfz85_1 := blk_frozen BK309.out 1
                have hfz85_2 := blk_frozen BK309.out 2
                have hfz85_3 := blk_frozen BK309.out 3
                have hfz85_4 := blk_frozen BK309.out 4
                have hfz85_5 := blk_frozen BK309.out 5
                have hcz86_0 : wc.cell? ⟨gb308, 0, none⟩ = some (.int .i64 0) := (blk_cell BK308.out 0).trans rfl
                have hcz86_1 : wc.cell? ⟨gb308, 1, none⟩ = some (.int .i64 0) := (blk_cell BK308.out 1).trans rfl
                have hcz86_2 : wc.cell? ⟨gb308, 2, none⟩ = some (.int .i64 0) := (blk_cell BK308.out 2).trans rfl
                have hcz86_3 : wc.cell? ⟨gb308, 3, none⟩ = some (.int .i64 0) := (blk_cell BK308.out 3).trans rfl
                have hcz86_4 : wc.cell? ⟨gb308, 4, none⟩ = some (.int .i64 0) := (blk_cell BK308.out 4).trans rfl
                have hcz86_5 : wc.cell? ⟨gb308, 5, none⟩ = some (.slice none 0 0) := (blk_cell BK308.out 5).trans rfl
                have hfz86_0 := blk_frozen BK308.out 0
                have hfz86_1 := blk_frozen BK308.out 1
                have hfz86_2 := blk_frozen BK308.out 2
                have hfz86_3 := blk_frozen BK308.out 3
                have hfz86_4 := blk_frozen BK308.out 4
                have hfz86_5 := blk_frozen BK308.out 5
                obtain ⟨Ao87, co87, eo87⟩ := Kd.R_slice HO_310005.out
                subst eo87
                go_wp2
                refine bodyPost_ret (results_ct rfl _ _ gb308 24 #[.int .i64 (wrap64 (bt a0 0)), .int .i64 x310001_3, .int .i64 x310002_3, .int .i64 x310003_3, .int .i64 x310004_3, .slice Ao87 x310005_3.length co87] (0, 0) _ rfl (by (with_reducible repeat (first | refine blk_drewN ?_ _ | refine blk_drew ?_ | refine blk_alloc ?_ _)); refine blk_put (cs := #[.int .i64 (wrap64 (bt a0 0)), .int .i64 x310001_3, .int .i64 x310002_3, .int .i64 x310003_3, .int .i64 x310004_3, .slice none 0 0]) ?_ 5 _ rfl; (with_reducible repeat (first | refine blk_drewN ?_ _ | refine blk_drew ?_ | refine blk_alloc ?_ _)); refine blk_put (cs := #[.int .i64 (wrap64 (bt a0 0)), .int .i64 x310001_3, .int .i64 x310002_3, .int .i64 x310003_3, .int .i64 0, .slice none 0 0]) ?_ 4 _ rfl; (with_reducible repeat (first | refine blk_drewN ?_ _ | refine blk_drew ?_ | refine blk_alloc ?_ _)); refine blk_put (cs := #[.int .i64 (wrap64 (bt a0 0)), .int .i64 x310001_3, .int .i64 x310002_3, .int .i64 0, .int .i64 0, .slice none 0 0]) ?_ 3 _ rfl; (with_reducible repeat (first | refine blk_drewN ?_ _ | refine blk_drew ?_ | refine blk_alloc ?_ _)); refine blk_put (cs := #[.int .i64 (wrap64 (bt a0 0)), .int .i64 x310001_3, .int .i64 0, .int .i64 0, .int .i64 0, .slice none 0 0]) ?_ 2 _ rfl; (with_reducible repeat (first | refine blk_drewN ?_ _ | refine blk_drew ?_ | refine blk_alloc ?_ _)); refine blk_put (cs := #[.int .i64 (wrap64 (bt a0 0)), .int .i64 0, .int .i64 0, .int .i64 0, .int .i64 0, .slice none 0 0]) ?_ 1 _ rfl; (with_reducible repeat (first | refine blk_drewN ?_ _ | refine blk_drew ?_ | refine blk_alloc ?_ _)); refine blk_put (cs := #[.int .i64 0, .int .i64 0, .int .i64 0, .int .i64 0, .int .i64 0, .slice none 0 0]) ?_ 0 _ rfl; (with_reducible repeat (first | refine blk_drewN ?_ _ | refine blk_drew ?_ | refine blk_alloc ?_ _)); exact BK308.out) Try.underlying24 rfl (by kernel_rfl)) rfl ?_
                exact ⟨_, by first | rfl | (simp [errW_none, errW_some] <;> rfl) | (simp [*, errW_none, errW_some] <;> rfl), by (with_reducible repeat (first | apply Kd.R_alloc | apply Kd.R_drewN | apply Kd.R_drew)); exact Kd.R_mono (Kd.R_far (p := ⟨gb308, 5, none⟩) (Kd.R_far (p := ⟨gb308, 4, none⟩) (Kd.R_far (p := ⟨gb308, 3, none⟩) (Kd.R_far (p := ⟨gb308, 2, none⟩) (Kd.R_far (p := ⟨gb308, 1, none⟩) (Kd.R_far (p := ⟨gb308, 0, none⟩) (Kd.R_types HO_310005.out BK308.out (by decide)) (fun _ hk => hk.2) (.int .i64 (wrap64 (bt a0 0)))) (fun _ hk => hk.2) (.int .i64 x310001_3)) (fun _ hk => hk.2) (.int .i64 x310002_3)) (fun _ hk => hk.2) (.int .i64 x310003_3)) (fun _ hk => hk.2) (.int .i64 x310004_3)) (fun _ hk => hk.2) (.slice Ao87 x310005_3.length co87)) (fun _ hk => trivial), by repeat (first | (with_reducible first | exact HB.out | apply below_alloc | apply pw_below_drewN | apply below_drew1 | refine below_set ?_ GE308.out | refine below_set ?_ GE309.out) | exact HB.out)⟩
  · rw [if_neg c2] at H
    exact absurd H (by simp)

end Go.Proofs.Ytinoabkfekomcaa.PAskSizes
