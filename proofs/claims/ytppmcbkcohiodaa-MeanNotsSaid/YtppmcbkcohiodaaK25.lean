/- Texts of this claim, put together (wip/pack.py): MeanRefFirst. -/
import Derived.Test.YtppmcbkcohiodaaK15
namespace Go.Proofs.Ytppmcbkcohiodaa.PMeanTells
open Go.RowKit Go.Proofs.YtppmcbkcohiodaaW.PrintWords Go.Proofs.YtppmcbkcohiodaaW.PrintLast Go.Proofs.YtppmcbkcohiodaaW.PrintMore
attribute [local go_sem] max2_int min2_int max_two min_two max_three min_three max_four min_four   -- for this text's walks alone
set_option linter.unusedVariables false
set_option linter.unusedSimpArgs false

/-! ### gatewardenref15_First: function 17 -/
def gatewardenref15_First.l0 : Nat → List (S39) → Int → Int → Int → Int → List (S55) → List Int → List Int → Option (Int)
 | 0, _, _, _, _, _, _, _, _ => none
 | k + 1, x0, x5, x136000, x136001, x136002, x136003, x136004, x136005 => if x5 < (x0.length : Int) then (if 0 ≤ x5 then ((gatewardenref15_Holds.f k ((rd_T39 x0 x5).f1.f0) ((rd_T39 x0 x5).f1.f1) ((rd_T39 x0 x5).f1.f2) ((rd_T39 x0 x5).f1.f3) ((rd_T39 x0 x5).f1.f4) ((rd_T39 x0 x5).f1.f5) x136000 x136001 x136002 x136003 x136004 x136005).bind fun t137 => (if t137 = true then (some x5) else (gatewardenref15_First.l0 k x0 (wrap64 (x5 + 1)) x136000 x136001 x136002 x136003 x136004 x136005))) else (none)) else (some (-1))
def gatewardenref15_First.f (k : Nat) (l0 : List (S39)) (a1_0 : Int) (a1_1 : Int) (a1_2 : Int) (l1_3 : List (S55)) (l1_4 : List Int) (l1_5 : List Int) : Option (Int) := gatewardenref15_First.l0 k l0 0 a1_0 a1_1 a1_2 l1_3 l1_4 l1_5
theorem gatewardenref15_First.mono_l : ∀ k, (∀ y0 y1 y2 y3 y4 y5 y6 y7, LeO (gatewardenref15_First.l0 k y0 y1 y2 y3 y4 y5 y6 y7) (gatewardenref15_First.l0 (k + 1) y0 y1 y2 y3 y4 y5 y6 y7))
 | 0 => fun _ _ _ _ _ _ _ _ r h => by simp [gatewardenref15_First.l0] at h
 | k + 1 => by
  have ih0 := gatewardenref15_First.mono_l k
  ·intro y0 y1 y2 y3 y4 y5 y6 y7
   unfold gatewardenref15_First.l0
   repeat' first
   | (with_reducible exact ih0 _ _ _ _ _ _ _ _)
   | (with_reducible exact gatewardenref15_Holds.mono _ _ _ _ _ _ _ _ _ _ _ _ _)
   | (with_reducible exact LeO.refl _)
   | (with_reducible exact LeO.none _)
   | (with_reducible refine LeO.ite ?_ ?_)
   | (with_reducible refine LeO.bind ?_ (fun _ => ?_))
   | exact ih0 _ _ _ _ _ _ _ _
   | exact gatewardenref15_Holds.mono _ _ _ _ _ _ _ _ _ _ _ _ _
   | exact LeO.none _
   | refine LeO.ite ?_ ?_
   | refine LeO.bind ?_ (fun _ => ?_)
theorem gatewardenref15_First.mono : ∀ a0 a1 a2 a3 a4 a5 a6 k, LeO (gatewardenref15_First.f k a0 a1 a2 a3 a4 a5 a6) (gatewardenref15_First.f (k + 1) a0 a1 a2 a3 a4 a5 a6) := by
 intro a0 a1 a2 a3 a4 a5 a6 k
 have ih0 := gatewardenref15_First.mono_l k
 unfold gatewardenref15_First.f
 repeat' first
   | (with_reducible exact ih0 _ _ _ _ _ _ _ _)
   | (with_reducible exact gatewardenref15_Holds.mono _ _ _ _ _ _ _ _ _ _ _ _ _)
   | (with_reducible exact LeO.refl _)
   | (with_reducible exact LeO.none _)
   | (with_reducible refine LeO.ite ?_ ?_)
   | (with_reducible refine LeO.bind ?_ (fun _ => ?_))
   | exact ih0 _ _ _ _ _ _ _ _
   | exact gatewardenref15_Holds.mono _ _ _ _ _ _ _ _ _ _ _ _ _
   | exact LeO.none _
   | refine LeO.ite ?_ ?_
   | refine LeO.bind ?_ (fun _ => ?_)
set_option maxHeartbeats 8000000 in
set_option maxRecDepth 100000 in
theorem gatewardenref15_First.calls (k : Nat) (A0 : Option Addr) (c0 : Nat) (l0 : List (S39)) (a1_0 : Int) (a1_1 : Int) (a1_2 : Int) (A1_3 : Option Addr) (c1_3 : Nat) (l1_3 : List (S55)) (A1_4 : Option Addr) (c1_4 : Nat) (l1_4 : List Int) (A1_5 : Option Addr) (c1_5 : Nat) (l1_5 : List Int) (r : Int) (w : World) (hr0 : Kd.C k39 w A0 l0.length l0) (hc0 : l0.length ≤ c0) (hr1_3 : Kd.C k55 w A1_3 l1_3.length l1_3) (hc1_3 : l1_3.length ≤ c1_3) (hr1_4 : Kd.C (Kd.int .i64) w A1_4 l1_4.length l1_4) (hc1_4 : l1_4.length ≤ c1_4) (hr1_5 : Kd.C (Kd.int .i64) w A1_5 l1_5.length l1_5) (hc1_5 : l1_5.length ≤ c1_5) (h : gatewardenref15_First.f k l0 a1_0 a1_1 a1_2 l1_3 l1_4 l1_5 = some r) :
  Calls Try.prog 17 #[.slice A0 l0.length c0, .agg #[.int .i64 a1_0, .int .i64 a1_1, .int .i64 a1_2, .slice A1_3 l1_3.length c1_3, .slice A1_4 l1_4.length c1_4, .slice A1_5 l1_5.length c1_5]] w fun e w' => e = .returned (.int .i64 r) ∧ Below w.heap.size w w' := by
 have hu30 := Try.underlying30
 have hu26 := Try.underlying26
 have HR0 := Aside0.mk hr0
 have HC0 := Aside0.mk hc0
 clear hr0 hc0
 have HR1_3 := Aside0.mk hr1_3
 have HC1_3 := Aside0.mk hc1_3
 clear hr1_3 hc1_3
 have HR1_4 := Aside0.mk hr1_4
 have HC1_4 := Aside0.mk hc1_4
 clear hr1_4 hc1_4
 have HR1_5 := Aside0.mk hr1_5
 have HC1_5 := Aside0.mk hc1_5
 clear hr1_5 hc1_5
 have HB := Aside0.mk (Below.refl w.heap.size w)
 have H : (gatewardenref15_First.l0 k l0 0 a1_0 a1_1 a1_2 l1_3 l1_4 l1_5) = some r := h
 clear h
 have H' := Aside0.mk H
 clear H
 go_enter Try.func17, Try.ntmps17
 go_wp2_with (first | ((with_reducible refine gate_dst (N := 3) rfl ?_); refine box_event ?hg (N := 3) ?hd (cs := #[.int .i64 a1_0, .int .i64 a1_1, .int .i64 a1_2, .slice A1_3 l1_3.length c1_3, .slice A1_4 l1_4.length c1_4, .slice A1_5 l1_5.length c1_5]) (t := 30) ?hr ?_; (case hd => rfl); (case hg => rfl); (case hr => first | (go_simp; done) | (go_simp; rfl)); intro gb135 hg w3 hbox hb; have n0_ := Aside0.mk (below_step (by repeat (first | (with_reducible first | exact HB.out | apply below_alloc | apply pw_below_drewN | apply below_drew1) | exact HB.out)) hb); have n1_ := Aside0.mk (hbox); have n2_ := Aside0.mk ((by rw [hg]; exact (below_size (by repeat (first | (with_reducible first | exact HB.out | apply below_alloc | apply pw_below_drewN | apply below_drew1) | exact HB.out))) : w.heap.size ≤ gb135)); have n3_ := Aside0.mk ((by rw [hg]; exact (below_size (by repeat (first | (with_reducible first | exact HB.out | apply below_alloc | apply pw_below_drewN | apply below_drew1) | exact HB.out))) : w.heap.size ≤ gb135)); clear HB; have HB := n0_; have BK135 := n1_; have GW135 := n2_; have GE135 := n3_; clear n0_ n1_ n2_ n3_; clear hb hbox hg))
 go_loopg [5] k (fun kq v5 w' => ∃ (x5_1 : Int), v5 = .int .i64 x5_1 ∧ Aside0 (gatewardenref15_First.l0 kq l0 x5_1 a1_0 a1_1 a1_2 l1_3 l1_4 l1_5 = some r) ∧ Aside0 (kq ≤ k) ∧ Aside0 (w'.heap[gb135]? = some (.cells #[.int .i64 a1_0, .int .i64 a1_1, .int .i64 a1_2, (.slice A1_3 l1_3.length c1_3), (.slice A1_4 l1_4.length c1_4), (.slice A1_5 l1_5.length c1_5)] 30 (0, 0))) ∧ Aside0 (Below w.heap.size w w'))
 case atStart => exact ⟨(0), (by first | rfl | (simp; done) | (simp [*]; done)), H', ⟨Nat.le_refl _⟩, ⟨by (with_reducible repeat (first | refine blk_drewN ?_ _ | refine blk_drew ?_ | refine blk_alloc ?_ _)); exact BK135.out⟩, ⟨by repeat (first | (with_reducible first | exact HB.out | apply below_alloc | apply pw_below_drewN | apply below_drew1 | refine below_set ?_ GE135.out) | exact HB.out)⟩⟩
 case round =>
  clear H'
  try clear c1
  try clear p2
  obtain ⟨x5_1, rfl, HA, HK1, BK135, HB⟩ := hrel
  cases gk with
  | zero => exact absurd HA.out (by simp [gatewardenref15_First.l0])
  | succ k1 =>
   have H := HA.out
   clear HA
   simp only [gatewardenref15_First.l0] at H
   by_cases c4 : x5_1 < (l0.length : Int)
   ·rw [if_pos c4] at H
    have c4b0 : decide (x5_1 < (l0.length : Int)) = true := decide_eq_true c4
    clear c4
    by_cases c5 : 0 ≤ x5_1
    ·rw [if_pos c5] at H
     have c5b0 : decide (0 ≤ x5_1) = true := decide_eq_true c5
     clear c5
     replace H := Option.bind_eq_some_iff.mp H
     obtain ⟨t137, A60, H⟩ := H
     replace H : (if t137 = true then (some x5_1) else (gatewardenref15_First.l0 k1 l0 (wrap64 (x5_1 + 1)) a1_0 a1_1 a1_2 l1_3 l1_4 l1_5)) = some r := H
     have A6 := Aside0.mk A60
     clear A60
     by_cases c7 : t137 = true
     ·subst c7
      have H1 : (some x5_1) = some r := by rw [if_pos rfl] at H; exact H
      clear H
      have H := H1
      clear H1
      obtain rfl := Option.some.inj H
      try go_wp2
      (try (rw [drewN_self wr]; generalize hq_ : World.drewN wr _ = wr; have n0_ := Aside0.mk (blk_at hq_ BK135.out); have n1_ := Aside0.mk (below_at hq_ HB.out); clear hq_ BK135 HB; have BK135 := n0_; have HB := n1_; clear n0_ n1_))
      have n0_ := Aside0.mk (blk_drew BK135.out)
      have n1_ := Aside0.mk (below_drew1 HB.out)
      clear BK135
      clear HB
      have BK135 := n0_
      have HB := n1_
      clear n0_ n1_
      have p136 : 0 ≤ (x5_1 : Int) := of_decide_eq_true (by first | (with_reducible assumption) | assumption)
      have q136 : x5_1 < (l0.length : Int) := of_decide_eq_true (by first | (with_reducible assumption) | assumption)
      obtain ⟨ad136, A136_3, c136_3, A136_6, c136_6, e136, hx136_0, hx136_1, hx136_2, hx136_3, hx136_4, hx136_5, hx136_6, hx136_7, hx136_8, hx136_9, hx136_10, hl136_3, hi136_3, hl136_6, hi136_6⟩ := at_T39 HR0.out x5_1 p136 q136
      have hw136_10 := hx136_10
      have hw136_9 := hx136_9
      have hw136_8 := hx136_8
      have hw136_7 := hx136_7
      have hw136_6 := hx136_6
      have hw136_5 := hx136_5
      have hw136_4 := hx136_4
      have hw136_3 := hx136_3
      have hw136_2 := hx136_2
      have hw136_1 := hx136_1
      have hw136_0 := hx136_0
      cases e136
      replace hx136_0 := (HB.out.cell (World.block_lt_of_cell? w _ hx136_0)).trans hx136_0
      replace hx136_1 := (HB.out.cell (World.block_lt_of_cell? w _ hx136_1)).trans hx136_1
      replace hx136_2 := (HB.out.cell (World.block_lt_of_cell? w _ hx136_2)).trans hx136_2
      replace hx136_3 := (HB.out.cell (World.block_lt_of_cell? w _ hx136_3)).trans hx136_3
      replace hx136_4 := (HB.out.cell (World.block_lt_of_cell? w _ hx136_4)).trans hx136_4
      replace hx136_5 := (HB.out.cell (World.block_lt_of_cell? w _ hx136_5)).trans hx136_5
      replace hx136_6 := (HB.out.cell (World.block_lt_of_cell? w _ hx136_6)).trans hx136_6
      replace hx136_7 := (HB.out.cell (World.block_lt_of_cell? w _ hx136_7)).trans hx136_7
      replace hx136_8 := (HB.out.cell (World.block_lt_of_cell? w _ hx136_8)).trans hx136_8
      replace hx136_9 := (HB.out.cell (World.block_lt_of_cell? w _ hx136_9)).trans hx136_9
      replace hx136_10 := (HB.out.cell (World.block_lt_of_cell? w _ hx136_10)).trans hx136_10
      have HR136_3 := Aside0.mk hi136_3
      have HC136_3 := Aside0.mk hl136_3
      clear hi136_3 hl136_3
      have HR136_6 := Aside0.mk hi136_6
      have HC136_6 := Aside0.mk hl136_6
      clear hi136_6 hl136_6
      replace p136 := eq_true p136
      replace q136 := eq_true q136
      refine start_ (n := 7) (S := fun w' => w'.cell? ⟨gb135, 0, none⟩ = some (.int .i64 a1_0) ∧ w'.cell? ⟨gb135, 1, none⟩ = some (.int .i64 a1_1) ∧ w'.cell? ⟨gb135, 2, none⟩ = some (.int .i64 a1_2) ∧ w'.cell? ⟨gb135, 3, none⟩ = some (.slice A1_3 l1_3.length c1_3) ∧ w'.cell? ⟨gb135, 4, none⟩ = some (.slice A1_4 l1_4.length c1_4) ∧ w'.cell? ⟨gb135, 5, none⟩ = some (.slice A1_5 l1_5.length c1_5) ∧ w'.cell? (ad136.add ((x5_1).toNat * 11)) = some (.bool ((rd_T39 l0 x5_1).f0)) ∧ w'.cell? ⟨(ad136.add ((x5_1).toNat * 11)).block, (ad136.add ((x5_1).toNat * 11)).off + 1, none⟩ = some (.int .i64 ((rd_T39 l0 x5_1).f1.f0)) ∧ w'.cell? ⟨(ad136.add ((x5_1).toNat * 11)).block, (ad136.add ((x5_1).toNat * 11)).off + 2, none⟩ = some (.int .i64 ((rd_T39 l0 x5_1).f1.f1)) ∧ w'.cell? ⟨(ad136.add ((x5_1).toNat * 11)).block, (ad136.add ((x5_1).toNat * 11)).off + 3, none⟩ = some (.slice A136_3 ((rd_T39 l0 x5_1).f1.f2).length c136_3) ∧ w'.cell? ⟨(ad136.add ((x5_1).toNat * 11)).block, (ad136.add ((x5_1).toNat * 11)).off + 4, none⟩ = some (.float .f64 ((rd_T39 l0 x5_1).f1.f3)) ∧ w'.cell? ⟨(ad136.add ((x5_1).toNat * 11)).block, (ad136.add ((x5_1).toNat * 11)).off + 5, none⟩ = some (.float .f64 ((rd_T39 l0 x5_1).f1.f4)) ∧ w'.cell? ⟨(ad136.add ((x5_1).toNat * 11)).block, (ad136.add ((x5_1).toNat * 11)).off + 6, none⟩ = some (.slice A136_6 ((rd_T39 l0 x5_1).f1.f5).length c136_6) ∧ w'.cell? ⟨(ad136.add ((x5_1).toNat * 11)).block, (ad136.add ((x5_1).toNat * 11)).off + 7, none⟩ = some (.int .i64 ((rd_T39 l0 x5_1).f2.f0)) ∧ w'.cell? ⟨(ad136.add ((x5_1).toNat * 11)).block, (ad136.add ((x5_1).toNat * 11)).off + 8, none⟩ = some (.int .i64 ((rd_T39 l0 x5_1).f2.f1)) ∧ w'.cell? ⟨(ad136.add ((x5_1).toNat * 11)).block, (ad136.add ((x5_1).toNat * 11)).off + 9, none⟩ = some (.int .i64 ((rd_T39 l0 x5_1).f2.f2)) ∧ w'.cell? ⟨(ad136.add ((x5_1).toNat * 11)).block, (ad136.add ((x5_1).toNat * 11)).off + 10, none⟩ = some (.int .i64 ((rd_T39 l0 x5_1).f3))) (ds := []) #[false, false, false, false, false, false, false] (by kernel_rfl) rfl rfl ⟨(blk_cell BK135.out 0).trans rfl, (blk_cell BK135.out 1).trans rfl, (blk_cell BK135.out 2).trans rfl, (blk_cell BK135.out 3).trans rfl, (blk_cell BK135.out 4).trans rfl, (blk_cell BK135.out 5).trans rfl, ((HB.out.cell (World.block_lt_of_cell? w _ hw136_0)).trans hw136_0), ((HB.out.cell (World.block_lt_of_cell? w _ hw136_1)).trans hw136_1), ((HB.out.cell (World.block_lt_of_cell? w _ hw136_2)).trans hw136_2), ((HB.out.cell (World.block_lt_of_cell? w _ hw136_3)).trans hw136_3), ((HB.out.cell (World.block_lt_of_cell? w _ hw136_4)).trans hw136_4), ((HB.out.cell (World.block_lt_of_cell? w _ hw136_5)).trans hw136_5), ((HB.out.cell (World.block_lt_of_cell? w _ hw136_6)).trans hw136_6), ((HB.out.cell (World.block_lt_of_cell? w _ hw136_7)).trans hw136_7), ((HB.out.cell (World.block_lt_of_cell? w _ hw136_8)).trans hw136_8), ((HB.out.cell (World.block_lt_of_cell? w _ hw136_9)).trans hw136_9), ((HB.out.cell (World.block_lt_of_cell? w _ hw136_10)).trans hw136_10)⟩ (fun hHeld => ?_)
      generalize wr.drew = w8 at BK135 HB HR136_3 HR136_6 hx136_0 hx136_1 hx136_10 hx136_2 hx136_3 hx136_4 hx136_5 hx136_6 hx136_7 hx136_8 hx136_9 hHeld ⊢
      refine pure_ (i := 0) (N := some 12) (v := ?_) (a' := ?_) #[true, false, false, false, false, false, false] rfl rfl (by kernel_rfl) (fun _ _ _ h => h) (Or.inl ⟨by rfl, ?_⟩) ?_ ?_
      rotate_left
      ·intro w'
       go_simp
       with_reducible rfl
      rotate_left
      ·simp only [Act.put, List.setIfInBounds_toArray, List.set_cons_zero, List.set_cons_succ, i64_w, i32_w]
       rfl
      refine pure_ (i := 1) (N := some 13) (v := ?_) (a' := ?_) #[true, true, false, false, false, false, false] rfl rfl (by kernel_rfl) (fun _ _ _ h => h) (Or.inl ⟨by rfl, ?_⟩) ?_ ?_
      rotate_left
      ·intro w'
       go_simp
       with_reducible rfl
      rotate_left
      ·simp only [Act.put, List.setIfInBounds_toArray, List.set_cons_zero, List.set_cons_succ, i64_w, i32_w]
       rfl
      refine pure_ (i := 2) (N := some 14) (v := ?_) (a' := ?_) #[true, true, true, false, false, false, false] rfl rfl (by kernel_rfl) (fun _ _ _ h => h) (Or.inl ⟨by rfl, ?_⟩) ?_ ?_
      rotate_left
      ·intro w'
       go_simp
       with_reducible rfl
      rotate_left
      ·simp only [Act.put, List.setIfInBounds_toArray, List.set_cons_zero, List.set_cons_succ, i64_w, i32_w]
       rfl
      refine pure_ (i := 3) (N := some 15) (v := ?_) (a' := ?_) #[true, true, true, true, false, false, false] rfl rfl (by kernel_rfl) (fun _ _ _ h => h) (Or.inl ⟨by rfl, ?_⟩) ?_ ?_
      rotate_left
      ·intro w'
       go_simp
       with_reducible rfl
      rotate_left
      ·simp only [Act.put, List.setIfInBounds_toArray, List.set_cons_zero, List.set_cons_succ, i64_w, i32_w]
       rfl
      refine take_ (i := 4) (N := some 16) (v := ?_) (a' := ?_) #[true, true, true, true, true, false, false] rfl rfl (by kernel_rfl) (fun _ _ _ h => h) (Or.inl ⟨by rfl, ?_⟩) hHeld ?_ ?_
      rotate_left
      ·rintro w' ⟨s0, s1, s2, s3, s4, s5, s6, s7, s8, s9, s10, s11, s12, s13, s14, s15, s16⟩
       go_simp
       with_reducible rfl
      rotate_left
      ·simp only [Act.put, List.setIfInBounds_toArray, List.set_cons_zero, List.set_cons_succ, i64_w, i32_w]
       rfl
      refine take_ (i := 5) (N := some 17) (v := ?_) (a' := ?_) #[true, true, true, true, true, true, false] rfl rfl (by kernel_rfl) (fun _ _ _ h => h) (Or.inl ⟨by rfl, ?_⟩) hHeld ?_ ?_
      rotate_left
      ·rintro w' ⟨s0, s1, s2, s3, s4, s5, s6, s7, s8, s9, s10, s11, s12, s13, s14, s15, s16⟩
       go_simp
       with_reducible rfl
      rotate_left
      ·simp only [Act.put, List.setIfInBounds_toArray, List.set_cons_zero, List.set_cons_succ, i64_w, i32_w]
       rfl
      refine one_ (i := 6) (N := some 18) #[true, true, true, true, true, true, true] rfl rfl (by kernel_rfl) (by decide) (fun K hK => ?_)
      refine goes_ Try.func15 (by kernel_rfl) rfl #[.agg #[.int .i64 ((rd_T39 l0 x5_1).f1.f0), .int .i64 ((rd_T39 l0 x5_1).f1.f1), .slice A136_3 ((rd_T39 l0 x5_1).f1.f2).length c136_3, .float .f64 ((rd_T39 l0 x5_1).f1.f3), .float .f64 ((rd_T39 l0 x5_1).f1.f4), .slice A136_6 ((rd_T39 l0 x5_1).f1.f5).length c136_6], .agg #[.int .i64 a1_0, .int .i64 a1_1, .int .i64 a1_2, .slice A1_3 l1_3.length c1_3, .slice A1_4 l1_4.length c1_4, .slice A1_5 l1_5.length c1_5]] (by rfl) rfl rfl (by (try simp only [List.map_toArray, List.map_cons, List.map_nil]); first | done | rfl | (simp only [List.length_drop, List.length_take]; rfl)) ?_
      with_reducible refine (gatewardenref15_Holds.calls k1 ((rd_T39 l0 x5_1).f1.f0) ((rd_T39 l0 x5_1).f1.f1) _ _ ((rd_T39 l0 x5_1).f1.f2) ((rd_T39 l0 x5_1).f1.f3) ((rd_T39 l0 x5_1).f1.f4) _ _ ((rd_T39 l0 x5_1).f1.f5) a1_0 a1_1 a1_2 _ _ l1_3 _ _ l1_4 _ _ l1_5 true _ ?side1 ?side2 ?side3 ?side4 ?side5 ?side6 ?side7 ?side8 ?side9 ?side10 A6.out).mono ?_
      (case side1 => repeat (first | exact (Kd.C_below HR136_3.out HB.out) | (with_reducible refine Kd.C_alloc ?_ _) | (with_reducible refine Kd.C_drewN ?_ _) | (with_reducible refine Kd.C_drew ?_)))
      (case side2 => exact HC136_3.out)
      (case side3 => repeat (first | exact (Kd.C_below HR136_6.out HB.out) | (with_reducible refine Kd.C_alloc ?_ _) | (with_reducible refine Kd.C_drewN ?_ _) | (with_reducible refine Kd.C_drew ?_)))
      (case side4 => exact HC136_6.out)
      (case side5 => repeat (first | exact (Kd.C_below HR1_3.out HB.out) | (with_reducible refine Kd.C_alloc ?_ _) | (with_reducible refine Kd.C_drewN ?_ _) | (with_reducible refine Kd.C_drew ?_)))
      (case side6 => exact HC1_3.out)
      (case side7 => repeat (first | exact (Kd.C_below HR1_4.out HB.out) | (with_reducible refine Kd.C_alloc ?_ _) | (with_reducible refine Kd.C_drewN ?_ _) | (with_reducible refine Kd.C_drew ?_)))
      (case side8 => exact HC1_4.out)
      (case side9 => repeat (first | exact (Kd.C_below HR1_5.out HB.out) | (with_reducible refine Kd.C_alloc ?_ _) | (with_reducible refine Kd.C_drewN ?_ _) | (with_reducible refine Kd.C_drew ?_)))
      (case side10 => exact HC1_5.out)
      rintro e w9 ⟨rfl, hb⟩
      refine ⟨_, rfl, ?_⟩
      have n0_ := Aside0.mk (blk_below (g := gb135) (o := .cells #[.int .i64 a1_0, .int .i64 a1_1, .int .i64 a1_2, .slice A1_3 l1_3.length c1_3, .slice A1_4 l1_4.length c1_4, .slice A1_5 l1_5.length c1_5] 30 (0, 0)) (by (with_reducible repeat (first | refine blk_drewN ?_ _ | refine blk_drew ?_ | refine blk_alloc ?_ _)); exact BK135.out) hb)
      have n1_ := Aside0.mk (below_step (by repeat (first | (with_reducible first | exact HB.out | apply below_alloc | apply pw_below_drewN | apply below_drew1 | refine below_set ?_ GE135.out) | exact HB.out)) hb)
      clear BK135
      clear HB
      have BK135 := n0_
      have HB := n1_
      clear n0_ n1_
      (try clear hb)
      (try clear hb2)
      (try clear hk)
      (try clear hi)
      refine hK.out _ _ ⟨(blk_cell BK135.out 0).trans rfl, (blk_cell BK135.out 1).trans rfl, (blk_cell BK135.out 2).trans rfl, (blk_cell BK135.out 3).trans rfl, (blk_cell BK135.out 4).trans rfl, (blk_cell BK135.out 5).trans rfl, ((HB.out.cell (World.block_lt_of_cell? w _ hw136_0)).trans hw136_0), ((HB.out.cell (World.block_lt_of_cell? w _ hw136_1)).trans hw136_1), ((HB.out.cell (World.block_lt_of_cell? w _ hw136_2)).trans hw136_2), ((HB.out.cell (World.block_lt_of_cell? w _ hw136_3)).trans hw136_3), ((HB.out.cell (World.block_lt_of_cell? w _ hw136_4)).trans hw136_4), ((HB.out.cell (World.block_lt_of_cell? w _ hw136_5)).trans hw136_5), ((HB.out.cell (World.block_lt_of_cell? w _ hw136_6)).trans hw136_6), ((HB.out.cell (World.block_lt_of_cell? w _ hw136_7)).trans hw136_7), ((HB.out.cell (World.block_lt_of_cell? w _ hw136_8)).trans hw136_8), ((HB.out.cell (World.block_lt_of_cell? w _ hw136_9)).trans hw136_9), ((HB.out.cell (World.block_lt_of_cell? w _ hw136_10)).trans hw136_10)⟩ (fun hHeld => ?_)
      clear hK K
      refine norm_ (a' := ?_) ?_ ?_
      rotate_left
      ·show Act.put _ (some 18) _ = _
       simp only [Act.put, List.setIfInBounds_toArray, List.set_cons_zero, List.set_cons_succ, i64_w, i32_w]
       rfl
      refine done_ (by kernel_rfl) ?_
      try go_wp2
      go_ret
      exact ⟨by first | rfl | (simp [errW_none, errW_some] <;> rfl) | (simp [*, errW_none, errW_some] <;> rfl), by repeat (first | (with_reducible first | exact HB.out | apply below_alloc | apply pw_below_drewN | apply below_drew1 | refine below_set ?_ GE135.out) | exact HB.out)⟩
     ·replace c7 := Bool.eq_false_iff.mpr c7
      subst c7
      have H1 : (gatewardenref15_First.l0 k1 l0 (wrap64 (x5_1 + 1)) a1_0 a1_1 a1_2 l1_3 l1_4 l1_5) = some r := by rw [if_neg (show ¬ (false = true) by decide)] at H; exact H
      clear H
      have H := H1
      clear H1
      have H' := Aside0.mk H
      clear H
      try go_wp2
      (try (rw [drewN_self wr]; generalize hq_ : World.drewN wr _ = wr; have n0_ := Aside0.mk (blk_at hq_ BK135.out); have n1_ := Aside0.mk (below_at hq_ HB.out); clear hq_ BK135 HB; have BK135 := n0_; have HB := n1_; clear n0_ n1_))
      have n0_ := Aside0.mk (blk_drew BK135.out)
      have n1_ := Aside0.mk (below_drew1 HB.out)
      clear BK135
      clear HB
      have BK135 := n0_
      have HB := n1_
      clear n0_ n1_
      have p136 : 0 ≤ (x5_1 : Int) := of_decide_eq_true (by first | (with_reducible assumption) | assumption)
      have q136 : x5_1 < (l0.length : Int) := of_decide_eq_true (by first | (with_reducible assumption) | assumption)
      obtain ⟨ad136, A136_3, c136_3, A136_6, c136_6, e136, hx136_0, hx136_1, hx136_2, hx136_3, hx136_4, hx136_5, hx136_6, hx136_7, hx136_8, hx136_9, hx136_10, hl136_3, hi136_3, hl136_6, hi136_6⟩ := at_T39 HR0.out x5_1 p136 q136
      have hw136_10 := hx136_10
      have hw136_9 := hx136_9
      have hw136_8 := hx136_8
      have hw136_7 := hx136_7
      have hw136_6 := hx136_6
      have hw136_5 := hx136_5
      have hw136_4 := hx136_4
      have hw136_3 := hx136_3
      have hw136_2 := hx136_2
      have hw136_1 := hx136_1
      have hw136_0 := hx136_0
      cases e136
      replace hx136_0 := (HB.out.cell (World.block_lt_of_cell? w _ hx136_0)).trans hx136_0
      replace hx136_1 := (HB.out.cell (World.block_lt_of_cell? w _ hx136_1)).trans hx136_1
      replace hx136_2 := (HB.out.cell (World.block_lt_of_cell? w _ hx136_2)).trans hx136_2
      replace hx136_3 := (HB.out.cell (World.block_lt_of_cell? w _ hx136_3)).trans hx136_3
      replace hx136_4 := (HB.out.cell (World.block_lt_of_cell? w _ hx136_4)).trans hx136_4
      replace hx136_5 := (HB.out.cell (World.block_lt_of_cell? w _ hx136_5)).trans hx136_5
      replace hx136_6 := (HB.out.cell (World.block_lt_of_cell? w _ hx136_6)).trans hx136_6
      replace hx136_7 := (HB.out.cell (World.block_lt_of_cell? w _ hx136_7)).trans hx136_7
      replace hx136_8 := (HB.out.cell (World.block_lt_of_cell? w _ hx136_8)).trans hx136_8
      replace hx136_9 := (HB.out.cell (World.block_lt_of_cell? w _ hx136_9)).trans hx136_9
      replace hx136_10 := (HB.out.cell (World.block_lt_of_cell? w _ hx136_10)).trans hx136_10
      have HR136_3 := Aside0.mk hi136_3
      have HC136_3 := Aside0.mk hl136_3
      clear hi136_3 hl136_3
      have HR136_6 := Aside0.mk hi136_6
      have HC136_6 := Aside0.mk hl136_6
      clear hi136_6 hl136_6
      replace p136 := eq_true p136
      replace q136 := eq_true q136
      refine start_ (n := 7) (S := fun w' => w'.cell? ⟨gb135, 0, none⟩ = some (.int .i64 a1_0) ∧ w'.cell? ⟨gb135, 1, none⟩ = some (.int .i64 a1_1) ∧ w'.cell? ⟨gb135, 2, none⟩ = some (.int .i64 a1_2) ∧ w'.cell? ⟨gb135, 3, none⟩ = some (.slice A1_3 l1_3.length c1_3) ∧ w'.cell? ⟨gb135, 4, none⟩ = some (.slice A1_4 l1_4.length c1_4) ∧ w'.cell? ⟨gb135, 5, none⟩ = some (.slice A1_5 l1_5.length c1_5) ∧ w'.cell? (ad136.add ((x5_1).toNat * 11)) = some (.bool ((rd_T39 l0 x5_1).f0)) ∧ w'.cell? ⟨(ad136.add ((x5_1).toNat * 11)).block, (ad136.add ((x5_1).toNat * 11)).off + 1, none⟩ = some (.int .i64 ((rd_T39 l0 x5_1).f1.f0)) ∧ w'.cell? ⟨(ad136.add ((x5_1).toNat * 11)).block, (ad136.add ((x5_1).toNat * 11)).off + 2, none⟩ = some (.int .i64 ((rd_T39 l0 x5_1).f1.f1)) ∧ w'.cell? ⟨(ad136.add ((x5_1).toNat * 11)).block, (ad136.add ((x5_1).toNat * 11)).off + 3, none⟩ = some (.slice A136_3 ((rd_T39 l0 x5_1).f1.f2).length c136_3) ∧ w'.cell? ⟨(ad136.add ((x5_1).toNat * 11)).block, (ad136.add ((x5_1).toNat * 11)).off + 4, none⟩ = some (.float .f64 ((rd_T39 l0 x5_1).f1.f3)) ∧ w'.cell? ⟨(ad136.add ((x5_1).toNat * 11)).block, (ad136.add ((x5_1).toNat * 11)).off + 5, none⟩ = some (.float .f64 ((rd_T39 l0 x5_1).f1.f4)) ∧ w'.cell? ⟨(ad136.add ((x5_1).toNat * 11)).block, (ad136.add ((x5_1).toNat * 11)).off + 6, none⟩ = some (.slice A136_6 ((rd_T39 l0 x5_1).f1.f5).length c136_6) ∧ w'.cell? ⟨(ad136.add ((x5_1).toNat * 11)).block, (ad136.add ((x5_1).toNat * 11)).off + 7, none⟩ = some (.int .i64 ((rd_T39 l0 x5_1).f2.f0)) ∧ w'.cell? ⟨(ad136.add ((x5_1).toNat * 11)).block, (ad136.add ((x5_1).toNat * 11)).off + 8, none⟩ = some (.int .i64 ((rd_T39 l0 x5_1).f2.f1)) ∧ w'.cell? ⟨(ad136.add ((x5_1).toNat * 11)).block, (ad136.add ((x5_1).toNat * 11)).off + 9, none⟩ = some (.int .i64 ((rd_T39 l0 x5_1).f2.f2)) ∧ w'.cell? ⟨(ad136.add ((x5_1).toNat * 11)).block, (ad136.add ((x5_1).toNat * 11)).off + 10, none⟩ = some (.int .i64 ((rd_T39 l0 x5_1).f3))) (ds := []) #[false, false, false, false, false, false, false] (by kernel_rfl) rfl rfl ⟨(blk_cell BK135.out 0).trans rfl, (blk_cell BK135.out 1).trans rfl, (blk_cell BK135.out 2).trans rfl, (blk_cell BK135.out 3).trans rfl, (blk_cell BK135.out 4).trans rfl, (blk_cell BK135.out 5).trans rfl, ((HB.out.cell (World.block_lt_of_cell? w _ hw136_0)).trans hw136_0), ((HB.out.cell (World.block_lt_of_cell? w _ hw136_1)).trans hw136_1), ((HB.out.cell (World.block_lt_of_cell? w _ hw136_2)).trans hw136_2), ((HB.out.cell (World.block_lt_of_cell? w _ hw136_3)).trans hw136_3), ((HB.out.cell (World.block_lt_of_cell? w _ hw136_4)).trans hw136_4), ((HB.out.cell (World.block_lt_of_cell? w _ hw136_5)).trans hw136_5), ((HB.out.cell (World.block_lt_of_cell? w _ hw136_6)).trans hw136_6), ((HB.out.cell (World.block_lt_of_cell? w _ hw136_7)).trans hw136_7), ((HB.out.cell (World.block_lt_of_cell? w _ hw136_8)).trans hw136_8), ((HB.out.cell (World.block_lt_of_cell? w _ hw136_9)).trans hw136_9), ((HB.out.cell (World.block_lt_of_cell? w _ hw136_10)).trans hw136_10)⟩ (fun hHeld => ?_)
      generalize wr.drew = w10 at BK135 HB HR136_3 HR136_6 hx136_0 hx136_1 hx136_10 hx136_2 hx136_3 hx136_4 hx136_5 hx136_6 hx136_7 hx136_8 hx136_9 hHeld ⊢
      refine pure_ (i := 0) (N := some 12) (v := ?_) (a' := ?_) #[true, false, false, false, false, false, false] rfl rfl (by kernel_rfl) (fun _ _ _ h => h) (Or.inl ⟨by rfl, ?_⟩) ?_ ?_
      rotate_left
      ·intro w'
       go_simp
       with_reducible rfl
      rotate_left
      ·simp only [Act.put, List.setIfInBounds_toArray, List.set_cons_zero, List.set_cons_succ, i64_w, i32_w]
       rfl
      refine pure_ (i := 1) (N := some 13) (v := ?_) (a' := ?_) #[true, true, false, false, false, false, false] rfl rfl (by kernel_rfl) (fun _ _ _ h => h) (Or.inl ⟨by rfl, ?_⟩) ?_ ?_
      rotate_left
      ·intro w'
       go_simp
       with_reducible rfl
      rotate_left
      ·simp only [Act.put, List.setIfInBounds_toArray, List.set_cons_zero, List.set_cons_succ, i64_w, i32_w]
       rfl
      refine pure_ (i := 2) (N := some 14) (v := ?_) (a' := ?_) #[true, true, true, false, false, false, false] rfl rfl (by kernel_rfl) (fun _ _ _ h => h) (Or.inl ⟨by rfl, ?_⟩) ?_ ?_
      rotate_left
      ·intro w'
       go_simp
       with_reducible rfl
      rotate_left
      ·simp only [Act.put, List.setIfInBounds_toArray, List.set_cons_zero, List.set_cons_succ, i64_w, i32_w]
       rfl
      refine pure_ (i := 3) (N := some 15) (v := ?_) (a' := ?_) #[true, true, true, true, false, false, false] rfl rfl (by kernel_rfl) (fun _ _ _ h => h) (Or.inl ⟨by rfl, ?_⟩) ?_ ?_
      rotate_left
      ·intro w'
       go_simp
       with_reducible rfl
      rotate_left
      ·simp only [Act.put, List.setIfInBounds_toArray, List.set_cons_zero, List.set_cons_succ, i64_w, i32_w]
       rfl
      refine take_ (i := 4) (N := some 16) (v := ?_) (a' := ?_) #[true, true, true, true, true, false, false] rfl rfl (by kernel_rfl) (fun _ _ _ h => h) (Or.inl ⟨by rfl, ?_⟩) hHeld ?_ ?_
      rotate_left
      ·rintro w' ⟨s0, s1, s2, s3, s4, s5, s6, s7, s8, s9, s10, s11, s12, s13, s14, s15, s16⟩
       go_simp
       with_reducible rfl
      rotate_left
      ·simp only [Act.put, List.setIfInBounds_toArray, List.set_cons_zero, List.set_cons_succ, i64_w, i32_w]
       rfl
      refine take_ (i := 5) (N := some 17) (v := ?_) (a' := ?_) #[true, true, true, true, true, true, false] rfl rfl (by kernel_rfl) (fun _ _ _ h => h) (Or.inl ⟨by rfl, ?_⟩) hHeld ?_ ?_
      rotate_left
      ·rintro w' ⟨s0, s1, s2, s3, s4, s5, s6, s7, s8, s9, s10, s11, s12, s13, s14, s15, s16⟩
       go_simp
       with_reducible rfl
      rotate_left
      ·simp only [Act.put, List.setIfInBounds_toArray, List.set_cons_zero, List.set_cons_succ, i64_w, i32_w]
       rfl
      refine one_ (i := 6) (N := some 18) #[true, true, true, true, true, true, true] rfl rfl (by kernel_rfl) (by decide) (fun K hK => ?_)
      refine goes_ Try.func15 (by kernel_rfl) rfl #[.agg #[.int .i64 ((rd_T39 l0 x5_1).f1.f0), .int .i64 ((rd_T39 l0 x5_1).f1.f1), .slice A136_3 ((rd_T39 l0 x5_1).f1.f2).length c136_3, .float .f64 ((rd_T39 l0 x5_1).f1.f3), .float .f64 ((rd_T39 l0 x5_1).f1.f4), .slice A136_6 ((rd_T39 l0 x5_1).f1.f5).length c136_6], .agg #[.int .i64 a1_0, .int .i64 a1_1, .int .i64 a1_2, .slice A1_3 l1_3.length c1_3, .slice A1_4 l1_4.length c1_4, .slice A1_5 l1_5.length c1_5]] (by rfl) rfl rfl (by (try simp only [List.map_toArray, List.map_cons, List.map_nil]); first | done | rfl | (simp only [List.length_drop, List.length_take]; rfl)) ?_
      with_reducible refine (gatewardenref15_Holds.calls k1 ((rd_T39 l0 x5_1).f1.f0) ((rd_T39 l0 x5_1).f1.f1) _ _ ((rd_T39 l0 x5_1).f1.f2) ((rd_T39 l0 x5_1).f1.f3) ((rd_T39 l0 x5_1).f1.f4) _ _ ((rd_T39 l0 x5_1).f1.f5) a1_0 a1_1 a1_2 _ _ l1_3 _ _ l1_4 _ _ l1_5 false _ ?side1 ?side2 ?side3 ?side4 ?side5 ?side6 ?side7 ?side8 ?side9 ?side10 A6.out).mono ?_
      (case side1 => repeat (first | exact (Kd.C_below HR136_3.out HB.out) | (with_reducible refine Kd.C_alloc ?_ _) | (with_reducible refine Kd.C_drewN ?_ _) | (with_reducible refine Kd.C_drew ?_)))
      (case side2 => exact HC136_3.out)
      (case side3 => repeat (first | exact (Kd.C_below HR136_6.out HB.out) | (with_reducible refine Kd.C_alloc ?_ _) | (with_reducible refine Kd.C_drewN ?_ _) | (with_reducible refine Kd.C_drew ?_)))
      (case side4 => exact HC136_6.out)
      (case side5 => repeat (first | exact (Kd.C_below HR1_3.out HB.out) | (with_reducible refine Kd.C_alloc ?_ _) | (with_reducible refine Kd.C_drewN ?_ _) | (with_reducible refine Kd.C_drew ?_)))
      (case side6 => exact HC1_3.out)
      (case side7 => repeat (first | exact (Kd.C_below HR1_4.out HB.out) | (with_reducible refine Kd.C_alloc ?_ _) | (with_reducible refine Kd.C_drewN ?_ _) | (with_reducible refine Kd.C_drew ?_)))
      (case side8 => exact HC1_4.out)
      (case side9 => repeat (first | exact (Kd.C_below HR1_5.out HB.out) | (with_reducible refine Kd.C_alloc ?_ _) | (with_reducible refine Kd.C_drewN ?_ _) | (with_reducible refine Kd.C_drew ?_)))
      (case side10 => exact HC1_5.out)
      rintro e w11 ⟨rfl, hb⟩
      refine ⟨_, rfl, ?_⟩
      have n0_ := Aside0.mk (blk_below (g := gb135) (o := .cells #[.int .i64 a1_0, .int .i64 a1_1, .int .i64 a1_2, .slice A1_3 l1_3.length c1_3, .slice A1_4 l1_4.length c1_4, .slice A1_5 l1_5.length c1_5] 30 (0, 0)) (by (with_reducible repeat (first | refine blk_drewN ?_ _ | refine blk_drew ?_ | refine blk_alloc ?_ _)); exact BK135.out) hb)
      have n1_ := Aside0.mk (below_step (by repeat (first | (with_reducible first | exact HB.out | apply below_alloc | apply pw_below_drewN | apply below_drew1 | refine below_set ?_ GE135.out) | exact HB.out)) hb)
      clear BK135
      clear HB
      have BK135 := n0_
      have HB := n1_
      clear n0_ n1_
      (try clear hb)
      (try clear hb2)
      (try clear hk)
      (try clear hi)
      refine hK.out _ _ ⟨(blk_cell BK135.out 0).trans rfl, (blk_cell BK135.out 1).trans rfl, (blk_cell BK135.out 2).trans rfl, (blk_cell BK135.out 3).trans rfl, (blk_cell BK135.out 4).trans rfl, (blk_cell BK135.out 5).trans rfl, ((HB.out.cell (World.block_lt_of_cell? w _ hw136_0)).trans hw136_0), ((HB.out.cell (World.block_lt_of_cell? w _ hw136_1)).trans hw136_1), ((HB.out.cell (World.block_lt_of_cell? w _ hw136_2)).trans hw136_2), ((HB.out.cell (World.block_lt_of_cell? w _ hw136_3)).trans hw136_3), ((HB.out.cell (World.block_lt_of_cell? w _ hw136_4)).trans hw136_4), ((HB.out.cell (World.block_lt_of_cell? w _ hw136_5)).trans hw136_5), ((HB.out.cell (World.block_lt_of_cell? w _ hw136_6)).trans hw136_6), ((HB.out.cell (World.block_lt_of_cell? w _ hw136_7)).trans hw136_7), ((HB.out.cell (World.block_lt_of_cell? w _ hw136_8)).trans hw136_8), ((HB.out.cell (World.block_lt_of_cell? w _ hw136_9)).trans hw136_9), ((HB.out.cell (World.block_lt_of_cell? w _ hw136_10)).trans hw136_10)⟩ (fun hHeld => ?_)
      clear hK K
      refine norm_ (a' := ?_) ?_ ?_
      rotate_left
      ·show Act.put _ (some 18) _ = _
       simp only [Act.put, List.setIfInBounds_toArray, List.set_cons_zero, List.set_cons_succ, i64_w, i32_w]
       rfl
      refine done_ (by kernel_rfl) ?_
      try go_wp2
      go_roundg k1
      case measure => have := HK1.out; omega
      case rel => exact ⟨(wrap64 (x5_1 + 1)), (by first | rfl | (simp; done) | (simp [*]; done)), H', ⟨by have := HK1.out; omega⟩, ⟨by (with_reducible repeat (first | refine blk_drewN ?_ _ | refine blk_drew ?_ | refine blk_alloc ?_ _)); exact BK135.out⟩, ⟨by repeat (first | (with_reducible first | exact HB.out | apply below_alloc | apply pw_below_drewN | apply below_drew1 | refine below_set ?_ GE135.out) | exact HB.out)⟩⟩
    ·rw [if_neg c5] at H
     exact absurd H (by simp)
   ·rw [if_neg c4] at H
    have c4b0 : decide (x5_1 < (l0.length : Int)) = false := decide_eq_false c4
    clear c4
    obtain rfl := Option.some.inj H
    go_wp2
    go_ret
    exact ⟨by first | rfl | (simp [errW_none, errW_some] <;> rfl) | (simp [*, errW_none, errW_some] <;> rfl), by repeat (first | (with_reducible first | exact HB.out | apply below_alloc | apply pw_below_drewN | apply below_drew1 | refine below_set ?_ GE135.out) | exact HB.out)⟩
end Go.Proofs.Ytppmcbkcohiodaa.PMeanTells
