/- Texts of this claim, put together (wip/pack.py): MeanRight. -/
import Derived.Test.YtppmcbkcohiodaaK21
namespace Go.Proofs.Ytppmcbkcohiodaa.PMeanTells
open Go.RowKit Go.Proofs.YtppmcbkcohiodaaW.PrintWords Go.Proofs.YtppmcbkcohiodaaW.PrintLast Go.Proofs.YtppmcbkcohiodaaW.PrintMore
attribute [local go_sem] max2_int min2_int max_two min_two max_three min_three max_four min_four   -- for this text's walks alone
set_option linter.unusedVariables false
set_option linter.unusedSimpArgs false

/-! ### gatewardenref11_Right: function 10 -/
mutual
def gatewardenref11_Right.j0 : Nat → Bool → Int → Int → List (S55) → Nat → Nat → List (S26) → Option (Bool)
 | 0, _, _, _, _, _, _, _ => none
 | k + 1, x29, x117000, x117001, x117002, x117003, x117004, x117005 => if x29 = true then (some false) else (if x117000 = 0 then (some ((x117005.length : Int) == 0)) else (if x117000 = 2 then (if (x117005.length : Int) = 1 then (gatewardenref11_Right.j2 k x117000 x117001 x117002 x117003 x117004 x117005) else (some false)) else (if x117000 = 3 then (gatewardenref11_Right.j1 k (x117000 == 3) x117000 x117001 x117002 x117003 x117004 x117005) else (gatewardenref11_Right.j1 k (x117000 == 4) x117000 x117001 x117002 x117003 x117004 x117005))))
def gatewardenref11_Right.j2 : Nat → Int → Int → List (S55) → Nat → Nat → List (S26) → Option (Bool)
 | 0, _, _, _, _, _, _ => none
 | k + 1, x117000, x117001, x117002, x117003, x117004, x117005 => gatewardenref11_Right.l0 k 0 x117000 x117001 x117002 x117003 x117004 x117005
def gatewardenref11_Right.l0 : Nat → Int → Int → Int → List (S55) → Nat → Nat → List (S26) → Option (Bool)
 | 0, _, _, _, _, _, _, _ => none
 | k + 1, x3, x117000, x117001, x117002, x117003, x117004, x117005 => if x3 < (x117005.length : Int) then (if 0 ≤ x3 then (if ((rd_T26 x117005 x3).f0) = 0 then (some false) else ((gatewardenref11_Right.f k ((rd_T26 x117005 x3).f0) ((rd_T26 x117005 x3).f1) ((rd_T26 x117005 x3).f2) ((rd_T26 x117005 x3).f3) ((rd_T26 x117005 x3).f4) ((rd_T26 x117005 x3).f5)).bind fun t122 => (if t122 = true then (gatewardenref11_Right.l0 k (wrap64 (x3 + 1)) x117000 x117001 x117002 x117003 x117004 x117005) else (some false)))) else (none)) else (some true)
def gatewardenref11_Right.j1 : Nat → Bool → Int → Int → List (S55) → Nat → Nat → List (S26) → Option (Bool)
 | 0, _, _, _, _, _, _, _ => none
 | k + 1, x44, x117000, x117001, x117002, x117003, x117004, x117005 => if x44 = true then (if (x117005.length : Int) < 2 then (some false) else (gatewardenref11_Right.j2 k x117000 x117001 x117002 x117003 x117004 x117005)) else (some false)
def gatewardenref11_Right.f : Nat → Int → Int → List (S55) → Nat → Nat → List (S26) → Option (Bool)
 | 0, _, _, _, _, _, _ => none
 | k + 1, a0_0, a0_1, l0_2, a0_3, a0_4, l0_5 => if a0_0 = 1 then ((gatewardenref11_atom.f k a0_0 a0_1 l0_2 a0_3 a0_4 l0_5).bind fun t117 => (some t117)) else (if a0_1 = 0 then (if (l0_2.length : Int) > 0 then (gatewardenref11_Right.j0 k true a0_0 a0_1 l0_2 a0_3 a0_4 l0_5) else ((gatewardenref11_plain.f a0_3).bind fun t118 => (if t118 = true then ((gatewardenref11_plain.f a0_4).bind fun t119 => (gatewardenref11_Right.j0 k (!t119) a0_0 a0_1 l0_2 a0_3 a0_4 l0_5)) else (gatewardenref11_Right.j0 k true a0_0 a0_1 l0_2 a0_3 a0_4 l0_5)))) else (gatewardenref11_Right.j0 k true a0_0 a0_1 l0_2 a0_3 a0_4 l0_5))
end
theorem gatewardenref11_Right.mono_l : ∀ k, (∀ y0 y1 y2 y3 y4 y5, LeO (gatewardenref11_Right.f k y0 y1 y2 y3 y4 y5) (gatewardenref11_Right.f (k + 1) y0 y1 y2 y3 y4 y5)) ∧ (∀ y0 y1 y2 y3 y4 y5 y6, LeO (gatewardenref11_Right.j0 k y0 y1 y2 y3 y4 y5 y6) (gatewardenref11_Right.j0 (k + 1) y0 y1 y2 y3 y4 y5 y6)) ∧ (∀ y0 y1 y2 y3 y4 y5, LeO (gatewardenref11_Right.j2 k y0 y1 y2 y3 y4 y5) (gatewardenref11_Right.j2 (k + 1) y0 y1 y2 y3 y4 y5)) ∧ (∀ y0 y1 y2 y3 y4 y5 y6, LeO (gatewardenref11_Right.l0 k y0 y1 y2 y3 y4 y5 y6) (gatewardenref11_Right.l0 (k + 1) y0 y1 y2 y3 y4 y5 y6)) ∧ (∀ y0 y1 y2 y3 y4 y5 y6, LeO (gatewardenref11_Right.j1 k y0 y1 y2 y3 y4 y5 y6) (gatewardenref11_Right.j1 (k + 1) y0 y1 y2 y3 y4 y5 y6))
 | 0 => ⟨fun _ _ _ _ _ _ r h => by simp [gatewardenref11_Right.f] at h, fun _ _ _ _ _ _ _ r h => by simp [gatewardenref11_Right.j0] at h, fun _ _ _ _ _ _ r h => by simp [gatewardenref11_Right.j2] at h, fun _ _ _ _ _ _ _ r h => by simp [gatewardenref11_Right.l0] at h, fun _ _ _ _ _ _ _ r h => by simp [gatewardenref11_Right.j1] at h⟩
 | k + 1 => by
  obtain ⟨ih0, ih1, ih2, ih3, ih4⟩ := gatewardenref11_Right.mono_l k
  refine ⟨?_, ?_, ?_, ?_, ?_⟩
  ·intro y0 y1 y2 y3 y4 y5
   unfold gatewardenref11_Right.f
   repeat' first
   | (with_reducible exact ih0 _ _ _ _ _ _)
   | (with_reducible exact ih1 _ _ _ _ _ _ _)
   | (with_reducible exact ih2 _ _ _ _ _ _)
   | (with_reducible exact ih3 _ _ _ _ _ _ _)
   | (with_reducible exact ih4 _ _ _ _ _ _ _)
   | (with_reducible exact gatewardenref11_atom.mono _ _ _ _ _ _ _)
   | (with_reducible exact LeO.refl _)
   | (with_reducible exact LeO.none _)
   | (with_reducible refine LeO.ite ?_ ?_)
   | (with_reducible refine LeO.bind ?_ (fun _ => ?_))
   | exact ih0 _ _ _ _ _ _
   | exact ih1 _ _ _ _ _ _ _
   | exact ih2 _ _ _ _ _ _
   | exact ih3 _ _ _ _ _ _ _
   | exact ih4 _ _ _ _ _ _ _
   | exact gatewardenref11_atom.mono _ _ _ _ _ _ _
   | exact LeO.none _
   | refine LeO.ite ?_ ?_
   | refine LeO.bind ?_ (fun _ => ?_)
  ·intro y0 y1 y2 y3 y4 y5 y6
   unfold gatewardenref11_Right.j0
   repeat' first
   | (with_reducible exact ih0 _ _ _ _ _ _)
   | (with_reducible exact ih1 _ _ _ _ _ _ _)
   | (with_reducible exact ih2 _ _ _ _ _ _)
   | (with_reducible exact ih3 _ _ _ _ _ _ _)
   | (with_reducible exact ih4 _ _ _ _ _ _ _)
   | (with_reducible exact gatewardenref11_atom.mono _ _ _ _ _ _ _)
   | (with_reducible exact LeO.refl _)
   | (with_reducible exact LeO.none _)
   | (with_reducible refine LeO.ite ?_ ?_)
   | (with_reducible refine LeO.bind ?_ (fun _ => ?_))
   | exact ih0 _ _ _ _ _ _
   | exact ih1 _ _ _ _ _ _ _
   | exact ih2 _ _ _ _ _ _
   | exact ih3 _ _ _ _ _ _ _
   | exact ih4 _ _ _ _ _ _ _
   | exact gatewardenref11_atom.mono _ _ _ _ _ _ _
   | exact LeO.none _
   | refine LeO.ite ?_ ?_
   | refine LeO.bind ?_ (fun _ => ?_)
  ·intro y0 y1 y2 y3 y4 y5
   unfold gatewardenref11_Right.j2
   repeat' first
   | (with_reducible exact ih0 _ _ _ _ _ _)
   | (with_reducible exact ih1 _ _ _ _ _ _ _)
   | (with_reducible exact ih2 _ _ _ _ _ _)
   | (with_reducible exact ih3 _ _ _ _ _ _ _)
   | (with_reducible exact ih4 _ _ _ _ _ _ _)
   | (with_reducible exact gatewardenref11_atom.mono _ _ _ _ _ _ _)
   | (with_reducible exact LeO.refl _)
   | (with_reducible exact LeO.none _)
   | (with_reducible refine LeO.ite ?_ ?_)
   | (with_reducible refine LeO.bind ?_ (fun _ => ?_))
   | exact ih0 _ _ _ _ _ _
   | exact ih1 _ _ _ _ _ _ _
   | exact ih2 _ _ _ _ _ _
   | exact ih3 _ _ _ _ _ _ _
   | exact ih4 _ _ _ _ _ _ _
   | exact gatewardenref11_atom.mono _ _ _ _ _ _ _
   | exact LeO.none _
   | refine LeO.ite ?_ ?_
   | refine LeO.bind ?_ (fun _ => ?_)
  ·intro y0 y1 y2 y3 y4 y5 y6
   unfold gatewardenref11_Right.l0
   repeat' first
   | (with_reducible exact ih0 _ _ _ _ _ _)
   | (with_reducible exact ih1 _ _ _ _ _ _ _)
   | (with_reducible exact ih2 _ _ _ _ _ _)
   | (with_reducible exact ih3 _ _ _ _ _ _ _)
   | (with_reducible exact ih4 _ _ _ _ _ _ _)
   | (with_reducible exact gatewardenref11_atom.mono _ _ _ _ _ _ _)
   | (with_reducible exact LeO.refl _)
   | (with_reducible exact LeO.none _)
   | (with_reducible refine LeO.ite ?_ ?_)
   | (with_reducible refine LeO.bind ?_ (fun _ => ?_))
   | exact ih0 _ _ _ _ _ _
   | exact ih1 _ _ _ _ _ _ _
   | exact ih2 _ _ _ _ _ _
   | exact ih3 _ _ _ _ _ _ _
   | exact ih4 _ _ _ _ _ _ _
   | exact gatewardenref11_atom.mono _ _ _ _ _ _ _
   | exact LeO.none _
   | refine LeO.ite ?_ ?_
   | refine LeO.bind ?_ (fun _ => ?_)
  ·intro y0 y1 y2 y3 y4 y5 y6
   unfold gatewardenref11_Right.j1
   repeat' first
   | (with_reducible exact ih0 _ _ _ _ _ _)
   | (with_reducible exact ih1 _ _ _ _ _ _ _)
   | (with_reducible exact ih2 _ _ _ _ _ _)
   | (with_reducible exact ih3 _ _ _ _ _ _ _)
   | (with_reducible exact ih4 _ _ _ _ _ _ _)
   | (with_reducible exact gatewardenref11_atom.mono _ _ _ _ _ _ _)
   | (with_reducible exact LeO.refl _)
   | (with_reducible exact LeO.none _)
   | (with_reducible refine LeO.ite ?_ ?_)
   | (with_reducible refine LeO.bind ?_ (fun _ => ?_))
   | exact ih0 _ _ _ _ _ _
   | exact ih1 _ _ _ _ _ _ _
   | exact ih2 _ _ _ _ _ _
   | exact ih3 _ _ _ _ _ _ _
   | exact ih4 _ _ _ _ _ _ _
   | exact gatewardenref11_atom.mono _ _ _ _ _ _ _
   | exact LeO.none _
   | refine LeO.ite ?_ ?_
   | refine LeO.bind ?_ (fun _ => ?_)
theorem gatewardenref11_Right.mono : ∀ a0 a1 a2 a3 a4 a5 k, LeO (gatewardenref11_Right.f k a0 a1 a2 a3 a4 a5) (gatewardenref11_Right.f (k + 1) a0 a1 a2 a3 a4 a5) := by
 intro a0 a1 a2 a3 a4 a5 k
 obtain ⟨ih0, ih1, ih2, ih3, ih4⟩ := gatewardenref11_Right.mono_l k
 exact ih0 a0 a1 a2 a3 a4 a5
set_option maxHeartbeats 8000000 in
set_option maxRecDepth 100000 in
theorem gatewardenref11_Right.calls (k : Nat) : ∀ (a0_0 : Int) (a0_1 : Int) (A0_2 : Option Addr) (c0_2 : Nat) (l0_2 : List (S55)) (a0_3 : Nat) (a0_4 : Nat) (A0_5 : Option Addr) (c0_5 : Nat) (l0_5 : List (S26)) (r : Bool) (w : World) (hr0_2 : Kd.C k55 w A0_2 l0_2.length l0_2) (hc0_2 : l0_2.length ≤ c0_2) (hr0_5 : Kd.C k26 w A0_5 l0_5.length l0_5) (hc0_5 : l0_5.length ≤ c0_5) (h : gatewardenref11_Right.f k a0_0 a0_1 l0_2 a0_3 a0_4 l0_5 = some r),
  Calls Try.prog 10 #[.agg #[.int .i64 a0_0, .int .i64 a0_1, .slice A0_2 l0_2.length c0_2, .float .f64 a0_3, .float .f64 a0_4, .slice A0_5 l0_5.length c0_5]] w fun e w' => e = .returned (.bool r) ∧ Below w.heap.size w w' := by
 induction k using Nat.strongRecOn with
 | _ k ih =>
 intro a0_0 a0_1 A0_2 c0_2 l0_2 a0_3 a0_4 A0_5 c0_5 l0_5 r w hr0_2 hc0_2 hr0_5 hc0_5 h
 cases k with
 | zero => exact absurd h (by simp [gatewardenref11_Right.f])
 | succ k =>
 simp only [gatewardenref11_Right.f] at h
 have hu26 := Try.underlying26
 have HR0_2 := Aside0.mk hr0_2
 have HC0_2 := Aside0.mk hc0_2
 clear hr0_2 hc0_2
 have HR0_5 := Aside0.mk hr0_5
 have HC0_5 := Aside0.mk hc0_5
 clear hr0_5 hc0_5
 have HB := Aside0.mk (Below.refl w.heap.size w)
 have H : (if a0_0 = 1 then ((gatewardenref11_atom.f k a0_0 a0_1 l0_2 a0_3 a0_4 l0_5).bind fun t117 => (some t117)) else (if a0_1 = 0 then (if (l0_2.length : Int) > 0 then (gatewardenref11_Right.j0 k true a0_0 a0_1 l0_2 a0_3 a0_4 l0_5) else ((gatewardenref11_plain.f a0_3).bind fun t118 => (if t118 = true then ((gatewardenref11_plain.f a0_4).bind fun t119 => (gatewardenref11_Right.j0 k (!t119) a0_0 a0_1 l0_2 a0_3 a0_4 l0_5)) else (gatewardenref11_Right.j0 k true a0_0 a0_1 l0_2 a0_3 a0_4 l0_5)))) else (gatewardenref11_Right.j0 k true a0_0 a0_1 l0_2 a0_3 a0_4 l0_5))) = some r := h
 clear h
 by_cases c2 : a0_0 = 1
 ·rw [if_pos c2] at H
  have c2b0 : (a0_0 == 1) = true := beq_iff_eq.mpr c2
  have c2b1 : (a0_0 != 1) = false := bne_eq_false_iff_eq.mpr c2
  clear c2
  replace H := Option.bind_eq_some_iff.mp H
  obtain ⟨t117, A30, H⟩ := H
  replace H : (some t117) = some r := H
  have A3 := Aside0.mk A30
  clear A30
  obtain rfl := Option.some.inj H
  go_enter Try.func10, Try.ntmps10
  go_wp2_with (first | ((with_reducible refine gate_dst (N := 1) rfl ?_); (try (refine gate_guard (by rfl) ?_; dsimp only)); refine box_event ?hg (N := 1) ?hd (cs := #[.int .i64 a0_0, .int .i64 a0_1, .slice A0_2 l0_2.length c0_2, .float .f64 a0_3, .float .f64 a0_4, .slice A0_5 l0_5.length c0_5]) (t := 26) ?hr ?_; (case hd => rfl); (case hg => rfl); (case hr => first | (go_simp; done) | (go_simp; rfl)); intro gb116 hg w4 hbox hb; have n0_ := Aside0.mk (below_step (by repeat (first | (with_reducible first | exact HB.out | apply below_alloc | apply pw_below_drewN | apply below_drew1) | exact HB.out)) hb); have n1_ := Aside0.mk (hbox); have n2_ := Aside0.mk ((by rw [hg]; exact (below_size (by repeat (first | (with_reducible first | exact HB.out | apply below_alloc | apply pw_below_drewN | apply below_drew1) | exact HB.out))) : w.heap.size ≤ gb116)); have n3_ := Aside0.mk ((by rw [hg]; exact (below_size (by repeat (first | (with_reducible first | exact HB.out | apply below_alloc | apply pw_below_drewN | apply below_drew1) | exact HB.out))) : w.heap.size ≤ gb116)); clear HB; have HB := n0_; have BK116 := n1_; have GW116 := n2_; have GE116 := n3_; clear n0_ n1_ n2_ n3_; clear hb hbox hg; have hcz5_0 : w4.cell? ⟨gb116, 0, none⟩ = some (.int .i64 a0_0) := (blk_cell BK116.out 0).trans rfl; have hcz5_1 : w4.cell? ⟨gb116, 1, none⟩ = some (.int .i64 a0_1) := (blk_cell BK116.out 1).trans rfl; have hcz5_2 : w4.cell? ⟨gb116, 2, none⟩ = some (.slice A0_2 l0_2.length c0_2) := (blk_cell BK116.out 2).trans rfl; have hcz5_3 : w4.cell? ⟨gb116, 3, none⟩ = some (.float .f64 a0_3) := (blk_cell BK116.out 3).trans rfl; have hcz5_4 : w4.cell? ⟨gb116, 4, none⟩ = some (.float .f64 a0_4) := (blk_cell BK116.out 4).trans rfl; have hcz5_5 : w4.cell? ⟨gb116, 5, none⟩ = some (.slice A0_5 l0_5.length c0_5) := (blk_cell BK116.out 5).trans rfl; have hfz5_0 := blk_frozen BK116.out 0; have hfz5_1 := blk_frozen BK116.out 1; have hfz5_2 := blk_frozen BK116.out 2; have hfz5_3 := blk_frozen BK116.out 3; have hfz5_4 := blk_frozen BK116.out 4; have hfz5_5 := blk_frozen BK116.out 5) | ((with_reducible refine gate_callee (f := 29) rfl ?_); refine goesL_ (some 8) rfl rfl Try.func29 (by kernel_rfl) rfl #[.agg #[.int .i64 a0_0, .int .i64 a0_1, .slice A0_2 l0_2.length c0_2, .float .f64 a0_3, .float .f64 a0_4, .slice A0_5 l0_5.length c0_5]] rfl (by (try simp only [List.map_toArray, List.map_cons, List.map_nil]); first | done | rfl | (simp only [List.length_drop, List.length_take]; rfl)) ?_; (with_reducible refine (gatewardenref11_atom.calls k a0_0 a0_1 _ _ l0_2 a0_3 a0_4 _ _ l0_5 t117 _ ?side1 ?side2 ?side3 ?side4 A3.out).mono ?_); (case side1 => repeat (first | exact (Kd.C_below HR0_2.out HB.out) | (with_reducible refine Kd.C_alloc ?_ _) | (with_reducible refine Kd.C_drewN ?_ _) | (with_reducible refine Kd.C_drew ?_))); (case side2 => exact HC0_2.out); (case side3 => repeat (first | exact (Kd.C_below HR0_5.out HB.out) | (with_reducible refine Kd.C_alloc ?_ _) | (with_reducible refine Kd.C_drewN ?_ _) | (with_reducible refine Kd.C_drew ?_))); (case side4 => exact HC0_5.out); rintro e w6 ⟨rfl, hb⟩; refine ⟨_, rfl, ?_⟩; have n0_ := Aside0.mk (blk_below (g := gb116) (o := .cells #[.int .i64 a0_0, .int .i64 a0_1, .slice A0_2 l0_2.length c0_2, .float .f64 a0_3, .float .f64 a0_4, .slice A0_5 l0_5.length c0_5] 26 (0, 0)) (by (with_reducible repeat (first | refine blk_drewN ?_ _ | refine blk_drew ?_ | refine blk_alloc ?_ _)); exact BK116.out) hb); have n1_ := Aside0.mk (below_step (by repeat (first | (with_reducible first | exact HB.out | apply below_alloc | apply pw_below_drewN | apply below_drew1 | refine below_set ?_ GE116.out) | exact HB.out)) hb); clear BK116; clear HB; have BK116 := n0_; have HB := n1_; clear n0_ n1_; (try clear hb); (try clear hb2); (try clear hk); (try clear hi)))
  go_ret
  exact ⟨by first | rfl | (simp [errW_none, errW_some] <;> rfl) | (simp [*, errW_none, errW_some] <;> rfl), by repeat (first | (with_reducible first | exact HB.out | apply below_alloc | apply pw_below_drewN | apply below_drew1 | refine below_set ?_ GE116.out) | exact HB.out)⟩
 ·rw [if_neg c2] at H
  have c2b0 : (a0_0 == 1) = false := beq_eq_false_iff_ne.mpr c2
  have c2b1 : (a0_0 != 1) = true := bne_iff_ne.mpr c2
  have HC7 := Aside0.mk H
  clear H
  go_enter Try.func10, Try.ntmps10
  go_upto_region 3 with (first | ((with_reducible refine gate_dst (N := 1) rfl ?_); (try (refine gate_guard (by rfl) ?_; dsimp only)); refine box_event ?hg (N := 1) ?hd (cs := #[.int .i64 a0_0, .int .i64 a0_1, .slice A0_2 l0_2.length c0_2, .float .f64 a0_3, .float .f64 a0_4, .slice A0_5 l0_5.length c0_5]) (t := 26) ?hr ?_; (case hd => rfl); (case hg => rfl); (case hr => first | (go_simp; done) | (go_simp; rfl)); intro gb116 hg w8 hbox hb; have n0_ := Aside0.mk (below_step (by repeat (first | (with_reducible first | exact HB.out | apply below_alloc | apply pw_below_drewN | apply below_drew1) | exact HB.out)) hb); have n1_ := Aside0.mk (hbox); have n2_ := Aside0.mk ((by rw [hg]; exact (below_size (by repeat (first | (with_reducible first | exact HB.out | apply below_alloc | apply pw_below_drewN | apply below_drew1) | exact HB.out))) : w.heap.size ≤ gb116)); have n3_ := Aside0.mk ((by rw [hg]; exact (below_size (by repeat (first | (with_reducible first | exact HB.out | apply below_alloc | apply pw_below_drewN | apply below_drew1) | exact HB.out))) : w.heap.size ≤ gb116)); clear HB; have HB := n0_; have BK116 := n1_; have GW116 := n2_; have GE116 := n3_; clear n0_ n1_ n2_ n3_; clear hb hbox hg; have hcz9_0 : w8.cell? ⟨gb116, 0, none⟩ = some (.int .i64 a0_0) := (blk_cell BK116.out 0).trans rfl; have hcz9_1 : w8.cell? ⟨gb116, 1, none⟩ = some (.int .i64 a0_1) := (blk_cell BK116.out 1).trans rfl; have hcz9_2 : w8.cell? ⟨gb116, 2, none⟩ = some (.slice A0_2 l0_2.length c0_2) := (blk_cell BK116.out 2).trans rfl; have hcz9_3 : w8.cell? ⟨gb116, 3, none⟩ = some (.float .f64 a0_3) := (blk_cell BK116.out 3).trans rfl; have hcz9_4 : w8.cell? ⟨gb116, 4, none⟩ = some (.float .f64 a0_4) := (blk_cell BK116.out 4).trans rfl; have hcz9_5 : w8.cell? ⟨gb116, 5, none⟩ = some (.slice A0_5 l0_5.length c0_5) := (blk_cell BK116.out 5).trans rfl; have hfz9_0 := blk_frozen BK116.out 0; have hfz9_1 := blk_frozen BK116.out 1; have hfz9_2 := blk_frozen BK116.out 2; have hfz9_3 := blk_frozen BK116.out 3; have hfz9_4 := blk_frozen BK116.out 4; have hfz9_5 := blk_frozen BK116.out 5))
  (try simp only [Act.put, List.setIfInBounds_toArray, List.set_cons_zero, List.set_cons_succ])
  go_cut [29] (fun v29 wc => ∃ (kq : Nat) (x29_6 : Bool), v29 = .bool x29_6 ∧ Aside0 (gatewardenref11_Right.j0 kq x29_6 a0_0 a0_1 l0_2 a0_3 a0_4 l0_5 = some r) ∧ Aside0 (kq ≤ k) ∧ Aside0 (wc.heap[gb116]? = some (.cells #[.int .i64 a0_0, .int .i64 a0_1, (.slice A0_2 l0_2.length c0_2), .float .f64 a0_3, .float .f64 a0_4, (.slice A0_5 l0_5.length c0_5)] 26 (0, 0))) ∧ Aside0 (Below w.heap.size w wc))
  case first =>
   have H := HC7.out
   clear HC7
   by_cases c10 : a0_1 = 0
   ·rw [if_pos c10] at H
    have c10b0 : (a0_1 == 0) = true := beq_iff_eq.mpr c10
    have c10b1 : (a0_1 != 0) = false := bne_eq_false_iff_eq.mpr c10
    clear c10
    (first | rw [c10b0] | (simp only [i64_w, i32_w]; rw [c10b0]) | skip)
    by_cases c11 : (l0_2.length : Int) > 0
    ·rw [if_pos c11] at H
     have c11b0 : decide (0 < (l0_2.length : Int)) = true := decide_eq_true c11
     have c11b1 : decide (0 < l0_2.length) = true := decide_eq_true (by omega)
     clear c11
     have H' := Aside0.mk H
     clear H
     have hcz12_0 : w8.cell? ⟨gb116, 0, none⟩ = some (.int .i64 a0_0) := (blk_cell BK116.out 0).trans rfl
     have hcz12_1 : w8.cell? ⟨gb116, 1, none⟩ = some (.int .i64 a0_1) := (blk_cell BK116.out 1).trans rfl
     have hcz12_2 : w8.cell? ⟨gb116, 2, none⟩ = some (.slice A0_2 l0_2.length c0_2) := (blk_cell BK116.out 2).trans rfl
     have hcz12_3 : w8.cell? ⟨gb116, 3, none⟩ = some (.float .f64 a0_3) := (blk_cell BK116.out 3).trans rfl
     have hcz12_4 : w8.cell? ⟨gb116, 4, none⟩ = some (.float .f64 a0_4) := (blk_cell BK116.out 4).trans rfl
     have hcz12_5 : w8.cell? ⟨gb116, 5, none⟩ = some (.slice A0_5 l0_5.length c0_5) := (blk_cell BK116.out 5).trans rfl
     have hfz12_0 := blk_frozen BK116.out 0
     have hfz12_1 := blk_frozen BK116.out 1
     have hfz12_2 := blk_frozen BK116.out 2
     have hfz12_3 := blk_frozen BK116.out 3
     have hfz12_4 := blk_frozen BK116.out 4
     have hfz12_5 := blk_frozen BK116.out 5
     go_wp2
     go_meet
     case rel => exact ⟨_, (true), (by first | rfl | (simp; done) | (simp [*]; done)), H', ⟨by first | omega | exact Nat.le_refl _⟩, ⟨by (with_reducible repeat (first | refine blk_drewN ?_ _ | refine blk_drew ?_ | refine blk_alloc ?_ _)); exact BK116.out⟩, ⟨by repeat (first | (with_reducible first | exact HB.out | apply below_alloc | apply pw_below_drewN | apply below_drew1 | refine below_set ?_ GE116.out) | exact HB.out)⟩⟩
    ·rw [if_neg c11] at H
     have c11b0 : decide (0 < (l0_2.length : Int)) = false := decide_eq_false c11
     have c11b1 : decide (0 < l0_2.length) = false := decide_eq_false (by omega)
     clear c11
     replace H := Option.bind_eq_some_iff.mp H
     obtain ⟨t118, A130, H⟩ := H
     replace H : (if t118 = true then ((gatewardenref11_plain.f a0_4).bind fun t119 => (gatewardenref11_Right.j0 k (!t119) a0_0 a0_1 l0_2 a0_3 a0_4 l0_5)) else (gatewardenref11_Right.j0 k true a0_0 a0_1 l0_2 a0_3 a0_4 l0_5)) = some r := H
     have A13 := Aside0.mk A130
     clear A130
     by_cases c14 : t118 = true
     ·subst c14
      have H1 : ((gatewardenref11_plain.f a0_4).bind fun t119 => (gatewardenref11_Right.j0 k (!t119) a0_0 a0_1 l0_2 a0_3 a0_4 l0_5)) = some r := by rw [if_pos rfl] at H; exact H
      clear H
      have H := H1
      clear H1
      replace H := Option.bind_eq_some_iff.mp H
      obtain ⟨t119, A150, H⟩ := H
      replace H : (gatewardenref11_Right.j0 k (!t119) a0_0 a0_1 l0_2 a0_3 a0_4 l0_5) = some r := H
      have A15 := Aside0.mk A150
      clear A150
      have H' := Aside0.mk H
      clear H
      have hcz16_0 : w8.cell? ⟨gb116, 0, none⟩ = some (.int .i64 a0_0) := (blk_cell BK116.out 0).trans rfl
      have hcz16_1 : w8.cell? ⟨gb116, 1, none⟩ = some (.int .i64 a0_1) := (blk_cell BK116.out 1).trans rfl
      have hcz16_2 : w8.cell? ⟨gb116, 2, none⟩ = some (.slice A0_2 l0_2.length c0_2) := (blk_cell BK116.out 2).trans rfl
      have hcz16_3 : w8.cell? ⟨gb116, 3, none⟩ = some (.float .f64 a0_3) := (blk_cell BK116.out 3).trans rfl
      have hcz16_4 : w8.cell? ⟨gb116, 4, none⟩ = some (.float .f64 a0_4) := (blk_cell BK116.out 4).trans rfl
      have hcz16_5 : w8.cell? ⟨gb116, 5, none⟩ = some (.slice A0_5 l0_5.length c0_5) := (blk_cell BK116.out 5).trans rfl
      have hfz16_0 := blk_frozen BK116.out 0
      have hfz16_1 := blk_frozen BK116.out 1
      have hfz16_2 := blk_frozen BK116.out 2
      have hfz16_3 := blk_frozen BK116.out 3
      have hfz16_4 := blk_frozen BK116.out 4
      have hfz16_5 := blk_frozen BK116.out 5
      have tk0_ := True.intro
      go_wp2_with (first | (have t_ := tk0_; clear t_; (go_at_call 30; (with_reducible refine (gatewardenref11_plain.calls a0_3 true _ A13.out).mono ?_); rintro e w17 ⟨rfl, hb⟩; have n0_ := Aside0.mk (blk_below (g := gb116) (o := .cells #[.int .i64 a0_0, .int .i64 a0_1, .slice A0_2 l0_2.length c0_2, .float .f64 a0_3, .float .f64 a0_4, .slice A0_5 l0_5.length c0_5] 26 (0, 0)) (by (with_reducible repeat (first | refine blk_drewN ?_ _ | refine blk_drew ?_ | refine blk_alloc ?_ _)); exact BK116.out) hb); have n1_ := Aside0.mk (below_step (by repeat (first | (with_reducible first | exact HB.out | apply below_alloc | apply pw_below_drewN | apply below_drew1 | refine below_set ?_ GE116.out) | exact HB.out)) hb); clear BK116; clear HB; have BK116 := n0_; have HB := n1_; clear n0_ n1_; (try clear hb); (try clear hb2); (try clear hk); (try clear hi); have hcz18_0 : w17.cell? ⟨gb116, 0, none⟩ = some (.int .i64 a0_0) := (blk_cell BK116.out 0).trans rfl; have hcz18_1 : w17.cell? ⟨gb116, 1, none⟩ = some (.int .i64 a0_1) := (blk_cell BK116.out 1).trans rfl; have hcz18_2 : w17.cell? ⟨gb116, 2, none⟩ = some (.slice A0_2 l0_2.length c0_2) := (blk_cell BK116.out 2).trans rfl; have hcz18_3 : w17.cell? ⟨gb116, 3, none⟩ = some (.float .f64 a0_3) := (blk_cell BK116.out 3).trans rfl; have hcz18_4 : w17.cell? ⟨gb116, 4, none⟩ = some (.float .f64 a0_4) := (blk_cell BK116.out 4).trans rfl; have hcz18_5 : w17.cell? ⟨gb116, 5, none⟩ = some (.slice A0_5 l0_5.length c0_5) := (blk_cell BK116.out 5).trans rfl; have hfz18_0 := blk_frozen BK116.out 0; have hfz18_1 := blk_frozen BK116.out 1; have hfz18_2 := blk_frozen BK116.out 2; have hfz18_3 := blk_frozen BK116.out 3; have hfz18_4 := blk_frozen BK116.out 4; have hfz18_5 := blk_frozen BK116.out 5); clear tk0_; have tk1_ := True.intro) | (have t_ := tk1_; clear t_; (go_at_call 30; (with_reducible refine (gatewardenref11_plain.calls a0_4 t119 _ A15.out).mono ?_); rintro e w19 ⟨rfl, hb⟩; have n0_ := Aside0.mk (blk_below (g := gb116) (o := .cells #[.int .i64 a0_0, .int .i64 a0_1, .slice A0_2 l0_2.length c0_2, .float .f64 a0_3, .float .f64 a0_4, .slice A0_5 l0_5.length c0_5] 26 (0, 0)) (by (with_reducible repeat (first | refine blk_drewN ?_ _ | refine blk_drew ?_ | refine blk_alloc ?_ _)); exact BK116.out) hb); have n1_ := Aside0.mk (below_step (by repeat (first | (with_reducible first | exact HB.out | apply below_alloc | apply pw_below_drewN | apply below_drew1 | refine below_set ?_ GE116.out) | exact HB.out)) hb); clear BK116; clear HB; have BK116 := n0_; have HB := n1_; clear n0_ n1_; (try clear hb); (try clear hb2); (try clear hk); (try clear hi)); clear tk1_; have tk2_ := True.intro))
      go_meet
      case rel => exact ⟨_, (!t119), (by first | rfl | (simp; done) | (simp [*]; done)), H', ⟨by first | omega | exact Nat.le_refl _⟩, ⟨by (with_reducible repeat (first | refine blk_drewN ?_ _ | refine blk_drew ?_ | refine blk_alloc ?_ _)); exact BK116.out⟩, ⟨by repeat (first | (with_reducible first | exact HB.out | apply below_alloc | apply pw_below_drewN | apply below_drew1 | refine below_set ?_ GE116.out) | exact HB.out)⟩⟩
     ·replace c14 := Bool.eq_false_iff.mpr c14
      subst c14
      have H1 : (gatewardenref11_Right.j0 k true a0_0 a0_1 l0_2 a0_3 a0_4 l0_5) = some r := by rw [if_neg (show ¬ (false = true) by decide)] at H; exact H
      clear H
      have H := H1
      clear H1
      have H' := Aside0.mk H
      clear H
      have hcz20_0 : w8.cell? ⟨gb116, 0, none⟩ = some (.int .i64 a0_0) := (blk_cell BK116.out 0).trans rfl
      have hcz20_1 : w8.cell? ⟨gb116, 1, none⟩ = some (.int .i64 a0_1) := (blk_cell BK116.out 1).trans rfl
      have hcz20_2 : w8.cell? ⟨gb116, 2, none⟩ = some (.slice A0_2 l0_2.length c0_2) := (blk_cell BK116.out 2).trans rfl
      have hcz20_3 : w8.cell? ⟨gb116, 3, none⟩ = some (.float .f64 a0_3) := (blk_cell BK116.out 3).trans rfl
      have hcz20_4 : w8.cell? ⟨gb116, 4, none⟩ = some (.float .f64 a0_4) := (blk_cell BK116.out 4).trans rfl
      have hcz20_5 : w8.cell? ⟨gb116, 5, none⟩ = some (.slice A0_5 l0_5.length c0_5) := (blk_cell BK116.out 5).trans rfl
      have hfz20_0 := blk_frozen BK116.out 0
      have hfz20_1 := blk_frozen BK116.out 1
      have hfz20_2 := blk_frozen BK116.out 2
      have hfz20_3 := blk_frozen BK116.out 3
      have hfz20_4 := blk_frozen BK116.out 4
      have hfz20_5 := blk_frozen BK116.out 5
      go_wp2_with (first | (go_at_call 30; (with_reducible refine (gatewardenref11_plain.calls a0_3 false _ A13.out).mono ?_); rintro e w21 ⟨rfl, hb⟩; have n0_ := Aside0.mk (blk_below (g := gb116) (o := .cells #[.int .i64 a0_0, .int .i64 a0_1, .slice A0_2 l0_2.length c0_2, .float .f64 a0_3, .float .f64 a0_4, .slice A0_5 l0_5.length c0_5] 26 (0, 0)) (by (with_reducible repeat (first | refine blk_drewN ?_ _ | refine blk_drew ?_ | refine blk_alloc ?_ _)); exact BK116.out) hb); have n1_ := Aside0.mk (below_step (by repeat (first | (with_reducible first | exact HB.out | apply below_alloc | apply pw_below_drewN | apply below_drew1 | refine below_set ?_ GE116.out) | exact HB.out)) hb); clear BK116; clear HB; have BK116 := n0_; have HB := n1_; clear n0_ n1_; (try clear hb); (try clear hb2); (try clear hk); (try clear hi)))
      go_meet
      case rel => exact ⟨_, (true), (by first | rfl | (simp; done) | (simp [*]; done)), H', ⟨by first | omega | exact Nat.le_refl _⟩, ⟨by (with_reducible repeat (first | refine blk_drewN ?_ _ | refine blk_drew ?_ | refine blk_alloc ?_ _)); exact BK116.out⟩, ⟨by repeat (first | (with_reducible first | exact HB.out | apply below_alloc | apply pw_below_drewN | apply below_drew1 | refine below_set ?_ GE116.out) | exact HB.out)⟩⟩
   ·rw [if_neg c10] at H
    have c10b0 : (a0_1 == 0) = false := beq_eq_false_iff_ne.mpr c10
    have c10b1 : (a0_1 != 0) = true := bne_iff_ne.mpr c10
    (first | rw [c10b0] | (simp only [i64_w, i32_w]; rw [c10b0]) | skip)
    have H' := Aside0.mk H
    clear H
    have hcz22_0 : w8.cell? ⟨gb116, 0, none⟩ = some (.int .i64 a0_0) := (blk_cell BK116.out 0).trans rfl
    have hcz22_1 : w8.cell? ⟨gb116, 1, none⟩ = some (.int .i64 a0_1) := (blk_cell BK116.out 1).trans rfl
    have hcz22_2 : w8.cell? ⟨gb116, 2, none⟩ = some (.slice A0_2 l0_2.length c0_2) := (blk_cell BK116.out 2).trans rfl
    have hcz22_3 : w8.cell? ⟨gb116, 3, none⟩ = some (.float .f64 a0_3) := (blk_cell BK116.out 3).trans rfl
    have hcz22_4 : w8.cell? ⟨gb116, 4, none⟩ = some (.float .f64 a0_4) := (blk_cell BK116.out 4).trans rfl
    have hcz22_5 : w8.cell? ⟨gb116, 5, none⟩ = some (.slice A0_5 l0_5.length c0_5) := (blk_cell BK116.out 5).trans rfl
    have hfz22_0 := blk_frozen BK116.out 0
    have hfz22_1 := blk_frozen BK116.out 1
    have hfz22_2 := blk_frozen BK116.out 2
    have hfz22_3 := blk_frozen BK116.out 3
    have hfz22_4 := blk_frozen BK116.out 4
    have hfz22_5 := blk_frozen BK116.out 5
    go_wp2
    go_meet
    case rel => exact ⟨_, (true), (by first | rfl | (simp; done) | (simp [*]; done)), H', ⟨by first | omega | exact Nat.le_refl _⟩, ⟨by (with_reducible repeat (first | refine blk_drewN ?_ _ | refine blk_drew ?_ | refine blk_alloc ?_ _)); exact BK116.out⟩, ⟨by repeat (first | (with_reducible first | exact HB.out | apply below_alloc | apply pw_below_drewN | apply below_drew1 | refine below_set ?_ GE116.out) | exact HB.out)⟩⟩
  case rest =>
   clear HC7
   try clear c1
   try clear c2
   try clear c2b0
   try clear c2b1
   try clear p2
   try clear c10
   try clear c10b0
   try clear c10b1
   try clear c11
   try clear c11b0
   try clear c11b1
   try clear c14
   try clear hcz12_0
   try clear hcz12_1
   try clear hcz12_2
   try clear hcz12_3
   try clear hcz12_4
   try clear hcz12_5
   try clear hcz16_0
   try clear hcz16_1
   try clear hcz16_2
   try clear hcz16_3
   try clear hcz16_4
   try clear hcz16_5
   try clear hcz18_0
   try clear hcz18_1
   try clear hcz18_2
   try clear hcz18_3
   try clear hcz18_4
   try clear hcz18_5
   try clear hcz20_0
   try clear hcz20_1
   try clear hcz20_2
   try clear hcz20_3
   try clear hcz20_4
   try clear hcz20_5
   try clear hcz22_0
   try clear hcz22_1
   try clear hcz22_2
   try clear hcz22_3
   try clear hcz22_4
   try clear hcz22_5
   try clear hcz5_0
   try clear hcz5_1
   try clear hcz5_2
   try clear hcz5_3
   try clear hcz5_4
   try clear hcz5_5
   try clear hcz9_0
   try clear hcz9_1
   try clear hcz9_2
   try clear hcz9_3
   try clear hcz9_4
   try clear hcz9_5
   try clear hfz12_0
   try clear hfz12_1
   try clear hfz12_2
   try clear hfz12_3
   try clear hfz12_4
   try clear hfz12_5
   try clear hfz16_0
   try clear hfz16_1
   try clear hfz16_2
   try clear hfz16_3
   try clear hfz16_4
   try clear hfz16_5
   try clear hfz18_0
   try clear hfz18_1
   try clear hfz18_2
   try clear hfz18_3
   try clear hfz18_4
   try clear hfz18_5
   try clear hfz20_0
   try clear hfz20_1
   try clear hfz20_2
   try clear hfz20_3
   try clear hfz20_4
   try clear hfz20_5
   try clear hfz22_0
   try clear hfz22_1
   try clear hfz22_2
   try clear hfz22_3
   try clear hfz22_4
   try clear hfz22_5
   try clear hfz5_0
   try clear hfz5_1
   try clear hfz5_2
   try clear hfz5_3
   try clear hfz5_4
   try clear hfz5_5
   try clear hfz9_0
   try clear hfz9_1
   try clear hfz9_2
   try clear hfz9_3
   try clear hfz9_4
   try clear hfz9_5
   obtain ⟨kq, x29_6, rfl, HA, HJ6, BK116, HB⟩ := hcut
   cases kq with
   | zero => exact absurd HA.out (by simp [gatewardenref11_Right.j0])
   | succ kj6 =>
    have H := HA.out
    clear HA
    simp only [gatewardenref11_Right.j0] at H
    by_cases c23 : x29_6 = true
    ·subst c23
     have H1 : (some false) = some r := by rw [if_pos rfl] at H; exact H
     clear H
     have H := H1
     clear H1
     obtain rfl := Option.some.inj H
     go_wp2
     go_ret
     exact ⟨by first | rfl | (simp [errW_none, errW_some] <;> rfl) | (simp [*, errW_none, errW_some] <;> rfl), by repeat (first | (with_reducible first | exact HB.out | apply below_alloc | apply pw_below_drewN | apply below_drew1 | refine below_set ?_ GE116.out) | exact HB.out)⟩
    ·replace c23 := Bool.eq_false_iff.mpr c23
     subst c23
     have H1 : (if a0_0 = 0 then (some ((l0_5.length : Int) == 0)) else (if a0_0 = 2 then (if (l0_5.length : Int) = 1 then (gatewardenref11_Right.j2 kj6 a0_0 a0_1 l0_2 a0_3 a0_4 l0_5) else (some false)) else (if a0_0 = 3 then (gatewardenref11_Right.j1 kj6 (a0_0 == 3) a0_0 a0_1 l0_2 a0_3 a0_4 l0_5) else (gatewardenref11_Right.j1 kj6 (a0_0 == 4) a0_0 a0_1 l0_2 a0_3 a0_4 l0_5)))) = some r := by rw [if_neg (show ¬ (false = true) by decide)] at H; exact H
     clear H
     have H := H1
     clear H1
     have HC24 := Aside0.mk H
     clear H
     have hcz25_0 : wc.cell? ⟨gb116, 0, none⟩ = some (.int .i64 a0_0) := (blk_cell BK116.out 0).trans rfl
     have hcz25_1 : wc.cell? ⟨gb116, 1, none⟩ = some (.int .i64 a0_1) := (blk_cell BK116.out 1).trans rfl
     have hcz25_2 : wc.cell? ⟨gb116, 2, none⟩ = some (.slice A0_2 l0_2.length c0_2) := (blk_cell BK116.out 2).trans rfl
     have hcz25_3 : wc.cell? ⟨gb116, 3, none⟩ = some (.float .f64 a0_3) := (blk_cell BK116.out 3).trans rfl
     have hcz25_4 : wc.cell? ⟨gb116, 4, none⟩ = some (.float .f64 a0_4) := (blk_cell BK116.out 4).trans rfl
     have hcz25_5 : wc.cell? ⟨gb116, 5, none⟩ = some (.slice A0_5 l0_5.length c0_5) := (blk_cell BK116.out 5).trans rfl
     have hfz25_0 := blk_frozen BK116.out 0
     have hfz25_1 := blk_frozen BK116.out 1
     have hfz25_2 := blk_frozen BK116.out 2
     have hfz25_3 := blk_frozen BK116.out 3
     have hfz25_4 := blk_frozen BK116.out 4
     have hfz25_5 := blk_frozen BK116.out 5
     go_upto_block 0 with (fail)
     go_cut [] (fun wc => ∃ (kq : Nat), Aside0 (gatewardenref11_Right.j2 kq a0_0 a0_1 l0_2 a0_3 a0_4 l0_5 = some r) ∧ Aside0 (kq ≤ kj6) ∧ Aside0 (wc.heap[gb116]? = some (.cells #[.int .i64 a0_0, .int .i64 a0_1, (.slice A0_2 l0_2.length c0_2), .float .f64 a0_3, .float .f64 a0_4, (.slice A0_5 l0_5.length c0_5)] 26 (0, 0))) ∧ Aside0 (Below w.heap.size w wc))
     case first =>
      have H := HC24.out
      clear HC24
      by_cases c26 : a0_0 = 0
      ·rw [if_pos c26] at H
       have c26b0 : (a0_0 == 0) = true := beq_iff_eq.mpr c26
       have c26b1 : (a0_0 != 0) = false := bne_eq_false_iff_eq.mpr c26
       clear c26
       (first | rw [c26b0] | (simp only [i64_w, i32_w]; rw [c26b0]) | skip)
       obtain rfl := Option.some.inj H
       have hcz27_0 : wc.cell? ⟨gb116, 0, none⟩ = some (.int .i64 a0_0) := (blk_cell BK116.out 0).trans rfl
       have hcz27_1 : wc.cell? ⟨gb116, 1, none⟩ = some (.int .i64 a0_1) := (blk_cell BK116.out 1).trans rfl
       have hcz27_2 : wc.cell? ⟨gb116, 2, none⟩ = some (.slice A0_2 l0_2.length c0_2) := (blk_cell BK116.out 2).trans rfl
       have hcz27_3 : wc.cell? ⟨gb116, 3, none⟩ = some (.float .f64 a0_3) := (blk_cell BK116.out 3).trans rfl
       have hcz27_4 : wc.cell? ⟨gb116, 4, none⟩ = some (.float .f64 a0_4) := (blk_cell BK116.out 4).trans rfl
       have hcz27_5 : wc.cell? ⟨gb116, 5, none⟩ = some (.slice A0_5 l0_5.length c0_5) := (blk_cell BK116.out 5).trans rfl
       have hfz27_0 := blk_frozen BK116.out 0
       have hfz27_1 := blk_frozen BK116.out 1
       have hfz27_2 := blk_frozen BK116.out 2
       have hfz27_3 := blk_frozen BK116.out 3
       have hfz27_4 := blk_frozen BK116.out 4
       have hfz27_5 := blk_frozen BK116.out 5
       go_wp2
       go_ret
       exact ⟨by first | rfl | (simp [errW_none, errW_some] <;> rfl) | (simp [*, errW_none, errW_some] <;> rfl), by repeat (first | (with_reducible first | exact HB.out | apply below_alloc | apply pw_below_drewN | apply below_drew1 | refine below_set ?_ GE116.out) | exact HB.out)⟩
      ·rw [if_neg c26] at H
       have c26b0 : (a0_0 == 0) = false := beq_eq_false_iff_ne.mpr c26
       have c26b1 : (a0_0 != 0) = true := bne_iff_ne.mpr c26
       (first | rw [c26b0] | (simp only [i64_w, i32_w]; rw [c26b0]) | skip)
       by_cases c28 : a0_0 = 2
       ·rw [if_pos c28] at H
        have c28b0 : (a0_0 == 2) = true := beq_iff_eq.mpr c28
        have c28b1 : (a0_0 != 2) = false := bne_eq_false_iff_eq.mpr c28
        clear c28
        by_cases c29 : (l0_5.length : Int) = 1
        ·rw [if_pos c29] at H
         have c29b0 : ((l0_5.length : Int) == 1) = true := beq_iff_eq.mpr c29
         have c29b1 : ((l0_5.length : Int) != 1) = false := bne_eq_false_iff_eq.mpr c29
         clear c29
         have H' := Aside0.mk H
         clear H
         have hcz30_0 : wc.cell? ⟨gb116, 0, none⟩ = some (.int .i64 a0_0) := (blk_cell BK116.out 0).trans rfl
         have hcz30_1 : wc.cell? ⟨gb116, 1, none⟩ = some (.int .i64 a0_1) := (blk_cell BK116.out 1).trans rfl
         have hcz30_2 : wc.cell? ⟨gb116, 2, none⟩ = some (.slice A0_2 l0_2.length c0_2) := (blk_cell BK116.out 2).trans rfl
         have hcz30_3 : wc.cell? ⟨gb116, 3, none⟩ = some (.float .f64 a0_3) := (blk_cell BK116.out 3).trans rfl
         have hcz30_4 : wc.cell? ⟨gb116, 4, none⟩ = some (.float .f64 a0_4) := (blk_cell BK116.out 4).trans rfl
         have hcz30_5 : wc.cell? ⟨gb116, 5, none⟩ = some (.slice A0_5 l0_5.length c0_5) := (blk_cell BK116.out 5).trans rfl
         have hfz30_0 := blk_frozen BK116.out 0
         have hfz30_1 := blk_frozen BK116.out 1
         have hfz30_2 := blk_frozen BK116.out 2
         have hfz30_3 := blk_frozen BK116.out 3
         have hfz30_4 := blk_frozen BK116.out 4
         have hfz30_5 := blk_frozen BK116.out 5
         go_wp2
         go_meet
         case rel => exact ⟨_, H', ⟨by have := HJ6.out; first | omega | exact Nat.le_refl _⟩, ⟨by (with_reducible repeat (first | refine blk_drewN ?_ _ | refine blk_drew ?_ | refine blk_alloc ?_ _)); exact BK116.out⟩, ⟨by repeat (first | (with_reducible first | exact HB.out | apply below_alloc | apply pw_below_drewN | apply below_drew1 | refine below_set ?_ GE116.out) | exact HB.out)⟩⟩
        ·rw [if_neg c29] at H
         have c29b0 : ((l0_5.length : Int) == 1) = false := beq_eq_false_iff_ne.mpr c29
         have c29b1 : ((l0_5.length : Int) != 1) = true := bne_iff_ne.mpr c29
         obtain rfl := Option.some.inj H
         have hcz31_0 : wc.cell? ⟨gb116, 0, none⟩ = some (.int .i64 a0_0) := (blk_cell BK116.out 0).trans rfl
         have hcz31_1 : wc.cell? ⟨gb116, 1, none⟩ = some (.int .i64 a0_1) := (blk_cell BK116.out 1).trans rfl
         have hcz31_2 : wc.cell? ⟨gb116, 2, none⟩ = some (.slice A0_2 l0_2.length c0_2) := (blk_cell BK116.out 2).trans rfl
         have hcz31_3 : wc.cell? ⟨gb116, 3, none⟩ = some (.float .f64 a0_3) := (blk_cell BK116.out 3).trans rfl
         have hcz31_4 : wc.cell? ⟨gb116, 4, none⟩ = some (.float .f64 a0_4) := (blk_cell BK116.out 4).trans rfl
         have hcz31_5 : wc.cell? ⟨gb116, 5, none⟩ = some (.slice A0_5 l0_5.length c0_5) := (blk_cell BK116.out 5).trans rfl
         have hfz31_0 := blk_frozen BK116.out 0
         have hfz31_1 := blk_frozen BK116.out 1
         have hfz31_2 := blk_frozen BK116.out 2
         have hfz31_3 := blk_frozen BK116.out 3
         have hfz31_4 := blk_frozen BK116.out 4
         have hfz31_5 := blk_frozen BK116.out 5
         go_wp2
         go_ret
         exact ⟨by first | rfl | (simp [errW_none, errW_some] <;> rfl) | (simp [*, errW_none, errW_some] <;> rfl), by repeat (first | (with_reducible first | exact HB.out | apply below_alloc | apply pw_below_drewN | apply below_drew1 | refine below_set ?_ GE116.out) | exact HB.out)⟩
       ·rw [if_neg c28] at H
        have c28b0 : (a0_0 == 2) = false := beq_eq_false_iff_ne.mpr c28
        have c28b1 : (a0_0 != 2) = true := bne_iff_ne.mpr c28
        have HC32 := Aside0.mk H
        clear H
        go_upto_if 44 with (fail)
        go_cut [44] (fun v44 wc => ∃ (kq : Nat) (x44_31 : Bool), v44 = .bool x44_31 ∧ Aside0 (gatewardenref11_Right.j1 kq x44_31 a0_0 a0_1 l0_2 a0_3 a0_4 l0_5 = some r) ∧ Aside0 (kq ≤ kj6) ∧ Aside0 (wc.heap[gb116]? = some (.cells #[.int .i64 a0_0, .int .i64 a0_1, (.slice A0_2 l0_2.length c0_2), .float .f64 a0_3, .float .f64 a0_4, (.slice A0_5 l0_5.length c0_5)] 26 (0, 0))) ∧ Aside0 (Below w.heap.size w wc))
        case first =>
         have H := HC32.out
         clear HC32
         by_cases c33 : a0_0 = 3
         ·rw [if_pos c33] at H
          have c33b0 : (a0_0 == 3) = true := beq_iff_eq.mpr c33
          have c33b1 : (a0_0 != 3) = false := bne_eq_false_iff_eq.mpr c33
          clear c33
          (first | rw [c33b0] | (simp only [i64_w, i32_w]; rw [c33b0]) | skip)
          have H' := Aside0.mk H
          clear H
          go_wp2
          go_meet
          case rel => exact ⟨_, ((a0_0 == 3)), (by first | rfl | (simp; done) | (simp [*]; done)), H', ⟨by have := HJ6.out; first | omega | exact Nat.le_refl _⟩, ⟨by (with_reducible repeat (first | refine blk_drewN ?_ _ | refine blk_drew ?_ | refine blk_alloc ?_ _)); exact BK116.out⟩, ⟨by repeat (first | (with_reducible first | exact HB.out | apply below_alloc | apply pw_below_drewN | apply below_drew1 | refine below_set ?_ GE116.out) | exact HB.out)⟩⟩
         ·rw [if_neg c33] at H
          have c33b0 : (a0_0 == 3) = false := beq_eq_false_iff_ne.mpr c33
          have c33b1 : (a0_0 != 3) = true := bne_iff_ne.mpr c33
          (first | rw [c33b0] | (simp only [i64_w, i32_w]; rw [c33b0]) | skip)
          have H' := Aside0.mk H
          clear H
          go_wp2
          go_meet
          case rel => exact ⟨_, ((a0_0 == 4)), (by first | rfl | (simp; done) | (simp [*]; done)), H', ⟨by have := HJ6.out; first | omega | exact Nat.le_refl _⟩, ⟨by (with_reducible repeat (first | refine blk_drewN ?_ _ | refine blk_drew ?_ | refine blk_alloc ?_ _)); exact BK116.out⟩, ⟨by repeat (first | (with_reducible first | exact HB.out | apply below_alloc | apply pw_below_drewN | apply below_drew1 | refine below_set ?_ GE116.out) | exact HB.out)⟩⟩
        case rest =>
         clear HC32
         try clear c1
         try clear c2
         try clear c2b0
         try clear c2b1
         try clear p2
         try clear c3
         try clear c10
         try clear c10b0
         try clear c10b1
         try clear c11
         try clear c11b0
         try clear c11b1
         try clear c14
         try clear c23
         try clear c26
         try clear c26b0
         try clear c26b1
         try clear c28
         try clear c28b0
         try clear c28b1
         try clear c29
         try clear c29b0
         try clear c29b1
         try clear c33
         try clear c33b0
         try clear c33b1
         try clear hcz12_0
         try clear hcz12_1
         try clear hcz12_2
         try clear hcz12_3
         try clear hcz12_4
         try clear hcz12_5
         try clear hcz16_0
         try clear hcz16_1
         try clear hcz16_2
         try clear hcz16_3
         try clear hcz16_4
         try clear hcz16_5
         try clear hcz18_0
         try clear hcz18_1
         try clear hcz18_2
         try clear hcz18_3
         try clear hcz18_4
         try clear hcz18_5
         try clear hcz20_0
         try clear hcz20_1
         try clear hcz20_2
         try clear hcz20_3
         try clear hcz20_4
         try clear hcz20_5
         try clear hcz22_0
         try clear hcz22_1
         try clear hcz22_2
         try clear hcz22_3
         try clear hcz22_4
         try clear hcz22_5
         try clear hcz25_0
         try clear hcz25_1
         try clear hcz25_2
         try clear hcz25_3
         try clear hcz25_4
         try clear hcz25_5
         try clear hcz27_0
         try clear hcz27_1
         try clear hcz27_2
         try clear hcz27_3
         try clear hcz27_4
         try clear hcz27_5
         try clear hcz30_0
         try clear hcz30_1
         try clear hcz30_2
         try clear hcz30_3
         try clear hcz30_4
         try clear hcz30_5
         try clear hcz31_0
         try clear hcz31_1
         try clear hcz31_2
         try clear hcz31_3
         try clear hcz31_4
         try clear hcz31_5
         try clear hcz5_0
         try clear hcz5_1
         try clear hcz5_2
         try clear hcz5_3
         try clear hcz5_4
         try clear hcz5_5
         try clear hcz9_0
         try clear hcz9_1
         try clear hcz9_2
         try clear hcz9_3
         try clear hcz9_4
         try clear hcz9_5
         try clear hfz12_0
         try clear hfz12_1
         try clear hfz12_2
         try clear hfz12_3
         try clear hfz12_4
         try clear hfz12_5
         try clear hfz16_0
         try clear hfz16_1
         try clear hfz16_2
         try clear hfz16_3
         try clear hfz16_4
         try clear hfz16_5
         try clear hfz18_0
         try clear hfz18_1
         try clear hfz18_2
         try clear hfz18_3
         try clear hfz18_4
         try clear hfz18_5
         try clear hfz20_0
         try clear hfz20_1
         try clear hfz20_2
         try clear hfz20_3
         try clear hfz20_4
         try clear hfz20_5
         try clear hfz22_0
         try clear hfz22_1
         try clear hfz22_2
         try clear hfz22_3
         try clear hfz22_4
         try clear hfz22_5
         try clear hfz25_0
         try clear hfz25_1
         try clear hfz25_2
         try clear hfz25_3
         try clear hfz25_4
         try clear hfz25_5
         try clear hfz27_0
         try clear hfz27_1
         try clear hfz27_2
         try clear hfz27_3
         try clear hfz27_4
         try clear hfz27_5
         try clear hfz30_0
         try clear hfz30_1
         try clear hfz30_2
         try clear hfz30_3
         try clear hfz30_4
         try clear hfz30_5
         try clear hfz31_0
         try clear hfz31_1
         try clear hfz31_2
         try clear hfz31_3
         try clear hfz31_4
         try clear hfz31_5
         try clear hfz5_0
         try clear hfz5_1
         try clear hfz5_2
         try clear hfz5_3
         try clear hfz5_4
         try clear hfz5_5
         try clear hfz9_0
         try clear hfz9_1
         try clear hfz9_2
         try clear hfz9_3
         try clear hfz9_4
         try clear hfz9_5
         try clear p2
         obtain ⟨kq, x44_31, rfl, HA, HJ31, BK116, HB⟩ := hcut
         cases kq with
         | zero => exact absurd HA.out (by simp [gatewardenref11_Right.j1])
         | succ kj31 =>
          have H := HA.out
          clear HA
          simp only [gatewardenref11_Right.j1] at H
          by_cases c34 : x44_31 = true
          ·subst c34
           have H1 : (if (l0_5.length : Int) < 2 then (some false) else (gatewardenref11_Right.j2 kj31 a0_0 a0_1 l0_2 a0_3 a0_4 l0_5)) = some r := by rw [if_pos rfl] at H; exact H
           clear H
           have H := H1
           clear H1
           by_cases c35 : (l0_5.length : Int) < 2
           ·rw [if_pos c35] at H
            have c35b0 : decide ((l0_5.length : Int) < 2) = true := decide_eq_true c35
            have c35b1 : decide (l0_5.length < 2) = true := decide_eq_true (by omega)
            clear c35
            obtain rfl := Option.some.inj H
            have hcz36_0 : wc.cell? ⟨gb116, 0, none⟩ = some (.int .i64 a0_0) := (blk_cell BK116.out 0).trans rfl
            have hcz36_1 : wc.cell? ⟨gb116, 1, none⟩ = some (.int .i64 a0_1) := (blk_cell BK116.out 1).trans rfl
            have hcz36_2 : wc.cell? ⟨gb116, 2, none⟩ = some (.slice A0_2 l0_2.length c0_2) := (blk_cell BK116.out 2).trans rfl
            have hcz36_3 : wc.cell? ⟨gb116, 3, none⟩ = some (.float .f64 a0_3) := (blk_cell BK116.out 3).trans rfl
            have hcz36_4 : wc.cell? ⟨gb116, 4, none⟩ = some (.float .f64 a0_4) := (blk_cell BK116.out 4).trans rfl
            have hcz36_5 : wc.cell? ⟨gb116, 5, none⟩ = some (.slice A0_5 l0_5.length c0_5) := (blk_cell BK116.out 5).trans rfl
            have hfz36_0 := blk_frozen BK116.out 0
            have hfz36_1 := blk_frozen BK116.out 1
            have hfz36_2 := blk_frozen BK116.out 2
            have hfz36_3 := blk_frozen BK116.out 3
            have hfz36_4 := blk_frozen BK116.out 4
            have hfz36_5 := blk_frozen BK116.out 5
            go_wp2
            go_ret
            exact ⟨by first | rfl | (simp [errW_none, errW_some] <;> rfl) | (simp [*, errW_none, errW_some] <;> rfl), by repeat (first | (with_reducible first | exact HB.out | apply below_alloc | apply pw_below_drewN | apply below_drew1 | refine below_set ?_ GE116.out) | exact HB.out)⟩
           ·rw [if_neg c35] at H
            have c35b0 : decide ((l0_5.length : Int) < 2) = false := decide_eq_false c35
            have c35b1 : decide (l0_5.length < 2) = false := decide_eq_false (by omega)
            clear c35
            have H' := Aside0.mk H
            clear H
            have hcz37_0 : wc.cell? ⟨gb116, 0, none⟩ = some (.int .i64 a0_0) := (blk_cell BK116.out 0).trans rfl
            have hcz37_1 : wc.cell? ⟨gb116, 1, none⟩ = some (.int .i64 a0_1) := (blk_cell BK116.out 1).trans rfl
            have hcz37_2 : wc.cell? ⟨gb116, 2, none⟩ = some (.slice A0_2 l0_2.length c0_2) := (blk_cell BK116.out 2).trans rfl
            have hcz37_3 : wc.cell? ⟨gb116, 3, none⟩ = some (.float .f64 a0_3) := (blk_cell BK116.out 3).trans rfl
            have hcz37_4 : wc.cell? ⟨gb116, 4, none⟩ = some (.float .f64 a0_4) := (blk_cell BK116.out 4).trans rfl
            have hcz37_5 : wc.cell? ⟨gb116, 5, none⟩ = some (.slice A0_5 l0_5.length c0_5) := (blk_cell BK116.out 5).trans rfl
            have hfz37_0 := blk_frozen BK116.out 0
            have hfz37_1 := blk_frozen BK116.out 1
            have hfz37_2 := blk_frozen BK116.out 2
            have hfz37_3 := blk_frozen BK116.out 3
            have hfz37_4 := blk_frozen BK116.out 4
            have hfz37_5 := blk_frozen BK116.out 5
            go_wp2
            go_meet
            case rel => exact ⟨_, H', ⟨by have := HJ6.out; have := HJ31.out; first | omega | exact Nat.le_refl _⟩, ⟨by (with_reducible repeat (first | refine blk_drewN ?_ _ | refine blk_drew ?_ | refine blk_alloc ?_ _)); exact BK116.out⟩, ⟨by repeat (first | (with_reducible first | exact HB.out | apply below_alloc | apply pw_below_drewN | apply below_drew1 | refine below_set ?_ GE116.out) | exact HB.out)⟩⟩
          ·replace c34 := Bool.eq_false_iff.mpr c34
           subst c34
           have H1 : (some false) = some r := by rw [if_neg (show ¬ (false = true) by decide)] at H; exact H
           clear H
           have H := H1
           clear H1
           obtain rfl := Option.some.inj H
           go_wp2
           go_ret
           exact ⟨by first | rfl | (simp [errW_none, errW_some] <;> rfl) | (simp [*, errW_none, errW_some] <;> rfl), by repeat (first | (with_reducible first | exact HB.out | apply below_alloc | apply pw_below_drewN | apply below_drew1 | refine below_set ?_ GE116.out) | exact HB.out)⟩
     case rest =>
      clear HC24
      try clear c1
      try clear c2
      try clear c2b0
      try clear c2b1
      try clear p2
      try clear c3
      try clear c10
      try clear c10b0
      try clear c10b1
      try clear c11
      try clear c11b0
      try clear c11b1
      try clear c14
      try clear c23
      try clear c26
      try clear c26b0
      try clear c26b1
      try clear c28
      try clear c28b0
      try clear c28b1
      try clear c29
      try clear c29b0
      try clear c29b1
      try clear c33
      try clear c33b0
      try clear c33b1
      try clear c34
      try clear c35
      try clear c35b0
      try clear c35b1
      try clear hcz12_0
      try clear hcz12_1
      try clear hcz12_2
      try clear hcz12_3
      try clear hcz12_4
      try clear hcz12_5
      try clear hcz16_0
      try clear hcz16_1
      try clear hcz16_2
      try clear hcz16_3
      try clear hcz16_4
      try clear hcz16_5
      try clear hcz18_0
      try clear hcz18_1
      try clear hcz18_2
      try clear hcz18_3
      try clear hcz18_4
      try clear hcz18_5
      try clear hcz20_0
      try clear hcz20_1
      try clear hcz20_2
      try clear hcz20_3
      try clear hcz20_4
      try clear hcz20_5
      try clear hcz22_0
      try clear hcz22_1
      try clear hcz22_2
      try clear hcz22_3
      try clear hcz22_4
      try clear hcz22_5
      try clear hcz25_0
      try clear hcz25_1
      try clear hcz25_2
      try clear hcz25_3
      try clear hcz25_4
      try clear hcz25_5
      try clear hcz27_0
      try clear hcz27_1
      try clear hcz27_2
      try clear hcz27_3
      try clear hcz27_4
      try clear hcz27_5
      try clear hcz30_0
      try clear hcz30_1
      try clear hcz30_2
      try clear hcz30_3
      try clear hcz30_4
      try clear hcz30_5
      try clear hcz31_0
      try clear hcz31_1
      try clear hcz31_2
      try clear hcz31_3
      try clear hcz31_4
      try clear hcz31_5
      try clear hcz36_0
      try clear hcz36_1
      try clear hcz36_2
      try clear hcz36_3
      try clear hcz36_4
      try clear hcz36_5
      try clear hcz37_0
      try clear hcz37_1
      try clear hcz37_2
      try clear hcz37_3
      try clear hcz37_4
      try clear hcz37_5
      try clear hcz5_0
      try clear hcz5_1
      try clear hcz5_2
      try clear hcz5_3
      try clear hcz5_4
      try clear hcz5_5
      try clear hcz9_0
      try clear hcz9_1
      try clear hcz9_2
      try clear hcz9_3
      try clear hcz9_4
      try clear hcz9_5
      try clear hfz12_0
      try clear hfz12_1
      try clear hfz12_2
      try clear hfz12_3
      try clear hfz12_4
      try clear hfz12_5
      try clear hfz16_0
      try clear hfz16_1
      try clear hfz16_2
      try clear hfz16_3
      try clear hfz16_4
      try clear hfz16_5
      try clear hfz18_0
      try clear hfz18_1
      try clear hfz18_2
      try clear hfz18_3
      try clear hfz18_4
      try clear hfz18_5
      try clear hfz20_0
      try clear hfz20_1
      try clear hfz20_2
      try clear hfz20_3
      try clear hfz20_4
      try clear hfz20_5
      try clear hfz22_0
      try clear hfz22_1
      try clear hfz22_2
      try clear hfz22_3
      try clear hfz22_4
      try clear hfz22_5
      try clear hfz25_0
      try clear hfz25_1
      try clear hfz25_2
      try clear hfz25_3
      try clear hfz25_4
      try clear hfz25_5
      try clear hfz27_0
      try clear hfz27_1
      try clear hfz27_2
      try clear hfz27_3
      try clear hfz27_4
      try clear hfz27_5
      try clear hfz30_0
      try clear hfz30_1
      try clear hfz30_2
      try clear hfz30_3
      try clear hfz30_4
      try clear hfz30_5
      try clear hfz31_0
      try clear hfz31_1
      try clear hfz31_2
      try clear hfz31_3
      try clear hfz31_4
      try clear hfz31_5
      try clear hfz36_0
      try clear hfz36_1
      try clear hfz36_2
      try clear hfz36_3
      try clear hfz36_4
      try clear hfz36_5
      try clear hfz37_0
      try clear hfz37_1
      try clear hfz37_2
      try clear hfz37_3
      try clear hfz37_4
      try clear hfz37_5
      try clear hfz5_0
      try clear hfz5_1
      try clear hfz5_2
      try clear hfz5_3
      try clear hfz5_4
      try clear hfz5_5
      try clear hfz9_0
      try clear hfz9_1
      try clear hfz9_2
      try clear hfz9_3
      try clear hfz9_4
      try clear hfz9_5
      try clear p2
      obtain ⟨kq, HA, HJ23, BK116, HB⟩ := hcut
      cases kq with
      | zero => exact absurd HA.out (by simp [gatewardenref11_Right.j2])
      | succ kj23 =>
       have H := HA.out
       clear HA
       simp only [gatewardenref11_Right.j2] at H
       have H' := Aside0.mk H
       clear H
       go_wp2
       go_loopg [3] kj23 (fun kq v3 w' => ∃ (x3_3 : Int), v3 = .int .i64 x3_3 ∧ Aside0 (gatewardenref11_Right.l0 kq x3_3 a0_0 a0_1 l0_2 a0_3 a0_4 l0_5 = some r) ∧ Aside0 (kq ≤ kj23) ∧ Aside0 (w'.heap[gb116]? = some (.cells #[.int .i64 a0_0, .int .i64 a0_1, (.slice A0_2 l0_2.length c0_2), .float .f64 a0_3, .float .f64 a0_4, (.slice A0_5 l0_5.length c0_5)] 26 (0, 0))) ∧ Aside0 (Below w.heap.size w w'))
       case atStart => exact ⟨(0), (by first | rfl | (simp; done) | (simp [*]; done)), H', ⟨Nat.le_refl _⟩, ⟨by (with_reducible repeat (first | refine blk_drewN ?_ _ | refine blk_drew ?_ | refine blk_alloc ?_ _)); exact BK116.out⟩, ⟨by repeat (first | (with_reducible first | exact HB.out | apply below_alloc | apply pw_below_drewN | apply below_drew1 | refine below_set ?_ GE116.out) | exact HB.out)⟩⟩
       case round =>
        clear H'
        try clear c1
        try clear c2
        try clear c2b0
        try clear c2b1
        try clear p2
        try clear c3
        try clear c10
        try clear c10b0
        try clear c10b1
        try clear c11
        try clear c11b0
        try clear c11b1
        try clear c14
        try clear c23
        try clear c26
        try clear c26b0
        try clear c26b1
        try clear c28
        try clear c28b0
        try clear c28b1
        try clear c29
        try clear c29b0
        try clear c29b1
        try clear c33
        try clear c33b0
        try clear c33b1
        try clear c34
        try clear c35
        try clear c35b0
        try clear c35b1
        try clear hcz12_0
        try clear hcz12_1
        try clear hcz12_2
        try clear hcz12_3
        try clear hcz12_4
        try clear hcz12_5
        try clear hcz16_0
        try clear hcz16_1
        try clear hcz16_2
        try clear hcz16_3
        try clear hcz16_4
        try clear hcz16_5
        try clear hcz18_0
        try clear hcz18_1
        try clear hcz18_2
        try clear hcz18_3
        try clear hcz18_4
        try clear hcz18_5
        try clear hcz20_0
        try clear hcz20_1
        try clear hcz20_2
        try clear hcz20_3
        try clear hcz20_4
        try clear hcz20_5
        try clear hcz22_0
        try clear hcz22_1
        try clear hcz22_2
        try clear hcz22_3
        try clear hcz22_4
        try clear hcz22_5
        try clear hcz25_0
        try clear hcz25_1
        try clear hcz25_2
        try clear hcz25_3
        try clear hcz25_4
        try clear hcz25_5
        try clear hcz27_0
        try clear hcz27_1
        try clear hcz27_2
        try clear hcz27_3
        try clear hcz27_4
        try clear hcz27_5
        try clear hcz30_0
        try clear hcz30_1
        try clear hcz30_2
        try clear hcz30_3
        try clear hcz30_4
        try clear hcz30_5
        try clear hcz31_0
        try clear hcz31_1
        try clear hcz31_2
        try clear hcz31_3
        try clear hcz31_4
        try clear hcz31_5
        try clear hcz36_0
        try clear hcz36_1
        try clear hcz36_2
        try clear hcz36_3
        try clear hcz36_4
        try clear hcz36_5
        try clear hcz37_0
        try clear hcz37_1
        try clear hcz37_2
        try clear hcz37_3
        try clear hcz37_4
        try clear hcz37_5
        try clear hcz5_0
        try clear hcz5_1
        try clear hcz5_2
        try clear hcz5_3
        try clear hcz5_4
        try clear hcz5_5
        try clear hcz9_0
        try clear hcz9_1
        try clear hcz9_2
        try clear hcz9_3
        try clear hcz9_4
        try clear hcz9_5
        try clear hfz12_0
        try clear hfz12_1
        try clear hfz12_2
        try clear hfz12_3
        try clear hfz12_4
        try clear hfz12_5
        try clear hfz16_0
        try clear hfz16_1
        try clear hfz16_2
        try clear hfz16_3
        try clear hfz16_4
        try clear hfz16_5
        try clear hfz18_0
        try clear hfz18_1
        try clear hfz18_2
        try clear hfz18_3
        try clear hfz18_4
        try clear hfz18_5
        try clear hfz20_0
        try clear hfz20_1
        try clear hfz20_2
        try clear hfz20_3
        try clear hfz20_4
        try clear hfz20_5
        try clear hfz22_0
        try clear hfz22_1
        try clear hfz22_2
        try clear hfz22_3
        try clear hfz22_4
        try clear hfz22_5
        try clear hfz25_0
        try clear hfz25_1
        try clear hfz25_2
        try clear hfz25_3
        try clear hfz25_4
        try clear hfz25_5
        try clear hfz27_0
        try clear hfz27_1
        try clear hfz27_2
        try clear hfz27_3
        try clear hfz27_4
        try clear hfz27_5
        try clear hfz30_0
        try clear hfz30_1
        try clear hfz30_2
        try clear hfz30_3
        try clear hfz30_4
        try clear hfz30_5
        try clear hfz31_0
        try clear hfz31_1
        try clear hfz31_2
        try clear hfz31_3
        try clear hfz31_4
        try clear hfz31_5
        try clear hfz36_0
        try clear hfz36_1
        try clear hfz36_2
        try clear hfz36_3
        try clear hfz36_4
        try clear hfz36_5
        try clear hfz37_0
        try clear hfz37_1
        try clear hfz37_2
        try clear hfz37_3
        try clear hfz37_4
        try clear hfz37_5
        try clear hfz5_0
        try clear hfz5_1
        try clear hfz5_2
        try clear hfz5_3
        try clear hfz5_4
        try clear hfz5_5
        try clear hfz9_0
        try clear hfz9_1
        try clear hfz9_2
        try clear hfz9_3
        try clear hfz9_4
        try clear hfz9_5
        try clear p2
        obtain ⟨x3_3, rfl, HA, HK3, BK116, HB⟩ := hrel
        cases gk with
        | zero => exact absurd HA.out (by simp [gatewardenref11_Right.l0])
        | succ k3 =>
         have H := HA.out
         clear HA
         simp only [gatewardenref11_Right.l0] at H
         by_cases c38 : x3_3 < (l0_5.length : Int)
         ·rw [if_pos c38] at H
          have c38b0 : decide (x3_3 < (l0_5.length : Int)) = true := decide_eq_true c38
          clear c38
          by_cases c39 : 0 ≤ x3_3
          ·rw [if_pos c39] at H
           have c39b0 : decide (0 ≤ x3_3) = true := decide_eq_true c39
           clear c39
           by_cases c40 : ((rd_T26 l0_5 x3_3).f0) = 0
           ·rw [if_pos c40] at H
            have c40b0 : (((rd_T26 l0_5 x3_3).f0) == 0) = true := beq_iff_eq.mpr c40
            have c40b1 : (((rd_T26 l0_5 x3_3).f0) != 0) = false := bne_eq_false_iff_eq.mpr c40
            clear c40
            obtain rfl := Option.some.inj H
            have hcz41_0 : wr.cell? ⟨gb116, 0, none⟩ = some (.int .i64 a0_0) := (blk_cell BK116.out 0).trans rfl
            have hcz41_1 : wr.cell? ⟨gb116, 1, none⟩ = some (.int .i64 a0_1) := (blk_cell BK116.out 1).trans rfl
            have hcz41_2 : wr.cell? ⟨gb116, 2, none⟩ = some (.slice A0_2 l0_2.length c0_2) := (blk_cell BK116.out 2).trans rfl
            have hcz41_3 : wr.cell? ⟨gb116, 3, none⟩ = some (.float .f64 a0_3) := (blk_cell BK116.out 3).trans rfl
            have hcz41_4 : wr.cell? ⟨gb116, 4, none⟩ = some (.float .f64 a0_4) := (blk_cell BK116.out 4).trans rfl
            have hcz41_5 : wr.cell? ⟨gb116, 5, none⟩ = some (.slice A0_5 l0_5.length c0_5) := (blk_cell BK116.out 5).trans rfl
            have hfz41_0 := blk_frozen BK116.out 0
            have hfz41_1 := blk_frozen BK116.out 1
            have hfz41_2 := blk_frozen BK116.out 2
            have hfz41_3 := blk_frozen BK116.out 3
            have hfz41_4 := blk_frozen BK116.out 4
            have hfz41_5 := blk_frozen BK116.out 5
            have p120 : 0 ≤ (x3_3 : Int) := of_decide_eq_true (by first | (with_reducible assumption) | assumption)
            have q120 : x3_3 < (l0_5.length : Int) := of_decide_eq_true (by first | (with_reducible assumption) | assumption)
            obtain ⟨ad120, A120_2, c120_2, A120_5, c120_5, e120, hx120_0, hx120_1, hx120_2, hx120_3, hx120_4, hx120_5, hl120_2, hi120_2, hl120_5, hi120_5⟩ := at_T26 HR0_5.out x3_3 p120 q120
            cases e120
            replace hx120_0 := (HB.out.cell (World.block_lt_of_cell? w _ hx120_0)).trans hx120_0
            replace hx120_1 := (HB.out.cell (World.block_lt_of_cell? w _ hx120_1)).trans hx120_1
            replace hx120_2 := (HB.out.cell (World.block_lt_of_cell? w _ hx120_2)).trans hx120_2
            replace hx120_3 := (HB.out.cell (World.block_lt_of_cell? w _ hx120_3)).trans hx120_3
            replace hx120_4 := (HB.out.cell (World.block_lt_of_cell? w _ hx120_4)).trans hx120_4
            replace hx120_5 := (HB.out.cell (World.block_lt_of_cell? w _ hx120_5)).trans hx120_5
            have HR120_2 := Aside0.mk hi120_2
            have HC120_2 := Aside0.mk hl120_2
            clear hi120_2 hl120_2
            have HR120_5 := Aside0.mk hi120_5
            have HC120_5 := Aside0.mk hl120_5
            clear hi120_5 hl120_5
            replace p120 := eq_true p120
            replace q120 := eq_true q120
            go_wp2
            go_ret
            exact ⟨by first | rfl | (simp [errW_none, errW_some] <;> rfl) | (simp [*, errW_none, errW_some] <;> rfl), by repeat (first | (with_reducible first | exact HB.out | apply below_alloc | apply pw_below_drewN | apply below_drew1 | refine below_set ?_ GE116.out) | exact HB.out)⟩
           ·rw [if_neg c40] at H
            have c40b0 : (((rd_T26 l0_5 x3_3).f0) == 0) = false := beq_eq_false_iff_ne.mpr c40
            have c40b1 : (((rd_T26 l0_5 x3_3).f0) != 0) = true := bne_iff_ne.mpr c40
            replace H := Option.bind_eq_some_iff.mp H
            obtain ⟨t122, A420, H⟩ := H
            replace H : (if t122 = true then (gatewardenref11_Right.l0 k3 (wrap64 (x3_3 + 1)) a0_0 a0_1 l0_2 a0_3 a0_4 l0_5) else (some false)) = some r := H
            have A42 := Aside0.mk A420
            clear A420
            by_cases c43 : t122 = true
            ·subst c43
             have H1 : (gatewardenref11_Right.l0 k3 (wrap64 (x3_3 + 1)) a0_0 a0_1 l0_2 a0_3 a0_4 l0_5) = some r := by rw [if_pos rfl] at H; exact H
             clear H
             have H := H1
             clear H1
             have H' := Aside0.mk H
             clear H
             have hcz44_0 : wr.cell? ⟨gb116, 0, none⟩ = some (.int .i64 a0_0) := (blk_cell BK116.out 0).trans rfl
             have hcz44_1 : wr.cell? ⟨gb116, 1, none⟩ = some (.int .i64 a0_1) := (blk_cell BK116.out 1).trans rfl
             have hcz44_2 : wr.cell? ⟨gb116, 2, none⟩ = some (.slice A0_2 l0_2.length c0_2) := (blk_cell BK116.out 2).trans rfl
             have hcz44_3 : wr.cell? ⟨gb116, 3, none⟩ = some (.float .f64 a0_3) := (blk_cell BK116.out 3).trans rfl
             have hcz44_4 : wr.cell? ⟨gb116, 4, none⟩ = some (.float .f64 a0_4) := (blk_cell BK116.out 4).trans rfl
             have hcz44_5 : wr.cell? ⟨gb116, 5, none⟩ = some (.slice A0_5 l0_5.length c0_5) := (blk_cell BK116.out 5).trans rfl
             have hfz44_0 := blk_frozen BK116.out 0
             have hfz44_1 := blk_frozen BK116.out 1
             have hfz44_2 := blk_frozen BK116.out 2
             have hfz44_3 := blk_frozen BK116.out 3
             have hfz44_4 := blk_frozen BK116.out 4
             have hfz44_5 := blk_frozen BK116.out 5
             have p120 : 0 ≤ (x3_3 : Int) := of_decide_eq_true (by first | (with_reducible assumption) | assumption)
             have q120 : x3_3 < (l0_5.length : Int) := of_decide_eq_true (by first | (with_reducible assumption) | assumption)
             obtain ⟨ad120, A120_2, c120_2, A120_5, c120_5, e120, hx120_0, hx120_1, hx120_2, hx120_3, hx120_4, hx120_5, hl120_2, hi120_2, hl120_5, hi120_5⟩ := at_T26 HR0_5.out x3_3 p120 q120
             cases e120
             replace hx120_0 := (HB.out.cell (World.block_lt_of_cell? w _ hx120_0)).trans hx120_0
             replace hx120_1 := (HB.out.cell (World.block_lt_of_cell? w _ hx120_1)).trans hx120_1
             replace hx120_2 := (HB.out.cell (World.block_lt_of_cell? w _ hx120_2)).trans hx120_2
             replace hx120_3 := (HB.out.cell (World.block_lt_of_cell? w _ hx120_3)).trans hx120_3
             replace hx120_4 := (HB.out.cell (World.block_lt_of_cell? w _ hx120_4)).trans hx120_4
             replace hx120_5 := (HB.out.cell (World.block_lt_of_cell? w _ hx120_5)).trans hx120_5
             have HR120_2 := Aside0.mk hi120_2
             have HC120_2 := Aside0.mk hl120_2
             clear hi120_2 hl120_2
             have HR120_5 := Aside0.mk hi120_5
             have HC120_5 := Aside0.mk hl120_5
             clear hi120_5 hl120_5
             replace p120 := eq_true p120
             replace q120 := eq_true q120
             have p121 : 0 ≤ (x3_3 : Int) := of_decide_eq_true (by first | (with_reducible assumption) | assumption)
             have q121 : x3_3 < (l0_5.length : Int) := of_decide_eq_true (by first | (with_reducible assumption) | assumption)
             obtain ⟨ad121, A121_2, c121_2, A121_5, c121_5, e121, hx121_0, hx121_1, hx121_2, hx121_3, hx121_4, hx121_5, hl121_2, hi121_2, hl121_5, hi121_5⟩ := at_T26 HR0_5.out x3_3 p121 q121
             obtain rfl : ad120 = ad121 := (by injection e121)
             replace hx121_0 := (HB.out.cell (World.block_lt_of_cell? w _ hx121_0)).trans hx121_0
             replace hx121_1 := (HB.out.cell (World.block_lt_of_cell? w _ hx121_1)).trans hx121_1
             replace hx121_2 := (HB.out.cell (World.block_lt_of_cell? w _ hx121_2)).trans hx121_2
             replace hx121_3 := (HB.out.cell (World.block_lt_of_cell? w _ hx121_3)).trans hx121_3
             replace hx121_4 := (HB.out.cell (World.block_lt_of_cell? w _ hx121_4)).trans hx121_4
             replace hx121_5 := (HB.out.cell (World.block_lt_of_cell? w _ hx121_5)).trans hx121_5
             have HR121_2 := Aside0.mk hi121_2
             have HC121_2 := Aside0.mk hl121_2
             clear hi121_2 hl121_2
             have HR121_5 := Aside0.mk hi121_5
             have HC121_5 := Aside0.mk hl121_5
             clear hi121_5 hl121_5
             replace p121 := eq_true p121
             replace q121 := eq_true q121
             have ea_ := Option.some.inj (hx120_2.symm.trans hx121_2)
             injection ea_ with ea_ en_ ec_
             subst ea_
             subst ec_
             clear en_
             have ea_ := Option.some.inj (hx120_5.symm.trans hx121_5)
             injection ea_ with ea_ en_ ec_
             subst ea_
             subst ec_
             clear en_
             go_wp2_with (first | (go_at_call 10; (with_reducible refine (ih k3 (by have := HJ6.out; have := HJ23.out; have := HK3.out; omega) ((rd_T26 l0_5 x3_3).f0) ((rd_T26 l0_5 x3_3).f1) _ _ ((rd_T26 l0_5 x3_3).f2) ((rd_T26 l0_5 x3_3).f3) ((rd_T26 l0_5 x3_3).f4) _ _ ((rd_T26 l0_5 x3_3).f5) true _ ?side1 ?side2 ?side3 ?side4 A42.out).mono ?_); (case side1 => repeat (first | exact (Kd.C_below HR121_2.out HB.out) | (with_reducible refine Kd.C_alloc ?_ _) | (with_reducible refine Kd.C_drewN ?_ _) | (with_reducible refine Kd.C_drew ?_))); (case side2 => exact HC121_2.out); (case side3 => repeat (first | exact (Kd.C_below HR121_5.out HB.out) | (with_reducible refine Kd.C_alloc ?_ _) | (with_reducible refine Kd.C_drewN ?_ _) | (with_reducible refine Kd.C_drew ?_))); (case side4 => exact HC121_5.out); rintro e w45 ⟨rfl, hb⟩; have n0_ := Aside0.mk (blk_below (g := gb116) (o := .cells #[.int .i64 a0_0, .int .i64 a0_1, .slice A0_2 l0_2.length c0_2, .float .f64 a0_3, .float .f64 a0_4, .slice (some ad120) l0_5.length c0_5] 26 (0, 0)) (by (with_reducible repeat (first | refine blk_drewN ?_ _ | refine blk_drew ?_ | refine blk_alloc ?_ _)); exact BK116.out) hb); have n1_ := Aside0.mk (below_step (by repeat (first | (with_reducible first | exact HB.out | apply below_alloc | apply pw_below_drewN | apply below_drew1 | refine below_set ?_ GE116.out) | exact HB.out)) hb); clear BK116; clear HB; have BK116 := n0_; have HB := n1_; clear n0_ n1_; (try clear hb); (try clear hb2); (try clear hk); (try clear hi)))
             go_roundg k3
             case measure => have := HJ6.out; have := HJ23.out; have := HK3.out; omega
             case rel => exact ⟨(wrap64 (x3_3 + 1)), (by first | rfl | (simp; done) | (simp [*]; done)), H', ⟨by have := HJ6.out; have := HJ23.out; have := HK3.out; omega⟩, ⟨by (with_reducible repeat (first | refine blk_drewN ?_ _ | refine blk_drew ?_ | refine blk_alloc ?_ _)); exact BK116.out⟩, ⟨by repeat (first | (with_reducible first | exact HB.out | apply below_alloc | apply pw_below_drewN | apply below_drew1 | refine below_set ?_ GE116.out) | exact HB.out)⟩⟩
            ·replace c43 := Bool.eq_false_iff.mpr c43
             subst c43
             have H1 : (some false) = some r := by rw [if_neg (show ¬ (false = true) by decide)] at H; exact H
             clear H
             have H := H1
             clear H1
             obtain rfl := Option.some.inj H
             have hcz46_0 : wr.cell? ⟨gb116, 0, none⟩ = some (.int .i64 a0_0) := (blk_cell BK116.out 0).trans rfl
             have hcz46_1 : wr.cell? ⟨gb116, 1, none⟩ = some (.int .i64 a0_1) := (blk_cell BK116.out 1).trans rfl
             have hcz46_2 : wr.cell? ⟨gb116, 2, none⟩ = some (.slice A0_2 l0_2.length c0_2) := (blk_cell BK116.out 2).trans rfl
             have hcz46_3 : wr.cell? ⟨gb116, 3, none⟩ = some (.float .f64 a0_3) := (blk_cell BK116.out 3).trans rfl
             have hcz46_4 : wr.cell? ⟨gb116, 4, none⟩ = some (.float .f64 a0_4) := (blk_cell BK116.out 4).trans rfl
             have hcz46_5 : wr.cell? ⟨gb116, 5, none⟩ = some (.slice A0_5 l0_5.length c0_5) := (blk_cell BK116.out 5).trans rfl
             have hfz46_0 := blk_frozen BK116.out 0
             have hfz46_1 := blk_frozen BK116.out 1
             have hfz46_2 := blk_frozen BK116.out 2
             have hfz46_3 := blk_frozen BK116.out 3
             have hfz46_4 := blk_frozen BK116.out 4
             have hfz46_5 := blk_frozen BK116.out 5
             have p120 : 0 ≤ (x3_3 : Int) := of_decide_eq_true (by first | (with_reducible assumption) | assumption)
             have q120 : x3_3 < (l0_5.length : Int) := of_decide_eq_true (by first | (with_reducible assumption) | assumption)
             obtain ⟨ad120, A120_2, c120_2, A120_5, c120_5, e120, hx120_0, hx120_1, hx120_2, hx120_3, hx120_4, hx120_5, hl120_2, hi120_2, hl120_5, hi120_5⟩ := at_T26 HR0_5.out x3_3 p120 q120
             cases e120
             replace hx120_0 := (HB.out.cell (World.block_lt_of_cell? w _ hx120_0)).trans hx120_0
             replace hx120_1 := (HB.out.cell (World.block_lt_of_cell? w _ hx120_1)).trans hx120_1
             replace hx120_2 := (HB.out.cell (World.block_lt_of_cell? w _ hx120_2)).trans hx120_2
             replace hx120_3 := (HB.out.cell (World.block_lt_of_cell? w _ hx120_3)).trans hx120_3
             replace hx120_4 := (HB.out.cell (World.block_lt_of_cell? w _ hx120_4)).trans hx120_4
             replace hx120_5 := (HB.out.cell (World.block_lt_of_cell? w _ hx120_5)).trans hx120_5
             have HR120_2 := Aside0.mk hi120_2
             have HC120_2 := Aside0.mk hl120_2
             clear hi120_2 hl120_2
             have HR120_5 := Aside0.mk hi120_5
             have HC120_5 := Aside0.mk hl120_5
             clear hi120_5 hl120_5
             replace p120 := eq_true p120
             replace q120 := eq_true q120
             have p121 : 0 ≤ (x3_3 : Int) := of_decide_eq_true (by first | (with_reducible assumption) | assumption)
             have q121 : x3_3 < (l0_5.length : Int) := of_decide_eq_true (by first | (with_reducible assumption) | assumption)
             obtain ⟨ad121, A121_2, c121_2, A121_5, c121_5, e121, hx121_0, hx121_1, hx121_2, hx121_3, hx121_4, hx121_5, hl121_2, hi121_2, hl121_5, hi121_5⟩ := at_T26 HR0_5.out x3_3 p121 q121
             obtain rfl : ad120 = ad121 := (by injection e121)
             replace hx121_0 := (HB.out.cell (World.block_lt_of_cell? w _ hx121_0)).trans hx121_0
             replace hx121_1 := (HB.out.cell (World.block_lt_of_cell? w _ hx121_1)).trans hx121_1
             replace hx121_2 := (HB.out.cell (World.block_lt_of_cell? w _ hx121_2)).trans hx121_2
             replace hx121_3 := (HB.out.cell (World.block_lt_of_cell? w _ hx121_3)).trans hx121_3
             replace hx121_4 := (HB.out.cell (World.block_lt_of_cell? w _ hx121_4)).trans hx121_4
             replace hx121_5 := (HB.out.cell (World.block_lt_of_cell? w _ hx121_5)).trans hx121_5
             have HR121_2 := Aside0.mk hi121_2
             have HC121_2 := Aside0.mk hl121_2
             clear hi121_2 hl121_2
             have HR121_5 := Aside0.mk hi121_5
             have HC121_5 := Aside0.mk hl121_5
             clear hi121_5 hl121_5
             replace p121 := eq_true p121
             replace q121 := eq_true q121
             have ea_ := Option.some.inj (hx120_2.symm.trans hx121_2)
             injection ea_ with ea_ en_ ec_
             subst ea_
             subst ec_
             clear en_
             have ea_ := Option.some.inj (hx120_5.symm.trans hx121_5)
             injection ea_ with ea_ en_ ec_
             subst ea_
             subst ec_
             clear en_
             go_wp2_with (first | (go_at_call 10; (with_reducible refine (ih k3 (by have := HJ6.out; have := HJ23.out; have := HK3.out; omega) ((rd_T26 l0_5 x3_3).f0) ((rd_T26 l0_5 x3_3).f1) _ _ ((rd_T26 l0_5 x3_3).f2) ((rd_T26 l0_5 x3_3).f3) ((rd_T26 l0_5 x3_3).f4) _ _ ((rd_T26 l0_5 x3_3).f5) false _ ?side1 ?side2 ?side3 ?side4 A42.out).mono ?_); (case side1 => repeat (first | exact (Kd.C_below HR121_2.out HB.out) | (with_reducible refine Kd.C_alloc ?_ _) | (with_reducible refine Kd.C_drewN ?_ _) | (with_reducible refine Kd.C_drew ?_))); (case side2 => exact HC121_2.out); (case side3 => repeat (first | exact (Kd.C_below HR121_5.out HB.out) | (with_reducible refine Kd.C_alloc ?_ _) | (with_reducible refine Kd.C_drewN ?_ _) | (with_reducible refine Kd.C_drew ?_))); (case side4 => exact HC121_5.out); rintro e w47 ⟨rfl, hb⟩; have n0_ := Aside0.mk (blk_below (g := gb116) (o := .cells #[.int .i64 a0_0, .int .i64 a0_1, .slice A0_2 l0_2.length c0_2, .float .f64 a0_3, .float .f64 a0_4, .slice (some ad120) l0_5.length c0_5] 26 (0, 0)) (by (with_reducible repeat (first | refine blk_drewN ?_ _ | refine blk_drew ?_ | refine blk_alloc ?_ _)); exact BK116.out) hb); have n1_ := Aside0.mk (below_step (by repeat (first | (with_reducible first | exact HB.out | apply below_alloc | apply pw_below_drewN | apply below_drew1 | refine below_set ?_ GE116.out) | exact HB.out)) hb); clear BK116; clear HB; have BK116 := n0_; have HB := n1_; clear n0_ n1_; (try clear hb); (try clear hb2); (try clear hk); (try clear hi)))
             go_ret
             exact ⟨by first | rfl | (simp [errW_none, errW_some] <;> rfl) | (simp [*, errW_none, errW_some] <;> rfl), by repeat (first | (with_reducible first | exact HB.out | apply below_alloc | apply pw_below_drewN | apply below_drew1 | refine below_set ?_ GE116.out) | exact HB.out)⟩
          ·rw [if_neg c39] at H
           exact absurd H (by simp)
         ·rw [if_neg c38] at H
          have c38b0 : decide (x3_3 < (l0_5.length : Int)) = false := decide_eq_false c38
          clear c38
          obtain rfl := Option.some.inj H
          have hcz48_0 : wr.cell? ⟨gb116, 0, none⟩ = some (.int .i64 a0_0) := (blk_cell BK116.out 0).trans rfl
          have hcz48_1 : wr.cell? ⟨gb116, 1, none⟩ = some (.int .i64 a0_1) := (blk_cell BK116.out 1).trans rfl
          have hcz48_2 : wr.cell? ⟨gb116, 2, none⟩ = some (.slice A0_2 l0_2.length c0_2) := (blk_cell BK116.out 2).trans rfl
          have hcz48_3 : wr.cell? ⟨gb116, 3, none⟩ = some (.float .f64 a0_3) := (blk_cell BK116.out 3).trans rfl
          have hcz48_4 : wr.cell? ⟨gb116, 4, none⟩ = some (.float .f64 a0_4) := (blk_cell BK116.out 4).trans rfl
          have hcz48_5 : wr.cell? ⟨gb116, 5, none⟩ = some (.slice A0_5 l0_5.length c0_5) := (blk_cell BK116.out 5).trans rfl
          have hfz48_0 := blk_frozen BK116.out 0
          have hfz48_1 := blk_frozen BK116.out 1
          have hfz48_2 := blk_frozen BK116.out 2
          have hfz48_3 := blk_frozen BK116.out 3
          have hfz48_4 := blk_frozen BK116.out 4
          have hfz48_5 := blk_frozen BK116.out 5
          go_wp2
          go_ret
          exact ⟨by first | rfl | (simp [errW_none, errW_some] <;> rfl) | (simp [*, errW_none, errW_some] <;> rfl), by repeat (first | (with_reducible first | exact HB.out | apply below_alloc | apply pw_below_drewN | apply below_drew1 | refine below_set ?_ GE116.out) | exact HB.out)⟩
end Go.Proofs.Ytppmcbkcohiodaa.PMeanTells
