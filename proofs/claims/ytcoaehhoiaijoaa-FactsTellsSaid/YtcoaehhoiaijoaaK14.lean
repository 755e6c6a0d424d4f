/- Texts of this claim, put together (wip/pack.py): PFactsTellsx3. -/
import Derived.Test.YtcoaehhoiaijoaaK10
import Derived.Test.YtcoaehhoiaijoaaK13
namespace Go.Proofs.Ytcoaehhoiaijoaa.PFactsTells
open Go.RowKit Go.Proofs.YtcoaehhoiaijoaaW.PrintWords Go.Proofs.YtcoaehhoiaijoaaW.PrintLast Go.Proofs.YtcoaehhoiaijoaaW.PrintMore
attribute [local go_sem] max2_int min2_int max_two min_two max_three min_three max_four min_four   -- for this text's walks alone
set_option linter.unusedVariables false
set_option linter.unusedSimpArgs false

/-! ### gatewardenref06_Formed: function 55 -/
mutual
def gatewardenref06_Formed.j0 : Nat → Bool → Int → Int → Int → Int → Int → List Int → Option (Bool)
 | 0, _, _, _, _, _, _, _ => none
 | k + 1, x50, x104000, x104001, x104002, x104003, x104004, x104005 => if x50 = true then (some false) else ((gatewardenref06_writes.f x104000).bind fun bt106 => (if x104003 < 0 then (gatewardenref06_Formed.j1 k bt106.2.1 bt106.2.2 true x104000 x104001 x104002 x104003 x104004 x104005) else (if x104003 > 65535 then (gatewardenref06_Formed.j1 k bt106.2.1 bt106.2.2 true x104000 x104001 x104002 x104003 x104004 x104005) else (if x104004 < 0 then (gatewardenref06_Formed.j1 k bt106.2.1 bt106.2.2 true x104000 x104001 x104002 x104003 x104004 x104005) else (if x104004 > bt106.1 then (gatewardenref06_Formed.j1 k bt106.2.1 bt106.2.2 true x104000 x104001 x104002 x104003 x104004 x104005) else (if bt106.1 > 0 then (if x104004 = 0 then (gatewardenref06_Formed.j1 k bt106.2.1 bt106.2.2 true x104000 x104001 x104002 x104003 x104004 x104005) else (if bt106.1 = 0 then (gatewardenref06_Formed.j1 k bt106.2.1 bt106.2.2 (x104003 != 0) x104000 x104001 x104002 x104003 x104004 x104005) else (gatewardenref06_Formed.j1 k bt106.2.1 bt106.2.2 false x104000 x104001 x104002 x104003 x104004 x104005))) else (if bt106.1 = 0 then (gatewardenref06_Formed.j1 k bt106.2.1 bt106.2.2 (x104003 != 0) x104000 x104001 x104002 x104003 x104004 x104005) else (gatewardenref06_Formed.j1 k bt106.2.1 bt106.2.2 false x104000 x104001 x104002 x104003 x104004 x104005))))))))
def gatewardenref06_Formed.j1 : Nat → Int → Int → Bool → Int → Int → Int → Int → Int → List Int → Option (Bool)
 | 0, _, _, _, _, _, _, _, _, _ => none
 | k + 1, x5, x6, x94, x104000, x104001, x104002, x104003, x104004, x104005 => if x94 = true then (some false) else (if x5 = 0 then (if (x104005.length : Int) = x104004 then ((gatewardenref06_all.f k x104005 x6).bind fun t109 => (some t109)) else (some false)) else (if (x104005.length : Int) = x5 then ((gatewardenref06_all.f k x104005 x6).bind fun t110 => (some t110)) else (some false)))
end
def gatewardenref06_Formed.f (k : Nat) (a0_0 : Int) (a0_1 : Int) (a0_2 : Int) (a0_3 : Int) (a0_4 : Int) (l0_5 : List Int) : Option (Bool) := (gatewardenref06_Known.f a0_0).bind fun t104 => (if t104 = true then ((gatewardenref06_reads.f k a0_0).bind fun t105 => (if a0_1 < 0 then (gatewardenref06_Formed.j0 k true a0_0 a0_1 a0_2 a0_3 a0_4 l0_5) else (if a0_1 > 65535 then (gatewardenref06_Formed.j0 k true a0_0 a0_1 a0_2 a0_3 a0_4 l0_5) else (if a0_2 < 0 then (gatewardenref06_Formed.j0 k true a0_0 a0_1 a0_2 a0_3 a0_4 l0_5) else (if a0_2 > t105 then (gatewardenref06_Formed.j0 k true a0_0 a0_1 a0_2 a0_3 a0_4 l0_5) else (if t105 > 0 then (if a0_2 = 0 then (gatewardenref06_Formed.j0 k true a0_0 a0_1 a0_2 a0_3 a0_4 l0_5) else (if t105 = 0 then (gatewardenref06_Formed.j0 k (a0_1 != 0) a0_0 a0_1 a0_2 a0_3 a0_4 l0_5) else (gatewardenref06_Formed.j0 k false a0_0 a0_1 a0_2 a0_3 a0_4 l0_5))) else (if t105 = 0 then (gatewardenref06_Formed.j0 k (a0_1 != 0) a0_0 a0_1 a0_2 a0_3 a0_4 l0_5) else (gatewardenref06_Formed.j0 k false a0_0 a0_1 a0_2 a0_3 a0_4 l0_5)))))))) else (some false))
theorem gatewardenref06_Formed.mono_l : ∀ k, (∀ y0 y1 y2 y3 y4 y5 y6, LeO (gatewardenref06_Formed.j0 k y0 y1 y2 y3 y4 y5 y6) (gatewardenref06_Formed.j0 (k + 1) y0 y1 y2 y3 y4 y5 y6)) ∧ (∀ y0 y1 y2 y3 y4 y5 y6 y7 y8, LeO (gatewardenref06_Formed.j1 k y0 y1 y2 y3 y4 y5 y6 y7 y8) (gatewardenref06_Formed.j1 (k + 1) y0 y1 y2 y3 y4 y5 y6 y7 y8))
 | 0 => ⟨fun _ _ _ _ _ _ _ r h => by simp [gatewardenref06_Formed.j0] at h, fun _ _ _ _ _ _ _ _ _ r h => by simp [gatewardenref06_Formed.j1] at h⟩
 | k + 1 => by
  obtain ⟨ih0, ih1⟩ := gatewardenref06_Formed.mono_l k
  refine ⟨?_, ?_⟩
  ·intro y0 y1 y2 y3 y4 y5 y6
   unfold gatewardenref06_Formed.j0
   repeat' first
   | (with_reducible exact ih0 _ _ _ _ _ _ _)
   | (with_reducible exact ih1 _ _ _ _ _ _ _ _ _)
   | (with_reducible exact gatewardenref06_all.mono _ _ _)
   | (with_reducible exact gatewardenref06_reads.mono _ _)
   | (with_reducible exact LeO.refl _)
   | (with_reducible exact LeO.none _)
   | (with_reducible refine LeO.ite ?_ ?_)
   | (with_reducible refine LeO.bind ?_ (fun _ => ?_))
   | exact ih0 _ _ _ _ _ _ _
   | exact ih1 _ _ _ _ _ _ _ _ _
   | exact gatewardenref06_all.mono _ _ _
   | exact gatewardenref06_reads.mono _ _
   | exact LeO.none _
   | refine LeO.ite ?_ ?_
   | refine LeO.bind ?_ (fun _ => ?_)
  ·intro y0 y1 y2 y3 y4 y5 y6 y7 y8
   unfold gatewardenref06_Formed.j1
   repeat' first
   | (with_reducible exact ih0 _ _ _ _ _ _ _)
   | (with_reducible exact ih1 _ _ _ _ _ _ _ _ _)
   | (with_reducible exact gatewardenref06_all.mono _ _ _)
   | (with_reducible exact gatewardenref06_reads.mono _ _)
   | (with_reducible exact LeO.refl _)
   | (with_reducible exact LeO.none _)
   | (with_reducible refine LeO.ite ?_ ?_)
   | (with_reducible refine LeO.bind ?_ (fun _ => ?_))
   | exact ih0 _ _ _ _ _ _ _
   | exact ih1 _ _ _ _ _ _ _ _ _
   | exact gatewardenref06_all.mono _ _ _
   | exact gatewardenref06_reads.mono _ _
   | exact LeO.none _
   | refine LeO.ite ?_ ?_
   | refine LeO.bind ?_ (fun _ => ?_)
theorem gatewardenref06_Formed.mono : ∀ a0 a1 a2 a3 a4 a5 k, LeO (gatewardenref06_Formed.f k a0 a1 a2 a3 a4 a5) (gatewardenref06_Formed.f (k + 1) a0 a1 a2 a3 a4 a5) := by
 intro a0 a1 a2 a3 a4 a5 k
 obtain ⟨ih0, ih1⟩ := gatewardenref06_Formed.mono_l k
 unfold gatewardenref06_Formed.f
 repeat' first
   | (with_reducible exact ih0 _ _ _ _ _ _ _)
   | (with_reducible exact ih1 _ _ _ _ _ _ _ _ _)
   | (with_reducible exact gatewardenref06_all.mono _ _ _)
   | (with_reducible exact gatewardenref06_reads.mono _ _)
   | (with_reducible exact LeO.refl _)
   | (with_reducible exact LeO.none _)
   | (with_reducible refine LeO.ite ?_ ?_)
   | (with_reducible refine LeO.bind ?_ (fun _ => ?_))
   | exact ih0 _ _ _ _ _ _ _
   | exact ih1 _ _ _ _ _ _ _ _ _
   | exact gatewardenref06_all.mono _ _ _
   | exact gatewardenref06_reads.mono _ _
   | exact LeO.none _
   | refine LeO.ite ?_ ?_
   | refine LeO.bind ?_ (fun _ => ?_)
set_option maxHeartbeats 8000000 in
set_option maxRecDepth 100000 in
theorem gatewardenref06_Formed.calls (k : Nat) (a0_0 : Int) (a0_1 : Int) (a0_2 : Int) (a0_3 : Int) (a0_4 : Int) (A0_5 : Option Addr) (c0_5 : Nat) (l0_5 : List Int) (r : Bool) (w : World) (hr0_5 : Kd.C (Kd.int .i64) w A0_5 l0_5.length l0_5) (hc0_5 : l0_5.length ≤ c0_5) (h : gatewardenref06_Formed.f k a0_0 a0_1 a0_2 a0_3 a0_4 l0_5 = some r) :
  Calls Try.prog 55 #[.agg #[.int .i64 a0_0, .int .i64 a0_1, .int .i64 a0_2, .int .i64 a0_3, .int .i64 a0_4, .slice A0_5 l0_5.length c0_5]] w fun e w' => e = .returned (.bool r) ∧ Below w.heap.size w w' := by
 have hu47 := Try.underlying47
 have HR0_5 := Aside0.mk hr0_5
 have HC0_5 := Aside0.mk hc0_5
 clear hr0_5 hc0_5
 have HB := Aside0.mk (Below.refl w.heap.size w)
 have H : ((gatewardenref06_Known.f a0_0).bind fun t104 => (if t104 = true then ((gatewardenref06_reads.f k a0_0).bind fun t105 => (if a0_1 < 0 then (gatewardenref06_Formed.j0 k true a0_0 a0_1 a0_2 a0_3 a0_4 l0_5) else (if a0_1 > 65535 then (gatewardenref06_Formed.j0 k true a0_0 a0_1 a0_2 a0_3 a0_4 l0_5) else (if a0_2 < 0 then (gatewardenref06_Formed.j0 k true a0_0 a0_1 a0_2 a0_3 a0_4 l0_5) else (if a0_2 > t105 then (gatewardenref06_Formed.j0 k true a0_0 a0_1 a0_2 a0_3 a0_4 l0_5) else (if t105 > 0 then (if a0_2 = 0 then (gatewardenref06_Formed.j0 k true a0_0 a0_1 a0_2 a0_3 a0_4 l0_5) else (if t105 = 0 then (gatewardenref06_Formed.j0 k (a0_1 != 0) a0_0 a0_1 a0_2 a0_3 a0_4 l0_5) else (gatewardenref06_Formed.j0 k false a0_0 a0_1 a0_2 a0_3 a0_4 l0_5))) else (if t105 = 0 then (gatewardenref06_Formed.j0 k (a0_1 != 0) a0_0 a0_1 a0_2 a0_3 a0_4 l0_5) else (gatewardenref06_Formed.j0 k false a0_0 a0_1 a0_2 a0_3 a0_4 l0_5)))))))) else (some false))) = some r := h
 clear h
 replace H := Option.bind_eq_some_iff.mp H
 obtain ⟨t104, A20, H⟩ := H
 replace H : (if t104 = true then ((gatewardenref06_reads.f k a0_0).bind fun t105 => (if a0_1 < 0 then (gatewardenref06_Formed.j0 k true a0_0 a0_1 a0_2 a0_3 a0_4 l0_5) else (if a0_1 > 65535 then (gatewardenref06_Formed.j0 k true a0_0 a0_1 a0_2 a0_3 a0_4 l0_5) else (if a0_2 < 0 then (gatewardenref06_Formed.j0 k true a0_0 a0_1 a0_2 a0_3 a0_4 l0_5) else (if a0_2 > t105 then (gatewardenref06_Formed.j0 k true a0_0 a0_1 a0_2 a0_3 a0_4 l0_5) else (if t105 > 0 then (if a0_2 = 0 then (gatewardenref06_Formed.j0 k true a0_0 a0_1 a0_2 a0_3 a0_4 l0_5) else (if t105 = 0 then (gatewardenref06_Formed.j0 k (a0_1 != 0) a0_0 a0_1 a0_2 a0_3 a0_4 l0_5) else (gatewardenref06_Formed.j0 k false a0_0 a0_1 a0_2 a0_3 a0_4 l0_5))) else (if t105 = 0 then (gatewardenref06_Formed.j0 k (a0_1 != 0) a0_0 a0_1 a0_2 a0_3 a0_4 l0_5) else (gatewardenref06_Formed.j0 k false a0_0 a0_1 a0_2 a0_3 a0_4 l0_5)))))))) else (some false)) = some r := H
 have A2 := Aside0.mk A20
 clear A20
 by_cases c3 : t104 = true
 ·subst c3
  have H1 : ((gatewardenref06_reads.f k a0_0).bind fun t105 => (if a0_1 < 0 then (gatewardenref06_Formed.j0 k true a0_0 a0_1 a0_2 a0_3 a0_4 l0_5) else (if a0_1 > 65535 then (gatewardenref06_Formed.j0 k true a0_0 a0_1 a0_2 a0_3 a0_4 l0_5) else (if a0_2 < 0 then (gatewardenref06_Formed.j0 k true a0_0 a0_1 a0_2 a0_3 a0_4 l0_5) else (if a0_2 > t105 then (gatewardenref06_Formed.j0 k true a0_0 a0_1 a0_2 a0_3 a0_4 l0_5) else (if t105 > 0 then (if a0_2 = 0 then (gatewardenref06_Formed.j0 k true a0_0 a0_1 a0_2 a0_3 a0_4 l0_5) else (if t105 = 0 then (gatewardenref06_Formed.j0 k (a0_1 != 0) a0_0 a0_1 a0_2 a0_3 a0_4 l0_5) else (gatewardenref06_Formed.j0 k false a0_0 a0_1 a0_2 a0_3 a0_4 l0_5))) else (if t105 = 0 then (gatewardenref06_Formed.j0 k (a0_1 != 0) a0_0 a0_1 a0_2 a0_3 a0_4 l0_5) else (gatewardenref06_Formed.j0 k false a0_0 a0_1 a0_2 a0_3 a0_4 l0_5)))))))) = some r := by rw [if_pos rfl] at H; exact H
  clear H
  have H := H1
  clear H1
  replace H := Option.bind_eq_some_iff.mp H
  obtain ⟨t105, A40, H⟩ := H
  replace H : (if a0_1 < 0 then (gatewardenref06_Formed.j0 k true a0_0 a0_1 a0_2 a0_3 a0_4 l0_5) else (if a0_1 > 65535 then (gatewardenref06_Formed.j0 k true a0_0 a0_1 a0_2 a0_3 a0_4 l0_5) else (if a0_2 < 0 then (gatewardenref06_Formed.j0 k true a0_0 a0_1 a0_2 a0_3 a0_4 l0_5) else (if a0_2 > t105 then (gatewardenref06_Formed.j0 k true a0_0 a0_1 a0_2 a0_3 a0_4 l0_5) else (if t105 > 0 then (if a0_2 = 0 then (gatewardenref06_Formed.j0 k true a0_0 a0_1 a0_2 a0_3 a0_4 l0_5) else (if t105 = 0 then (gatewardenref06_Formed.j0 k (a0_1 != 0) a0_0 a0_1 a0_2 a0_3 a0_4 l0_5) else (gatewardenref06_Formed.j0 k false a0_0 a0_1 a0_2 a0_3 a0_4 l0_5))) else (if t105 = 0 then (gatewardenref06_Formed.j0 k (a0_1 != 0) a0_0 a0_1 a0_2 a0_3 a0_4 l0_5) else (gatewardenref06_Formed.j0 k false a0_0 a0_1 a0_2 a0_3 a0_4 l0_5))))))) = some r := H
  have A4 := Aside0.mk A40
  clear A40
  have HC5 := Aside0.mk H
  clear H
  go_enter Try.func55, Try.ntmps55
  go_upto_region 4 with (first | ((with_reducible refine gate_dst (N := 1) rfl ?_); refine box_event ?hg (N := 1) ?hd (cs := #[.int .i64 a0_0, .int .i64 a0_1, .int .i64 a0_2, .int .i64 a0_3, .int .i64 a0_4, .slice A0_5 l0_5.length c0_5]) (t := 47) ?hr ?_; (case hd => rfl); (case hg => rfl); (case hr => first | (go_simp; done) | (go_simp; rfl)); intro gb103 hg w6 hbox hb; have n0_ := Aside0.mk (below_step (by repeat (first | (with_reducible first | exact HB.out | apply below_alloc | apply pw_below_drewN | apply below_drew1) | exact HB.out)) hb); have n1_ := Aside0.mk (hbox); have n2_ := Aside0.mk ((by rw [hg]; exact (below_size (by repeat (first | (with_reducible first | exact HB.out | apply below_alloc | apply pw_below_drewN | apply below_drew1) | exact HB.out))) : w.heap.size ≤ gb103)); have n3_ := Aside0.mk ((by rw [hg]; exact (below_size (by repeat (first | (with_reducible first | exact HB.out | apply below_alloc | apply pw_below_drewN | apply below_drew1) | exact HB.out))) : w.heap.size ≤ gb103)); clear HB; have HB := n0_; have BK103 := n1_; have GW103 := n2_; have GE103 := n3_; clear n0_ n1_ n2_ n3_; clear hb hbox hg; have hcz7_0 : w6.cell? ⟨gb103, 0, none⟩ = some (.int .i64 a0_0) := (blk_cell BK103.out 0).trans rfl; have hcz7_1 : w6.cell? ⟨gb103, 1, none⟩ = some (.int .i64 a0_1) := (blk_cell BK103.out 1).trans rfl; have hcz7_2 : w6.cell? ⟨gb103, 2, none⟩ = some (.int .i64 a0_2) := (blk_cell BK103.out 2).trans rfl; have hcz7_3 : w6.cell? ⟨gb103, 3, none⟩ = some (.int .i64 a0_3) := (blk_cell BK103.out 3).trans rfl; have hcz7_4 : w6.cell? ⟨gb103, 4, none⟩ = some (.int .i64 a0_4) := (blk_cell BK103.out 4).trans rfl; have hcz7_5 : w6.cell? ⟨gb103, 5, none⟩ = some (.slice A0_5 l0_5.length c0_5) := (blk_cell BK103.out 5).trans rfl; have hfz7_0 := blk_frozen BK103.out 0; have hfz7_1 := blk_frozen BK103.out 1; have hfz7_2 := blk_frozen BK103.out 2; have hfz7_3 := blk_frozen BK103.out 3; have hfz7_4 := blk_frozen BK103.out 4; have hfz7_5 := blk_frozen BK103.out 5) | ((with_reducible refine gate_callee (f := 63) rfl ?_); refine goesL_ (some 9) rfl rfl Try.func63 (by kernel_rfl) rfl #[.int .i64 a0_0] rfl (by (try simp only [List.map_toArray, List.map_cons, List.map_nil]); first | done | rfl | (simp only [List.length_drop, List.length_take]; rfl)) ?_; (with_reducible refine (gatewardenref06_Known.calls a0_0 true _ A2.out).mono ?_); rintro e w' ⟨rfl, ⟨nd, rfl⟩⟩; refine ⟨_, rfl, ?_⟩) | ((with_reducible refine gate_callee (f := 64) rfl ?_); refine goesL_ (some 13) rfl rfl Try.func64 (by kernel_rfl) rfl #[.int .i64 a0_0] rfl (by (try simp only [List.map_toArray, List.map_cons, List.map_nil]); first | done | rfl | (simp only [List.length_drop, List.length_take]; rfl)) ?_; (with_reducible refine (gatewardenref06_reads.calls k a0_0 t105 _ A4.out).mono ?_); rintro e w' ⟨rfl, ⟨nd, rfl⟩⟩; refine ⟨_, rfl, ?_⟩))
  (try simp only [Act.put, List.setIfInBounds_toArray, List.set_cons_zero, List.set_cons_succ])
  go_cut [50] (fun v50 wc => ∃ (kq : Nat) (x50_4 : Bool), v50 = .bool x50_4 ∧ Aside0 (gatewardenref06_Formed.j0 kq x50_4 a0_0 a0_1 a0_2 a0_3 a0_4 l0_5 = some r) ∧ Aside0 (kq ≤ k) ∧ Aside0 (wc.heap[gb103]? = some (.cells #[.int .i64 a0_0, .int .i64 a0_1, .int .i64 a0_2, .int .i64 a0_3, .int .i64 a0_4, (.slice A0_5 l0_5.length c0_5)] 47 (0, 0))) ∧ Aside0 (Below w.heap.size w wc))
  case first =>
   have H := HC5.out
   clear HC5
   by_cases c8 : a0_1 < 0
   ·rw [if_pos c8] at H
    have c8b0 : decide (a0_1 < 0) = true := decide_eq_true c8
    clear c8
    (first | rw [c8b0] | (simp only [i64_w, i32_w]; rw [c8b0]) | skip)
    have H' := Aside0.mk H
    clear H
    have hcz9_0 : w6.cell? ⟨gb103, 0, none⟩ = some (.int .i64 a0_0) := (blk_cell BK103.out 0).trans rfl
    have hcz9_1 : w6.cell? ⟨gb103, 1, none⟩ = some (.int .i64 a0_1) := (blk_cell BK103.out 1).trans rfl
    have hcz9_2 : w6.cell? ⟨gb103, 2, none⟩ = some (.int .i64 a0_2) := (blk_cell BK103.out 2).trans rfl
    have hcz9_3 : w6.cell? ⟨gb103, 3, none⟩ = some (.int .i64 a0_3) := (blk_cell BK103.out 3).trans rfl
    have hcz9_4 : w6.cell? ⟨gb103, 4, none⟩ = some (.int .i64 a0_4) := (blk_cell BK103.out 4).trans rfl
    have hcz9_5 : w6.cell? ⟨gb103, 5, none⟩ = some (.slice A0_5 l0_5.length c0_5) := (blk_cell BK103.out 5).trans rfl
    have hfz9_0 := blk_frozen BK103.out 0
    have hfz9_1 := blk_frozen BK103.out 1
    have hfz9_2 := blk_frozen BK103.out 2
    have hfz9_3 := blk_frozen BK103.out 3
    have hfz9_4 := blk_frozen BK103.out 4
    have hfz9_5 := blk_frozen BK103.out 5
    go_wp2
    go_meet
    case rel => exact ⟨_, (true), (by first | rfl | (simp; done) | (simp [*]; done)), H', ⟨by first | omega | exact Nat.le_refl _⟩, ⟨by (with_reducible repeat (first | refine blk_drewN ?_ _ | refine blk_drew ?_ | refine blk_alloc ?_ _)); exact BK103.out⟩, ⟨by repeat (first | (with_reducible first | exact HB.out | apply below_alloc | apply pw_below_drewN | apply below_drew1 | refine below_set ?_ GE103.out) | exact HB.out)⟩⟩
   ·rw [if_neg c8] at H
    have c8b0 : decide (a0_1 < 0) = false := decide_eq_false c8
    clear c8
    (first | rw [c8b0] | (simp only [i64_w, i32_w]; rw [c8b0]) | skip)
    by_cases c10 : a0_1 > 65535
    ·rw [if_pos c10] at H
     have c10b0 : decide (65535 < a0_1) = true := decide_eq_true c10
     clear c10
     have H' := Aside0.mk H
     clear H
     have hcz11_0 : w6.cell? ⟨gb103, 0, none⟩ = some (.int .i64 a0_0) := (blk_cell BK103.out 0).trans rfl
     have hcz11_1 : w6.cell? ⟨gb103, 1, none⟩ = some (.int .i64 a0_1) := (blk_cell BK103.out 1).trans rfl
     have hcz11_2 : w6.cell? ⟨gb103, 2, none⟩ = some (.int .i64 a0_2) := (blk_cell BK103.out 2).trans rfl
     have hcz11_3 : w6.cell? ⟨gb103, 3, none⟩ = some (.int .i64 a0_3) := (blk_cell BK103.out 3).trans rfl
     have hcz11_4 : w6.cell? ⟨gb103, 4, none⟩ = some (.int .i64 a0_4) := (blk_cell BK103.out 4).trans rfl
     have hcz11_5 : w6.cell? ⟨gb103, 5, none⟩ = some (.slice A0_5 l0_5.length c0_5) := (blk_cell BK103.out 5).trans rfl
     have hfz11_0 := blk_frozen BK103.out 0
     have hfz11_1 := blk_frozen BK103.out 1
     have hfz11_2 := blk_frozen BK103.out 2
     have hfz11_3 := blk_frozen BK103.out 3
     have hfz11_4 := blk_frozen BK103.out 4
     have hfz11_5 := blk_frozen BK103.out 5
     go_wp2
     go_meet
     case rel => exact ⟨_, (true), (by first | rfl | (simp; done) | (simp [*]; done)), H', ⟨by first | omega | exact Nat.le_refl _⟩, ⟨by (with_reducible repeat (first | refine blk_drewN ?_ _ | refine blk_drew ?_ | refine blk_alloc ?_ _)); exact BK103.out⟩, ⟨by repeat (first | (with_reducible first | exact HB.out | apply below_alloc | apply pw_below_drewN | apply below_drew1 | refine below_set ?_ GE103.out) | exact HB.out)⟩⟩
    ·rw [if_neg c10] at H
     have c10b0 : decide (65535 < a0_1) = false := decide_eq_false c10
     clear c10
     by_cases c12 : a0_2 < 0
     ·rw [if_pos c12] at H
      have c12b0 : decide (a0_2 < 0) = true := decide_eq_true c12
      clear c12
      have H' := Aside0.mk H
      clear H
      have hcz13_0 : w6.cell? ⟨gb103, 0, none⟩ = some (.int .i64 a0_0) := (blk_cell BK103.out 0).trans rfl
      have hcz13_1 : w6.cell? ⟨gb103, 1, none⟩ = some (.int .i64 a0_1) := (blk_cell BK103.out 1).trans rfl
      have hcz13_2 : w6.cell? ⟨gb103, 2, none⟩ = some (.int .i64 a0_2) := (blk_cell BK103.out 2).trans rfl
      have hcz13_3 : w6.cell? ⟨gb103, 3, none⟩ = some (.int .i64 a0_3) := (blk_cell BK103.out 3).trans rfl
      have hcz13_4 : w6.cell? ⟨gb103, 4, none⟩ = some (.int .i64 a0_4) := (blk_cell BK103.out 4).trans rfl
      have hcz13_5 : w6.cell? ⟨gb103, 5, none⟩ = some (.slice A0_5 l0_5.length c0_5) := (blk_cell BK103.out 5).trans rfl
      have hfz13_0 := blk_frozen BK103.out 0
      have hfz13_1 := blk_frozen BK103.out 1
      have hfz13_2 := blk_frozen BK103.out 2
      have hfz13_3 := blk_frozen BK103.out 3
      have hfz13_4 := blk_frozen BK103.out 4
      have hfz13_5 := blk_frozen BK103.out 5
      go_wp2
      go_meet
      case rel => exact ⟨_, (true), (by first | rfl | (simp; done) | (simp [*]; done)), H', ⟨by first | omega | exact Nat.le_refl _⟩, ⟨by (with_reducible repeat (first | refine blk_drewN ?_ _ | refine blk_drew ?_ | refine blk_alloc ?_ _)); exact BK103.out⟩, ⟨by repeat (first | (with_reducible first | exact HB.out | apply below_alloc | apply pw_below_drewN | apply below_drew1 | refine below_set ?_ GE103.out) | exact HB.out)⟩⟩
     ·rw [if_neg c12] at H
      have c12b0 : decide (a0_2 < 0) = false := decide_eq_false c12
      clear c12
      by_cases c14 : a0_2 > t105
      ·rw [if_pos c14] at H
       have c14b0 : decide (t105 < a0_2) = true := decide_eq_true c14
       clear c14
       have H' := Aside0.mk H
       clear H
       have hcz15_0 : w6.cell? ⟨gb103, 0, none⟩ = some (.int .i64 a0_0) := (blk_cell BK103.out 0).trans rfl
       have hcz15_1 : w6.cell? ⟨gb103, 1, none⟩ = some (.int .i64 a0_1) := (blk_cell BK103.out 1).trans rfl
       have hcz15_2 : w6.cell? ⟨gb103, 2, none⟩ = some (.int .i64 a0_2) := (blk_cell BK103.out 2).trans rfl
       have hcz15_3 : w6.cell? ⟨gb103, 3, none⟩ = some (.int .i64 a0_3) := (blk_cell BK103.out 3).trans rfl
       have hcz15_4 : w6.cell? ⟨gb103, 4, none⟩ = some (.int .i64 a0_4) := (blk_cell BK103.out 4).trans rfl
       have hcz15_5 : w6.cell? ⟨gb103, 5, none⟩ = some (.slice A0_5 l0_5.length c0_5) := (blk_cell BK103.out 5).trans rfl
       have hfz15_0 := blk_frozen BK103.out 0
       have hfz15_1 := blk_frozen BK103.out 1
       have hfz15_2 := blk_frozen BK103.out 2
       have hfz15_3 := blk_frozen BK103.out 3
       have hfz15_4 := blk_frozen BK103.out 4
       have hfz15_5 := blk_frozen BK103.out 5
       go_wp2
       go_meet
       case rel => exact ⟨_, (true), (by first | rfl | (simp; done) | (simp [*]; done)), H', ⟨by first | omega | exact Nat.le_refl _⟩, ⟨by (with_reducible repeat (first | refine blk_drewN ?_ _ | refine blk_drew ?_ | refine blk_alloc ?_ _)); exact BK103.out⟩, ⟨by repeat (first | (with_reducible first | exact HB.out | apply below_alloc | apply pw_below_drewN | apply below_drew1 | refine below_set ?_ GE103.out) | exact HB.out)⟩⟩
      ·rw [if_neg c14] at H
       have c14b0 : decide (t105 < a0_2) = false := decide_eq_false c14
       clear c14
       by_cases c16 : t105 > 0
       ·rw [if_pos c16] at H
        have c16b0 : decide (0 < t105) = true := decide_eq_true c16
        clear c16
        by_cases c17 : a0_2 = 0
        ·rw [if_pos c17] at H
         have c17b0 : (a0_2 == 0) = true := beq_iff_eq.mpr c17
         have c17b1 : (a0_2 != 0) = false := bne_eq_false_iff_eq.mpr c17
         clear c17
         have H' := Aside0.mk H
         clear H
         have hcz18_0 : w6.cell? ⟨gb103, 0, none⟩ = some (.int .i64 a0_0) := (blk_cell BK103.out 0).trans rfl
         have hcz18_1 : w6.cell? ⟨gb103, 1, none⟩ = some (.int .i64 a0_1) := (blk_cell BK103.out 1).trans rfl
         have hcz18_2 : w6.cell? ⟨gb103, 2, none⟩ = some (.int .i64 a0_2) := (blk_cell BK103.out 2).trans rfl
         have hcz18_3 : w6.cell? ⟨gb103, 3, none⟩ = some (.int .i64 a0_3) := (blk_cell BK103.out 3).trans rfl
         have hcz18_4 : w6.cell? ⟨gb103, 4, none⟩ = some (.int .i64 a0_4) := (blk_cell BK103.out 4).trans rfl
         have hcz18_5 : w6.cell? ⟨gb103, 5, none⟩ = some (.slice A0_5 l0_5.length c0_5) := (blk_cell BK103.out 5).trans rfl
         have hfz18_0 := blk_frozen BK103.out 0
         have hfz18_1 := blk_frozen BK103.out 1
         have hfz18_2 := blk_frozen BK103.out 2
         have hfz18_3 := blk_frozen BK103.out 3
         have hfz18_4 := blk_frozen BK103.out 4
         have hfz18_5 := blk_frozen BK103.out 5
         go_wp2
         go_meet
         case rel => exact ⟨_, (true), (by first | rfl | (simp; done) | (simp [*]; done)), H', ⟨by first | omega | exact Nat.le_refl _⟩, ⟨by (with_reducible repeat (first | refine blk_drewN ?_ _ | refine blk_drew ?_ | refine blk_alloc ?_ _)); exact BK103.out⟩, ⟨by repeat (first | (with_reducible first | exact HB.out | apply below_alloc | apply pw_below_drewN | apply below_drew1 | refine below_set ?_ GE103.out) | exact HB.out)⟩⟩
        ·rw [if_neg c17] at H
         have c17b0 : (a0_2 == 0) = false := beq_eq_false_iff_ne.mpr c17
         have c17b1 : (a0_2 != 0) = true := bne_iff_ne.mpr c17
         by_cases c19 : t105 = 0
         ·rw [if_pos c19] at H
          have c19b0 : (t105 == 0) = true := beq_iff_eq.mpr c19
          have c19b1 : (t105 != 0) = false := bne_eq_false_iff_eq.mpr c19
          clear c19
          have H' := Aside0.mk H
          clear H
          have hcz20_0 : w6.cell? ⟨gb103, 0, none⟩ = some (.int .i64 a0_0) := (blk_cell BK103.out 0).trans rfl
          have hcz20_1 : w6.cell? ⟨gb103, 1, none⟩ = some (.int .i64 a0_1) := (blk_cell BK103.out 1).trans rfl
          have hcz20_2 : w6.cell? ⟨gb103, 2, none⟩ = some (.int .i64 a0_2) := (blk_cell BK103.out 2).trans rfl
          have hcz20_3 : w6.cell? ⟨gb103, 3, none⟩ = some (.int .i64 a0_3) := (blk_cell BK103.out 3).trans rfl
          have hcz20_4 : w6.cell? ⟨gb103, 4, none⟩ = some (.int .i64 a0_4) := (blk_cell BK103.out 4).trans rfl
          have hcz20_5 : w6.cell? ⟨gb103, 5, none⟩ = some (.slice A0_5 l0_5.length c0_5) := (blk_cell BK103.out 5).trans rfl
          have hfz20_0 := blk_frozen BK103.out 0
          have hfz20_1 := blk_frozen BK103.out 1
          have hfz20_2 := blk_frozen BK103.out 2
          have hfz20_3 := blk_frozen BK103.out 3
          have hfz20_4 := blk_frozen BK103.out 4
          have hfz20_5 := blk_frozen BK103.out 5
          go_wp2
          go_meet
          case rel => exact ⟨_, ((a0_1 != 0)), (by first | rfl | (simp; done) | (simp [*]; done)), H', ⟨by first | omega | exact Nat.le_refl _⟩, ⟨by (with_reducible repeat (first | refine blk_drewN ?_ _ | refine blk_drew ?_ | refine blk_alloc ?_ _)); exact BK103.out⟩, ⟨by repeat (first | (with_reducible first | exact HB.out | apply below_alloc | apply pw_below_drewN | apply below_drew1 | refine below_set ?_ GE103.out) | exact HB.out)⟩⟩
         ·rw [if_neg c19] at H
          have c19b0 : (t105 == 0) = false := beq_eq_false_iff_ne.mpr c19
          have c19b1 : (t105 != 0) = true := bne_iff_ne.mpr c19
          have H' := Aside0.mk H
          clear H
          have hcz21_0 : w6.cell? ⟨gb103, 0, none⟩ = some (.int .i64 a0_0) := (blk_cell BK103.out 0).trans rfl
          have hcz21_1 : w6.cell? ⟨gb103, 1, none⟩ = some (.int .i64 a0_1) := (blk_cell BK103.out 1).trans rfl
          have hcz21_2 : w6.cell? ⟨gb103, 2, none⟩ = some (.int .i64 a0_2) := (blk_cell BK103.out 2).trans rfl
          have hcz21_3 : w6.cell? ⟨gb103, 3, none⟩ = some (.int .i64 a0_3) := (blk_cell BK103.out 3).trans rfl
          have hcz21_4 : w6.cell? ⟨gb103, 4, none⟩ = some (.int .i64 a0_4) := (blk_cell BK103.out 4).trans rfl
          have hcz21_5 : w6.cell? ⟨gb103, 5, none⟩ = some (.slice A0_5 l0_5.length c0_5) := (blk_cell BK103.out 5).trans rfl
          have hfz21_0 := blk_frozen BK103.out 0
          have hfz21_1 := blk_frozen BK103.out 1
          have hfz21_2 := blk_frozen BK103.out 2
          have hfz21_3 := blk_frozen BK103.out 3
          have hfz21_4 := blk_frozen BK103.out 4
          have hfz21_5 := blk_frozen BK103.out 5
          go_wp2
          go_meet
          case rel => exact ⟨_, (false), (by first | rfl | (simp; done) | (simp [*]; done)), H', ⟨by first | omega | exact Nat.le_refl _⟩, ⟨by (with_reducible repeat (first | refine blk_drewN ?_ _ | refine blk_drew ?_ | refine blk_alloc ?_ _)); exact BK103.out⟩, ⟨by repeat (first | (with_reducible first | exact HB.out | apply below_alloc | apply pw_below_drewN | apply below_drew1 | refine below_set ?_ GE103.out) | exact HB.out)⟩⟩
       ·rw [if_neg c16] at H
        have c16b0 : decide (0 < t105) = false := decide_eq_false c16
        clear c16
        by_cases c22 : t105 = 0
        ·rw [if_pos c22] at H
         have c22b0 : (t105 == 0) = true := beq_iff_eq.mpr c22
         have c22b1 : (t105 != 0) = false := bne_eq_false_iff_eq.mpr c22
         clear c22
         have H' := Aside0.mk H
         clear H
         have hcz23_0 : w6.cell? ⟨gb103, 0, none⟩ = some (.int .i64 a0_0) := (blk_cell BK103.out 0).trans rfl
         have hcz23_1 : w6.cell? ⟨gb103, 1, none⟩ = some (.int .i64 a0_1) := (blk_cell BK103.out 1).trans rfl
         have hcz23_2 : w6.cell? ⟨gb103, 2, none⟩ = some (.int .i64 a0_2) := (blk_cell BK103.out 2).trans rfl
         have hcz23_3 : w6.cell? ⟨gb103, 3, none⟩ = some (.int .i64 a0_3) := (blk_cell BK103.out 3).trans rfl
         have hcz23_4 : w6.cell? ⟨gb103, 4, none⟩ = some (.int .i64 a0_4) := (blk_cell BK103.out 4).trans rfl
         have hcz23_5 : w6.cell? ⟨gb103, 5, none⟩ = some (.slice A0_5 l0_5.length c0_5) := (blk_cell BK103.out 5).trans rfl
         have hfz23_0 := blk_frozen BK103.out 0
         have hfz23_1 := blk_frozen BK103.out 1
         have hfz23_2 := blk_frozen BK103.out 2
         have hfz23_3 := blk_frozen BK103.out 3
         have hfz23_4 := blk_frozen BK103.out 4
         have hfz23_5 := blk_frozen BK103.out 5
         go_wp2
         go_meet
         case rel => exact ⟨_, ((a0_1 != 0)), (by first | rfl | (simp; done) | (simp [*]; done)), H', ⟨by first | omega | exact Nat.le_refl _⟩, ⟨by (with_reducible repeat (first | refine blk_drewN ?_ _ | refine blk_drew ?_ | refine blk_alloc ?_ _)); exact BK103.out⟩, ⟨by repeat (first | (with_reducible first | exact HB.out | apply below_alloc | apply pw_below_drewN | apply below_drew1 | refine below_set ?_ GE103.out) | exact HB.out)⟩⟩
        ·rw [if_neg c22] at H
         have c22b0 : (t105 == 0) = false := beq_eq_false_iff_ne.mpr c22
         have c22b1 : (t105 != 0) = true := bne_iff_ne.mpr c22
         have H' := Aside0.mk H
         clear H
         have hcz24_0 : w6.cell? ⟨gb103, 0, none⟩ = some (.int .i64 a0_0) := (blk_cell BK103.out 0).trans rfl
         have hcz24_1 : w6.cell? ⟨gb103, 1, none⟩ = some (.int .i64 a0_1) := (blk_cell BK103.out 1).trans rfl
         have hcz24_2 : w6.cell? ⟨gb103, 2, none⟩ = some (.int .i64 a0_2) := (blk_cell BK103.out 2).trans rfl
         have hcz24_3 : w6.cell? ⟨gb103, 3, none⟩ = some (.int .i64 a0_3) := (blk_cell BK103.out 3).trans rfl
         have hcz24_4 : w6.cell? ⟨gb103, 4, none⟩ = some (.int .i64 a0_4) := (blk_cell BK103.out 4).trans rfl
         have hcz24_5 : w6.cell? ⟨gb103, 5, none⟩ = some (.slice A0_5 l0_5.length c0_5) := (blk_cell BK103.out 5).trans rfl
         have hfz24_0 := blk_frozen BK103.out 0
         have hfz24_1 := blk_frozen BK103.out 1
         have hfz24_2 := blk_frozen BK103.out 2
         have hfz24_3 := blk_frozen BK103.out 3
         have hfz24_4 := blk_frozen BK103.out 4
         have hfz24_5 := blk_frozen BK103.out 5
         go_wp2
         go_meet
         case rel => exact ⟨_, (false), (by first | rfl | (simp; done) | (simp [*]; done)), H', ⟨by first | omega | exact Nat.le_refl _⟩, ⟨by (with_reducible repeat (first | refine blk_drewN ?_ _ | refine blk_drew ?_ | refine blk_alloc ?_ _)); exact BK103.out⟩, ⟨by repeat (first | (with_reducible first | exact HB.out | apply below_alloc | apply pw_below_drewN | apply below_drew1 | refine below_set ?_ GE103.out) | exact HB.out)⟩⟩
  case rest =>
   clear HC5
   try clear c1
   try clear c2
   try clear p2
   try clear c3
   try clear c5
   try clear c6
   try clear c8
   try clear c8b0
   try clear c10
   try clear c10b0
   try clear c12
   try clear c12b0
   try clear c14
   try clear c14b0
   try clear c16
   try clear c16b0
   try clear c17
   try clear c17b0
   try clear c17b1
   try clear c19
   try clear c19b0
   try clear c19b1
   try clear c22
   try clear c22b0
   try clear c22b1
   try clear hcz11_0
   try clear hcz11_1
   try clear hcz11_2
   try clear hcz11_3
   try clear hcz11_4
   try clear hcz11_5
   try clear hcz13_0
   try clear hcz13_1
   try clear hcz13_2
   try clear hcz13_3
   try clear hcz13_4
   try clear hcz13_5
   try clear hcz15_0
   try clear hcz15_1
   try clear hcz15_2
   try clear hcz15_3
   try clear hcz15_4
   try clear hcz15_5
   try clear hcz18_0
   try clear hcz18_1
   try clear hcz18_2
   try clear hcz18_3
   try clear hcz18_4
   try clear hcz18_5
   try clear hcz20_0
   try clear hcz20_1
   try clear hcz20_2
   try clear hcz20_3
   try clear hcz20_4
   try clear hcz20_5
   try clear hcz21_0
   try clear hcz21_1
   try clear hcz21_2
   try clear hcz21_3
   try clear hcz21_4
   try clear hcz21_5
   try clear hcz23_0
   try clear hcz23_1
   try clear hcz23_2
   try clear hcz23_3
   try clear hcz23_4
   try clear hcz23_5
   try clear hcz24_0
   try clear hcz24_1
   try clear hcz24_2
   try clear hcz24_3
   try clear hcz24_4
   try clear hcz24_5
   try clear hcz7_0
   try clear hcz7_1
   try clear hcz7_2
   try clear hcz7_3
   try clear hcz7_4
   try clear hcz7_5
   try clear hcz9_0
   try clear hcz9_1
   try clear hcz9_2
   try clear hcz9_3
   try clear hcz9_4
   try clear hcz9_5
   try clear hfz11_0
   try clear hfz11_1
   try clear hfz11_2
   try clear hfz11_3
   try clear hfz11_4
   try clear hfz11_5
   try clear hfz13_0
   try clear hfz13_1
   try clear hfz13_2
   try clear hfz13_3
   try clear hfz13_4
   try clear hfz13_5
   try clear hfz15_0
   try clear hfz15_1
   try clear hfz15_2
   try clear hfz15_3
   try clear hfz15_4
   try clear hfz15_5
   try clear hfz18_0
   try clear hfz18_1
   try clear hfz18_2
   try clear hfz18_3
   try clear hfz18_4
   try clear hfz18_5
   try clear hfz20_0
   try clear hfz20_1
   try clear hfz20_2
   try clear hfz20_3
   try clear hfz20_4
   try clear hfz20_5
   try clear hfz21_0
   try clear hfz21_1
   try clear hfz21_2
   try clear hfz21_3
   try clear hfz21_4
   try clear hfz21_5
   try clear hfz23_0
   try clear hfz23_1
   try clear hfz23_2
   try clear hfz23_3
   try clear hfz23_4
   try clear hfz23_5
   try clear hfz24_0
   try clear hfz24_1
   try clear hfz24_2
   try clear hfz24_3
   try clear hfz24_4
   try clear hfz24_5
   try clear hfz7_0
   try clear hfz7_1
   try clear hfz7_2
   try clear hfz7_3
   try clear hfz7_4
   try clear hfz7_5
   try clear hfz9_0
   try clear hfz9_1
   try clear hfz9_2
   try clear hfz9_3
   try clear hfz9_4
   try clear hfz9_5
   obtain ⟨kq, x50_4, rfl, HA, HJ4, BK103, HB⟩ := hcut
   cases kq with
   | zero => exact absurd HA.out (by simp [gatewardenref06_Formed.j0])
   | succ kj4 =>
    have H := HA.out
    clear HA
    simp only [gatewardenref06_Formed.j0] at H
    by_cases c25 : x50_4 = true
    ·subst c25
     have H1 : (some false) = some r := by rw [if_pos rfl] at H; exact H
     clear H
     have H := H1
     clear H1
     obtain rfl := Option.some.inj H
     go_wp2
     go_ret
     exact ⟨by first | rfl | (simp [errW_none, errW_some] <;> rfl) | (simp [*, errW_none, errW_some] <;> rfl), by repeat (first | (with_reducible first | exact HB.out | apply below_alloc | apply pw_below_drewN | apply below_drew1 | refine below_set ?_ GE103.out) | exact HB.out)⟩
    ·replace c25 := Bool.eq_false_iff.mpr c25
     subst c25
     have H1 : ((gatewardenref06_writes.f a0_0).bind fun bt106 => (if a0_3 < 0 then (gatewardenref06_Formed.j1 kj4 bt106.2.1 bt106.2.2 true a0_0 a0_1 a0_2 a0_3 a0_4 l0_5) else (if a0_3 > 65535 then (gatewardenref06_Formed.j1 kj4 bt106.2.1 bt106.2.2 true a0_0 a0_1 a0_2 a0_3 a0_4 l0_5) else (if a0_4 < 0 then (gatewardenref06_Formed.j1 kj4 bt106.2.1 bt106.2.2 true a0_0 a0_1 a0_2 a0_3 a0_4 l0_5) else (if a0_4 > bt106.1 then (gatewardenref06_Formed.j1 kj4 bt106.2.1 bt106.2.2 true a0_0 a0_1 a0_2 a0_3 a0_4 l0_5) else (if bt106.1 > 0 then (if a0_4 = 0 then (gatewardenref06_Formed.j1 kj4 bt106.2.1 bt106.2.2 true a0_0 a0_1 a0_2 a0_3 a0_4 l0_5) else (if bt106.1 = 0 then (gatewardenref06_Formed.j1 kj4 bt106.2.1 bt106.2.2 (a0_3 != 0) a0_0 a0_1 a0_2 a0_3 a0_4 l0_5) else (gatewardenref06_Formed.j1 kj4 bt106.2.1 bt106.2.2 false a0_0 a0_1 a0_2 a0_3 a0_4 l0_5))) else (if bt106.1 = 0 then (gatewardenref06_Formed.j1 kj4 bt106.2.1 bt106.2.2 (a0_3 != 0) a0_0 a0_1 a0_2 a0_3 a0_4 l0_5) else (gatewardenref06_Formed.j1 kj4 bt106.2.1 bt106.2.2 false a0_0 a0_1 a0_2 a0_3 a0_4 l0_5)))))))) = some r := by rw [if_neg (show ¬ (false = true) by decide)] at H; exact H
     clear H
     have H := H1
     clear H1
     replace H := Option.bind_eq_some_iff.mp H
     obtain ⟨⟨t106, t107, t108⟩, A260, H⟩ := H
     replace H : (if a0_3 < 0 then (gatewardenref06_Formed.j1 kj4 t107 t108 true a0_0 a0_1 a0_2 a0_3 a0_4 l0_5) else (if a0_3 > 65535 then (gatewardenref06_Formed.j1 kj4 t107 t108 true a0_0 a0_1 a0_2 a0_3 a0_4 l0_5) else (if a0_4 < 0 then (gatewardenref06_Formed.j1 kj4 t107 t108 true a0_0 a0_1 a0_2 a0_3 a0_4 l0_5) else (if a0_4 > t106 then (gatewardenref06_Formed.j1 kj4 t107 t108 true a0_0 a0_1 a0_2 a0_3 a0_4 l0_5) else (if t106 > 0 then (if a0_4 = 0 then (gatewardenref06_Formed.j1 kj4 t107 t108 true a0_0 a0_1 a0_2 a0_3 a0_4 l0_5) else (if t106 = 0 then (gatewardenref06_Formed.j1 kj4 t107 t108 (a0_3 != 0) a0_0 a0_1 a0_2 a0_3 a0_4 l0_5) else (gatewardenref06_Formed.j1 kj4 t107 t108 false a0_0 a0_1 a0_2 a0_3 a0_4 l0_5))) else (if t106 = 0 then (gatewardenref06_Formed.j1 kj4 t107 t108 (a0_3 != 0) a0_0 a0_1 a0_2 a0_3 a0_4 l0_5) else (gatewardenref06_Formed.j1 kj4 t107 t108 false a0_0 a0_1 a0_2 a0_3 a0_4 l0_5))))))) = some r := H
     have A26 := Aside0.mk A260
     clear A260
     have HC27 := Aside0.mk H
     clear H
     have hcz28_0 : wc.cell? ⟨gb103, 0, none⟩ = some (.int .i64 a0_0) := (blk_cell BK103.out 0).trans rfl
     have hcz28_1 : wc.cell? ⟨gb103, 1, none⟩ = some (.int .i64 a0_1) := (blk_cell BK103.out 1).trans rfl
     have hcz28_2 : wc.cell? ⟨gb103, 2, none⟩ = some (.int .i64 a0_2) := (blk_cell BK103.out 2).trans rfl
     have hcz28_3 : wc.cell? ⟨gb103, 3, none⟩ = some (.int .i64 a0_3) := (blk_cell BK103.out 3).trans rfl
     have hcz28_4 : wc.cell? ⟨gb103, 4, none⟩ = some (.int .i64 a0_4) := (blk_cell BK103.out 4).trans rfl
     have hcz28_5 : wc.cell? ⟨gb103, 5, none⟩ = some (.slice A0_5 l0_5.length c0_5) := (blk_cell BK103.out 5).trans rfl
     have hfz28_0 := blk_frozen BK103.out 0
     have hfz28_1 := blk_frozen BK103.out 1
     have hfz28_2 := blk_frozen BK103.out 2
     have hfz28_3 := blk_frozen BK103.out 3
     have hfz28_4 := blk_frozen BK103.out 4
     have hfz28_5 := blk_frozen BK103.out 5
     go_upto_region 7 with (first | ((with_reducible refine gate_callee (f := 65) rfl ?_); refine goesL_ (some 54) rfl rfl Try.func65 (by kernel_rfl) rfl #[.int .i64 a0_0] rfl (by (try simp only [List.map_toArray, List.map_cons, List.map_nil]); first | done | rfl | (simp only [List.length_drop, List.length_take]; rfl)) ?_; (with_reducible refine (gatewardenref06_writes.calls a0_0 t106 t107 t108 _ A26.out).mono ?_); rintro e w' ⟨rfl, ⟨nd, rfl⟩⟩; refine ⟨_, rfl, ?_⟩))
     (try simp only [Act.put, List.setIfInBounds_toArray, List.set_cons_zero, List.set_cons_succ])
     go_cut [94] (fun v94 wc => ∃ (kq : Nat) (x94_26 : Bool), v94 = .bool x94_26 ∧ Aside0 (gatewardenref06_Formed.j1 kq t107 t108 x94_26 a0_0 a0_1 a0_2 a0_3 a0_4 l0_5 = some r) ∧ Aside0 (kq ≤ kj4) ∧ Aside0 (wc.heap[gb103]? = some (.cells #[.int .i64 a0_0, .int .i64 a0_1, .int .i64 a0_2, .int .i64 a0_3, .int .i64 a0_4, (.slice A0_5 l0_5.length c0_5)] 47 (0, 0))) ∧ Aside0 (Below w.heap.size w wc))
     case first =>
      have H := HC27.out
      clear HC27
      by_cases c29 : a0_3 < 0
      ·rw [if_pos c29] at H
       have c29b0 : decide (a0_3 < 0) = true := decide_eq_true c29
       clear c29
       (first | rw [c29b0] | (simp only [i64_w, i32_w]; rw [c29b0]) | skip)
       have H' := Aside0.mk H
       clear H
       have hcz30_0 : wc.cell? ⟨gb103, 0, none⟩ = some (.int .i64 a0_0) := (blk_cell BK103.out 0).trans rfl
       have hcz30_1 : wc.cell? ⟨gb103, 1, none⟩ = some (.int .i64 a0_1) := (blk_cell BK103.out 1).trans rfl
       have hcz30_2 : wc.cell? ⟨gb103, 2, none⟩ = some (.int .i64 a0_2) := (blk_cell BK103.out 2).trans rfl
       have hcz30_3 : wc.cell? ⟨gb103, 3, none⟩ = some (.int .i64 a0_3) := (blk_cell BK103.out 3).trans rfl
       have hcz30_4 : wc.cell? ⟨gb103, 4, none⟩ = some (.int .i64 a0_4) := (blk_cell BK103.out 4).trans rfl
       have hcz30_5 : wc.cell? ⟨gb103, 5, none⟩ = some (.slice A0_5 l0_5.length c0_5) := (blk_cell BK103.out 5).trans rfl
       have hfz30_0 := blk_frozen BK103.out 0
       have hfz30_1 := blk_frozen BK103.out 1
       have hfz30_2 := blk_frozen BK103.out 2
       have hfz30_3 := blk_frozen BK103.out 3
       have hfz30_4 := blk_frozen BK103.out 4
       have hfz30_5 := blk_frozen BK103.out 5
       go_wp2
       go_meet
       case rel => exact ⟨_, (true), (by first | rfl | (simp; done) | (simp [*]; done)), H', ⟨by have := HJ4.out; first | omega | exact Nat.le_refl _⟩, ⟨by (with_reducible repeat (first | refine blk_drewN ?_ _ | refine blk_drew ?_ | refine blk_alloc ?_ _)); exact BK103.out⟩, ⟨by repeat (first | (with_reducible first | exact HB.out | apply below_alloc | apply pw_below_drewN | apply below_drew1 | refine below_set ?_ GE103.out) | exact HB.out)⟩⟩
      ·rw [if_neg c29] at H
       have c29b0 : decide (a0_3 < 0) = false := decide_eq_false c29
       clear c29
       (first | rw [c29b0] | (simp only [i64_w, i32_w]; rw [c29b0]) | skip)
       by_cases c31 : a0_3 > 65535
       ·rw [if_pos c31] at H
        have c31b0 : decide (65535 < a0_3) = true := decide_eq_true c31
        clear c31
        have H' := Aside0.mk H
        clear H
        have hcz32_0 : wc.cell? ⟨gb103, 0, none⟩ = some (.int .i64 a0_0) := (blk_cell BK103.out 0).trans rfl
        have hcz32_1 : wc.cell? ⟨gb103, 1, none⟩ = some (.int .i64 a0_1) := (blk_cell BK103.out 1).trans rfl
        have hcz32_2 : wc.cell? ⟨gb103, 2, none⟩ = some (.int .i64 a0_2) := (blk_cell BK103.out 2).trans rfl
        have hcz32_3 : wc.cell? ⟨gb103, 3, none⟩ = some (.int .i64 a0_3) := (blk_cell BK103.out 3).trans rfl
        have hcz32_4 : wc.cell? ⟨gb103, 4, none⟩ = some (.int .i64 a0_4) := (blk_cell BK103.out 4).trans rfl
        have hcz32_5 : wc.cell? ⟨gb103, 5, none⟩ = some (.slice A0_5 l0_5.length c0_5) := (blk_cell BK103.out 5).trans rfl
        have hfz32_0 := blk_frozen BK103.out 0
        have hfz32_1 := blk_frozen BK103.out 1
        have hfz32_2 := blk_frozen BK103.out 2
        have hfz32_3 := blk_frozen BK103.out 3
        have hfz32_4 := blk_frozen BK103.out 4
        have hfz32_5 := blk_frozen BK103.out 5
        go_wp2
        go_meet
        case rel => exact ⟨_, (true), (by first | rfl | (simp; done) | (simp [*]; done)), H', ⟨by have := HJ4.out; first | omega | exact Nat.le_refl _⟩, ⟨by (with_reducible repeat (first | refine blk_drewN ?_ _ | refine blk_drew ?_ | refine blk_alloc ?_ _)); exact BK103.out⟩, ⟨by repeat (first | (with_reducible first | exact HB.out | apply below_alloc | apply pw_below_drewN | apply below_drew1 | refine below_set ?_ GE103.out) | exact HB.out)⟩⟩
       ·rw [if_neg c31] at H
        have c31b0 : decide (65535 < a0_3) = false := decide_eq_false c31
        clear c31
        by_cases c33 : a0_4 < 0
        ·rw [if_pos c33] at H
         have c33b0 : decide (a0_4 < 0) = true := decide_eq_true c33
         clear c33
         have H' := Aside0.mk H
         clear H
         have hcz34_0 : wc.cell? ⟨gb103, 0, none⟩ = some (.int .i64 a0_0) := (blk_cell BK103.out 0).trans rfl
         have hcz34_1 : wc.cell? ⟨gb103, 1, none⟩ = some (.int .i64 a0_1) := (blk_cell BK103.out 1).trans rfl
         have hcz34_2 : wc.cell? ⟨gb103, 2, none⟩ = some (.int .i64 a0_2) := (blk_cell BK103.out 2).trans rfl
         have hcz34_3 : wc.cell? ⟨gb103, 3, none⟩ = some (.int .i64 a0_3) := (blk_cell BK103.out 3).trans rfl
         have hcz34_4 : wc.cell? ⟨gb103, 4, none⟩ = some (.int .i64 a0_4) := (blk_cell BK103.out 4).trans rfl
         have hcz34_5 : wc.cell? ⟨gb103, 5, none⟩ = some (.slice A0_5 l0_5.length c0_5) := (blk_cell BK103.out 5).trans rfl
         have hfz34_0 := blk_frozen BK103.out 0
         have hfz34_1 := blk_frozen BK103.out 1
         have hfz34_2 := blk_frozen BK103.out 2
         have hfz34_3 := blk_frozen BK103.out 3
         have hfz34_4 := blk_frozen BK103.out 4
         have hfz34_5 := blk_frozen BK103.out 5
         go_wp2
         go_meet
         case rel => exact ⟨_, (true), (by first | rfl | (simp; done) | (simp [*]; done)), H', ⟨by have := HJ4.out; first | omega | exact Nat.le_refl _⟩, ⟨by (with_reducible repeat (first | refine blk_drewN ?_ _ | refine blk_drew ?_ | refine blk_alloc ?_ _)); exact BK103.out⟩, ⟨by repeat (first | (with_reducible first | exact HB.out | apply below_alloc | apply pw_below_drewN | apply below_drew1 | refine below_set ?_ GE103.out) | exact HB.out)⟩⟩
        ·rw [if_neg c33] at H
         have c33b0 : decide (a0_4 < 0) = false := decide_eq_false c33
         clear c33
         by_cases c35 : a0_4 > t106
         ·rw [if_pos c35] at H
          have c35b0 : decide (t106 < a0_4) = true := decide_eq_true c35
          clear c35
          have H' := Aside0.mk H
          clear H
          have hcz36_0 : wc.cell? ⟨gb103, 0, none⟩ = some (.int .i64 a0_0) := (blk_cell BK103.out 0).trans rfl
          have hcz36_1 : wc.cell? ⟨gb103, 1, none⟩ = some (.int .i64 a0_1) := (blk_cell BK103.out 1).trans rfl
          have hcz36_2 : wc.cell? ⟨gb103, 2, none⟩ = some (.int .i64 a0_2) := (blk_cell BK103.out 2).trans rfl
          have hcz36_3 : wc.cell? ⟨gb103, 3, none⟩ = some (.int .i64 a0_3) := (blk_cell BK103.out 3).trans rfl
          have hcz36_4 : wc.cell? ⟨gb103, 4, none⟩ = some (.int .i64 a0_4) := (blk_cell BK103.out 4).trans rfl
          have hcz36_5 : wc.cell? ⟨gb103, 5, none⟩ = some (.slice A0_5 l0_5.length c0_5) := (blk_cell BK103.out 5).trans rfl
          have hfz36_0 := blk_frozen BK103.out 0
          have hfz36_1 := blk_frozen BK103.out 1
          have hfz36_2 := blk_frozen BK103.out 2
          have hfz36_3 := blk_frozen BK103.out 3
          have hfz36_4 := blk_frozen BK103.out 4
          have hfz36_5 := blk_frozen BK103.out 5
          go_wp2
          go_meet
          case rel => exact ⟨_, (true), (by first | rfl | (simp; done) | (simp [*]; done)), H', ⟨by have := HJ4.out; first | omega | exact Nat.le_refl _⟩, ⟨by (with_reducible repeat (first | refine blk_drewN ?_ _ | refine blk_drew ?_ | refine blk_alloc ?_ _)); exact BK103.out⟩, ⟨by repeat (first | (with_reducible first | exact HB.out | apply below_alloc | apply pw_below_drewN | apply below_drew1 | refine below_set ?_ GE103.out) | exact HB.out)⟩⟩
         ·rw [if_neg c35] at H
          have c35b0 : decide (t106 < a0_4) = false := decide_eq_false c35
          clear c35
          by_cases c37 : t106 > 0
          ·rw [if_pos c37] at H
           have c37b0 : decide (0 < t106) = true := decide_eq_true c37
           clear c37
           by_cases c38 : a0_4 = 0
           ·rw [if_pos c38] at H
            have c38b0 : (a0_4 == 0) = true := beq_iff_eq.mpr c38
            have c38b1 : (a0_4 != 0) = false := bne_eq_false_iff_eq.mpr c38
            clear c38
            have H' := Aside0.mk H
            clear H
            have hcz39_0 : wc.cell? ⟨gb103, 0, none⟩ = some (.int .i64 a0_0) := (blk_cell BK103.out 0).trans rfl
            have hcz39_1 : wc.cell? ⟨gb103, 1, none⟩ = some (.int .i64 a0_1) := (blk_cell BK103.out 1).trans rfl
            have hcz39_2 : wc.cell? ⟨gb103, 2, none⟩ = some (.int .i64 a0_2) := (blk_cell BK103.out 2).trans rfl
            have hcz39_3 : wc.cell? ⟨gb103, 3, none⟩ = some (.int .i64 a0_3) := (blk_cell BK103.out 3).trans rfl
            have hcz39_4 : wc.cell? ⟨gb103, 4, none⟩ = some (.int .i64 a0_4) := (blk_cell BK103.out 4).trans rfl
            have hcz39_5 : wc.cell? ⟨gb103, 5, none⟩ = some (.slice A0_5 l0_5.length c0_5) := (blk_cell BK103.out 5).trans rfl
            have hfz39_0 := blk_frozen BK103.out 0
            have hfz39_1 := blk_frozen BK103.out 1
            have hfz39_2 := blk_frozen BK103.out 2
            have hfz39_3 := blk_frozen BK103.out 3
            have hfz39_4 := blk_frozen BK103.out 4
            have hfz39_5 := blk_frozen BK103.out 5
            go_wp2
            go_meet
            case rel => exact ⟨_, (true), (by first | rfl | (simp; done) | (simp [*]; done)), H', ⟨by have := HJ4.out; first | omega | exact Nat.le_refl _⟩, ⟨by (with_reducible repeat (first | refine blk_drewN ?_ _ | refine blk_drew ?_ | refine blk_alloc ?_ _)); exact BK103.out⟩, ⟨by repeat (first | (with_reducible first | exact HB.out | apply below_alloc | apply pw_below_drewN | apply below_drew1 | refine below_set ?_ GE103.out) | exact HB.out)⟩⟩
           ·rw [if_neg c38] at H
            have c38b0 : (a0_4 == 0) = false := beq_eq_false_iff_ne.mpr c38
            have c38b1 : (a0_4 != 0) = true := bne_iff_ne.mpr c38
            by_cases c40 : t106 = 0
            ·rw [if_pos c40] at H
             have c40b0 : (t106 == 0) = true := beq_iff_eq.mpr c40
             have c40b1 : (t106 != 0) = false := bne_eq_false_iff_eq.mpr c40
             clear c40
             have H' := Aside0.mk H
             clear H
             have hcz41_0 : wc.cell? ⟨gb103, 0, none⟩ = some (.int .i64 a0_0) := (blk_cell BK103.out 0).trans rfl
             have hcz41_1 : wc.cell? ⟨gb103, 1, none⟩ = some (.int .i64 a0_1) := (blk_cell BK103.out 1).trans rfl
             have hcz41_2 : wc.cell? ⟨gb103, 2, none⟩ = some (.int .i64 a0_2) := (blk_cell BK103.out 2).trans rfl
             have hcz41_3 : wc.cell? ⟨gb103, 3, none⟩ = some (.int .i64 a0_3) := (blk_cell BK103.out 3).trans rfl
             have hcz41_4 : wc.cell? ⟨gb103, 4, none⟩ = some (.int .i64 a0_4) := (blk_cell BK103.out 4).trans rfl
             have hcz41_5 : wc.cell? ⟨gb103, 5, none⟩ = some (.slice A0_5 l0_5.length c0_5) := (blk_cell BK103.out 5).trans rfl
             have hfz41_0 := blk_frozen BK103.out 0
             have hfz41_1 := blk_frozen BK103.out 1
             have hfz41_2 := blk_frozen BK103.out 2
             have hfz41_3 := blk_frozen BK103.out 3
             have hfz41_4 := blk_frozen BK103.out 4
             have hfz41_5 := blk_frozen BK103.out 5
             go_wp2
             go_meet
             case rel => exact ⟨_, ((a0_3 != 0)), (by first | rfl | (simp; done) | (simp [*]; done)), H', ⟨by have := HJ4.out; first | omega | exact Nat.le_refl _⟩, ⟨by (with_reducible repeat (first | refine blk_drewN ?_ _ | refine blk_drew ?_ | refine blk_alloc ?_ _)); exact BK103.out⟩, ⟨by repeat (first | (with_reducible first | exact HB.out | apply below_alloc | apply pw_below_drewN | apply below_drew1 | refine below_set ?_ GE103.out) | exact HB.out)⟩⟩
            ·rw [if_neg c40] at H
             have c40b0 : (t106 == 0) = false := beq_eq_false_iff_ne.mpr c40
             have c40b1 : (t106 != 0) = true := bne_iff_ne.mpr c40
             have H' := Aside0.mk H
             clear H
             have hcz42_0 : wc.cell? ⟨gb103, 0, none⟩ = some (.int .i64 a0_0) := (blk_cell BK103.out 0).trans rfl
             have hcz42_1 : wc.cell? ⟨gb103, 1, none⟩ = some (.int .i64 a0_1) := (blk_cell BK103.out 1).trans rfl
             have hcz42_2 : wc.cell? ⟨gb103, 2, none⟩ = some (.int .i64 a0_2) := (blk_cell BK103.out 2).trans rfl
             have hcz42_3 : wc.cell? ⟨gb103, 3, none⟩ = some (.int .i64 a0_3) := (blk_cell BK103.out 3).trans rfl
             have hcz42_4 : wc.cell? ⟨gb103, 4, none⟩ = some (.int .i64 a0_4) := (blk_cell BK103.out 4).trans rfl
             have hcz42_5 : wc.cell? ⟨gb103, 5, none⟩ = some (.slice A0_5 l0_5.length c0_5) := (blk_cell BK103.out 5).trans rfl
             have hfz42_0 := blk_frozen BK103.out 0
             have hfz42_1 := blk_frozen BK103.out 1
             have hfz42_2 := blk_frozen BK103.out 2
             have hfz42_3 := blk_frozen BK103.out 3
             have hfz42_4 := blk_frozen BK103.out 4
             have hfz42_5 := blk_frozen BK103.out 5
             go_wp2
             go_meet
             case rel => exact ⟨_, (false), (by first | rfl | (simp; done) | (simp [*]; done)), H', ⟨by have := HJ4.out; first | omega | exact Nat.le_refl _⟩, ⟨by (with_reducible repeat (first | refine blk_drewN ?_ _ | refine blk_drew ?_ | refine blk_alloc ?_ _)); exact BK103.out⟩, ⟨by repeat (first | (with_reducible first | exact HB.out | apply below_alloc | apply pw_below_drewN | apply below_drew1 | refine below_set ?_ GE103.out) | exact HB.out)⟩⟩
          ·rw [if_neg c37] at H
           have c37b0 : decide (0 < t106) = false := decide_eq_false c37
           clear c37
           by_cases c43 : t106 = 0
           ·rw [if_pos c43] at H
            have c43b0 : (t106 == 0) = true := beq_iff_eq.mpr c43
            have c43b1 : (t106 != 0) = false := bne_eq_false_iff_eq.mpr c43
            clear c43
            have H' := Aside0.mk H
            clear H
            have hcz44_0 : wc.cell? ⟨gb103, 0, none⟩ = some (.int .i64 a0_0) := (blk_cell BK103.out 0).trans rfl
            have hcz44_1 : wc.cell? ⟨gb103, 1, none⟩ = some (.int .i64 a0_1) := (blk_cell BK103.out 1).trans rfl
            have hcz44_2 : wc.cell? ⟨gb103, 2, none⟩ = some (.int .i64 a0_2) := (blk_cell BK103.out 2).trans rfl
            have hcz44_3 : wc.cell? ⟨gb103, 3, none⟩ = some (.int .i64 a0_3) := (blk_cell BK103.out 3).trans rfl
            have hcz44_4 : wc.cell? ⟨gb103, 4, none⟩ = some (.int .i64 a0_4) := (blk_cell BK103.out 4).trans rfl
            have hcz44_5 : wc.cell? ⟨gb103, 5, none⟩ = some (.slice A0_5 l0_5.length c0_5) := (blk_cell BK103.out 5).trans rfl
            have hfz44_0 := blk_frozen BK103.out 0
            have hfz44_1 := blk_frozen BK103.out 1
            have hfz44_2 := blk_frozen BK103.out 2
            have hfz44_3 := blk_frozen BK103.out 3
            have hfz44_4 := blk_frozen BK103.out 4
            have hfz44_5 := blk_frozen BK103.out 5
            go_wp2
            go_meet
            case rel => exact ⟨_, ((a0_3 != 0)), (by first | rfl | (simp; done) | (simp [*]; done)), H', ⟨by have := HJ4.out; first | omega | exact Nat.le_refl _⟩, ⟨by (with_reducible repeat (first | refine blk_drewN ?_ _ | refine blk_drew ?_ | refine blk_alloc ?_ _)); exact BK103.out⟩, ⟨by repeat (first | (with_reducible first | exact HB.out | apply below_alloc | apply pw_below_drewN | apply below_drew1 | refine below_set ?_ GE103.out) | exact HB.out)⟩⟩
           ·rw [if_neg c43] at H
            have c43b0 : (t106 == 0) = false := beq_eq_false_iff_ne.mpr c43
            have c43b1 : (t106 != 0) = true := bne_iff_ne.mpr c43
            have H' := Aside0.mk H
            clear H
            have hcz45_0 : wc.cell? ⟨gb103, 0, none⟩ = some (.int .i64 a0_0) := (blk_cell BK103.out 0).trans rfl
            have hcz45_1 : wc.cell? ⟨gb103, 1, none⟩ = some (.int .i64 a0_1) := (blk_cell BK103.out 1).trans rfl
            have hcz45_2 : wc.cell? ⟨gb103, 2, none⟩ = some (.int .i64 a0_2) := (blk_cell BK103.out 2).trans rfl
            have hcz45_3 : wc.cell? ⟨gb103, 3, none⟩ = some (.int .i64 a0_3) := (blk_cell BK103.out 3).trans rfl
            have hcz45_4 : wc.cell? ⟨gb103, 4, none⟩ = some (.int .i64 a0_4) := (blk_cell BK103.out 4).trans rfl
            have hcz45_5 : wc.cell? ⟨gb103, 5, none⟩ = some (.slice A0_5 l0_5.length c0_5) := (blk_cell BK103.out 5).trans rfl
            have hfz45_0 := blk_frozen BK103.out 0
            have hfz45_1 := blk_frozen BK103.out 1
            have hfz45_2 := blk_frozen BK103.out 2
            have hfz45_3 := blk_frozen BK103.out 3
            have hfz45_4 := blk_frozen BK103.out 4
            have hfz45_5 := blk_frozen BK103.out 5
            go_wp2
            go_meet
            case rel => exact ⟨_, (false), (by first | rfl | (simp; done) | (simp [*]; done)), H', ⟨by have := HJ4.out; first | omega | exact Nat.le_refl _⟩, ⟨by (with_reducible repeat (first | refine blk_drewN ?_ _ | refine blk_drew ?_ | refine blk_alloc ?_ _)); exact BK103.out⟩, ⟨by repeat (first | (with_reducible first | exact HB.out | apply below_alloc | apply pw_below_drewN | apply below_drew1 | refine below_set ?_ GE103.out) | exact HB.out)⟩⟩
     case rest =>
      clear HC27
      try clear c1
      try clear c2
      try clear p2
      try clear c3
      try clear c4
      try clear c5
      try clear c6
      try clear c8
      try clear c8b0
      try clear c10
      try clear c10b0
      try clear c12
      try clear c12b0
      try clear c14
      try clear c14b0
      try clear c16
      try clear c16b0
      try clear c17
      try clear c17b0
      try clear c17b1
      try clear c19
      try clear c19b0
      try clear c19b1
      try clear c22
      try clear c22b0
      try clear c22b1
      try clear c25
      try clear c29
      try clear c29b0
      try clear c31
      try clear c31b0
      try clear c33
      try clear c33b0
      try clear c35
      try clear c35b0
      try clear c37
      try clear c37b0
      try clear c38
      try clear c38b0
      try clear c38b1
      try clear c40
      try clear c40b0
      try clear c40b1
      try clear c43
      try clear c43b0
      try clear c43b1
      try clear hcz11_0
      try clear hcz11_1
      try clear hcz11_2
      try clear hcz11_3
      try clear hcz11_4
      try clear hcz11_5
      try clear hcz13_0
      try clear hcz13_1
      try clear hcz13_2
      try clear hcz13_3
      try clear hcz13_4
      try clear hcz13_5
      try clear hcz15_0
      try clear hcz15_1
      try clear hcz15_2
      try clear hcz15_3
      try clear hcz15_4
      try clear hcz15_5
      try clear hcz18_0
      try clear hcz18_1
      try clear hcz18_2
      try clear hcz18_3
      try clear hcz18_4
      try clear hcz18_5
      try clear hcz20_0
      try clear hcz20_1
      try clear hcz20_2
      try clear hcz20_3
      try clear hcz20_4
      try clear hcz20_5
      try clear hcz21_0
      try clear hcz21_1
      try clear hcz21_2
      try clear hcz21_3
      try clear hcz21_4
      try clear hcz21_5
      try clear hcz23_0
      try clear hcz23_1
      try clear hcz23_2
      try clear hcz23_3
      try clear hcz23_4
      try clear hcz23_5
      try clear hcz24_0
      try clear hcz24_1
      try clear hcz24_2
      try clear hcz24_3
      try clear hcz24_4
      try clear hcz24_5
      try clear hcz28_0
      try clear hcz28_1
      try clear hcz28_2
      try clear hcz28_3
      try clear hcz28_4
      try clear hcz28_5
      try clear hcz30_0
      try clear hcz30_1
      try clear hcz30_2
      try clear hcz30_3
      try clear hcz30_4
      try clear hcz30_5
      try clear hcz32_0
      try clear hcz32_1
      try clear hcz32_2
      try clear hcz32_3
      try clear hcz32_4
      try clear hcz32_5
      try clear hcz34_0
      try clear hcz34_1
      try clear hcz34_2
      try clear hcz34_3
      try clear hcz34_4
      try clear hcz34_5
      try clear hcz36_0
      try clear hcz36_1
      try clear hcz36_2
      try clear hcz36_3
      try clear hcz36_4
      try clear hcz36_5
      try clear hcz39_0
      try clear hcz39_1
      try clear hcz39_2
      try clear hcz39_3
      try clear hcz39_4
      try clear hcz39_5
      try clear hcz41_0
      try clear hcz41_1
      try clear hcz41_2
      try clear hcz41_3
      try clear hcz41_4
      try clear hcz41_5
      try clear hcz42_0
      try clear hcz42_1
      try clear hcz42_2
      try clear hcz42_3
      try clear hcz42_4
      try clear hcz42_5
      try clear hcz44_0
      try clear hcz44_1
      try clear hcz44_2
      try clear hcz44_3
      try clear hcz44_4
      try clear hcz44_5
      try clear hcz45_0
      try clear hcz45_1
      try clear hcz45_2
      try clear hcz45_3
      try clear hcz45_4
      try clear hcz45_5
      try clear hcz7_0
      try clear hcz7_1
      try clear hcz7_2
      try clear hcz7_3
      try clear hcz7_4
      try clear hcz7_5
      try clear hcz9_0
      try clear hcz9_1
      try clear hcz9_2
      try clear hcz9_3
      try clear hcz9_4
      try clear hcz9_5
      try clear hfz11_0
      try clear hfz11_1
      try clear hfz11_2
      try clear hfz11_3
      try clear hfz11_4
      try clear hfz11_5
      try clear hfz13_0
      try clear hfz13_1
      try clear hfz13_2
      try clear hfz13_3
      try clear hfz13_4
      try clear hfz13_5
      try clear hfz15_0
      try clear hfz15_1
      try clear hfz15_2
      try clear hfz15_3
      try clear hfz15_4
      try clear hfz15_5
      try clear hfz18_0
      try clear hfz18_1
      try clear hfz18_2
      try clear hfz18_3
      try clear hfz18_4
      try clear hfz18_5
      try clear hfz20_0
      try clear hfz20_1
      try clear hfz20_2
      try clear hfz20_3
      try clear hfz20_4
      try clear hfz20_5
      try clear hfz21_0
      try clear hfz21_1
      try clear hfz21_2
      try clear hfz21_3
      try clear hfz21_4
      try clear hfz21_5
      try clear hfz23_0
      try clear hfz23_1
      try clear hfz23_2
      try clear hfz23_3
      try clear hfz23_4
      try clear hfz23_5
      try clear hfz24_0
      try clear hfz24_1
      try clear hfz24_2
      try clear hfz24_3
      try clear hfz24_4
      try clear hfz24_5
      try clear hfz28_0
      try clear hfz28_1
      try clear hfz28_2
      try clear hfz28_3
      try clear hfz28_4
      try clear hfz28_5
      try clear hfz30_0
      try clear hfz30_1
      try clear hfz30_2
      try clear hfz30_3
      try clear hfz30_4
      try clear hfz30_5
      try clear hfz32_0
      try clear hfz32_1
      try clear hfz32_2
      try clear hfz32_3
      try clear hfz32_4
      try clear hfz32_5
      try clear hfz34_0
      try clear hfz34_1
      try clear hfz34_2
      try clear hfz34_3
      try clear hfz34_4
      try clear hfz34_5
      try clear hfz36_0
      try clear hfz36_1
      try clear hfz36_2
      try clear hfz36_3
      try clear hfz36_4
      try clear hfz36_5
      try clear hfz39_0
      try clear hfz39_1
      try clear hfz39_2
      try clear hfz39_3
      try clear hfz39_4
      try clear hfz39_5
      try clear hfz41_0
      try clear hfz41_1
      try clear hfz41_2
      try clear hfz41_3
      try clear hfz41_4
      try clear hfz41_5
      try clear hfz42_0
      try clear hfz42_1
      try clear hfz42_2
      try clear hfz42_3
      try clear hfz42_4
      try clear hfz42_5
      try clear hfz44_0
      try clear hfz44_1
      try clear hfz44_2
      try clear hfz44_3
      try clear hfz44_4
      try clear hfz44_5
      try clear hfz45_0
      try clear hfz45_1
      try clear hfz45_2
      try clear hfz45_3
      try clear hfz45_4
      try clear hfz45_5
      try clear hfz7_0
      try clear hfz7_1
      try clear hfz7_2
      try clear hfz7_3
      try clear hfz7_4
      try clear hfz7_5
      try clear hfz9_0
      try clear hfz9_1
      try clear hfz9_2
      try clear hfz9_3
      try clear hfz9_4
      try clear hfz9_5
      try clear p2
      obtain ⟨kq, x94_26, rfl, HA, HJ26, BK103, HB⟩ := hcut
      cases kq with
      | zero => exact absurd HA.out (by simp [gatewardenref06_Formed.j1])
      | succ kj26 =>
       have H := HA.out
       clear HA
       simp only [gatewardenref06_Formed.j1] at H
       by_cases c46 : x94_26 = true
       ·subst c46
        have H1 : (some false) = some r := by rw [if_pos rfl] at H; exact H
        clear H
        have H := H1
        clear H1
        obtain rfl := Option.some.inj H
        go_wp2
        go_ret
        exact ⟨by first | rfl | (simp [errW_none, errW_some] <;> rfl) | (simp [*, errW_none, errW_some] <;> rfl), by repeat (first | (with_reducible first | exact HB.out | apply below_alloc | apply pw_below_drewN | apply below_drew1 | refine below_set ?_ GE103.out) | exact HB.out)⟩
       ·replace c46 := Bool.eq_false_iff.mpr c46
        subst c46
        have H1 : (if t107 = 0 then (if (l0_5.length : Int) = a0_4 then ((gatewardenref06_all.f kj26 l0_5 t108).bind fun t109 => (some t109)) else (some false)) else (if (l0_5.length : Int) = t107 then ((gatewardenref06_all.f kj26 l0_5 t108).bind fun t110 => (some t110)) else (some false))) = some r := by rw [if_neg (show ¬ (false = true) by decide)] at H; exact H
        clear H
        have H := H1
        clear H1
        by_cases c47 : t107 = 0
        ·rw [if_pos c47] at H
         have c47b0 : (t107 == 0) = true := beq_iff_eq.mpr c47
         have c47b1 : (t107 != 0) = false := bne_eq_false_iff_eq.mpr c47
         clear c47
         by_cases c48 : (l0_5.length : Int) = a0_4
         ·rw [if_pos c48] at H
          have c48b0 : ((l0_5.length : Int) == a0_4) = true := beq_iff_eq.mpr c48
          have c48b1 : ((l0_5.length : Int) != a0_4) = false := bne_eq_false_iff_eq.mpr c48
          clear c48
          replace H := Option.bind_eq_some_iff.mp H
          obtain ⟨t109, A490, H⟩ := H
          replace H : (some t109) = some r := H
          have A49 := Aside0.mk A490
          clear A490
          obtain rfl := Option.some.inj H
          have hcz50_0 : wc.cell? ⟨gb103, 0, none⟩ = some (.int .i64 a0_0) := (blk_cell BK103.out 0).trans rfl
          have hcz50_1 : wc.cell? ⟨gb103, 1, none⟩ = some (.int .i64 a0_1) := (blk_cell BK103.out 1).trans rfl
          have hcz50_2 : wc.cell? ⟨gb103, 2, none⟩ = some (.int .i64 a0_2) := (blk_cell BK103.out 2).trans rfl
          have hcz50_3 : wc.cell? ⟨gb103, 3, none⟩ = some (.int .i64 a0_3) := (blk_cell BK103.out 3).trans rfl
          have hcz50_4 : wc.cell? ⟨gb103, 4, none⟩ = some (.int .i64 a0_4) := (blk_cell BK103.out 4).trans rfl
          have hcz50_5 : wc.cell? ⟨gb103, 5, none⟩ = some (.slice A0_5 l0_5.length c0_5) := (blk_cell BK103.out 5).trans rfl
          have hfz50_0 := blk_frozen BK103.out 0
          have hfz50_1 := blk_frozen BK103.out 1
          have hfz50_2 := blk_frozen BK103.out 2
          have hfz50_3 := blk_frozen BK103.out 3
          have hfz50_4 := blk_frozen BK103.out 4
          have hfz50_5 := blk_frozen BK103.out 5
          go_wp2_with (first | (go_at_call 66; (with_reducible refine (gatewardenref06_all.calls kj26 _ _ l0_5 t108 t109 _ ?side1 ?side2 A49.out).mono ?_); (case side1 => repeat (first | exact (Kd.C_below HR0_5.out HB.out) | (with_reducible refine Kd.C_alloc ?_ _) | (with_reducible refine Kd.C_drewN ?_ _) | (with_reducible refine Kd.C_drew ?_))); (case side2 => exact HC0_5.out); rintro e w' ⟨rfl, ⟨nd, rfl⟩⟩))
          go_ret
          exact ⟨by first | rfl | (simp [errW_none, errW_some] <;> rfl) | (simp [*, errW_none, errW_some] <;> rfl), by repeat (first | (with_reducible first | exact HB.out | apply below_alloc | apply pw_below_drewN | apply below_drew1 | refine below_set ?_ GE103.out) | exact HB.out)⟩
         ·rw [if_neg c48] at H
          have c48b0 : ((l0_5.length : Int) == a0_4) = false := beq_eq_false_iff_ne.mpr c48
          have c48b1 : ((l0_5.length : Int) != a0_4) = true := bne_iff_ne.mpr c48
          obtain rfl := Option.some.inj H
          have hcz51_0 : wc.cell? ⟨gb103, 0, none⟩ = some (.int .i64 a0_0) := (blk_cell BK103.out 0).trans rfl
          have hcz51_1 : wc.cell? ⟨gb103, 1, none⟩ = some (.int .i64 a0_1) := (blk_cell BK103.out 1).trans rfl
          have hcz51_2 : wc.cell? ⟨gb103, 2, none⟩ = some (.int .i64 a0_2) := (blk_cell BK103.out 2).trans rfl
          have hcz51_3 : wc.cell? ⟨gb103, 3, none⟩ = some (.int .i64 a0_3) := (blk_cell BK103.out 3).trans rfl
          have hcz51_4 : wc.cell? ⟨gb103, 4, none⟩ = some (.int .i64 a0_4) := (blk_cell BK103.out 4).trans rfl
          have hcz51_5 : wc.cell? ⟨gb103, 5, none⟩ = some (.slice A0_5 l0_5.length c0_5) := (blk_cell BK103.out 5).trans rfl
          have hfz51_0 := blk_frozen BK103.out 0
          have hfz51_1 := blk_frozen BK103.out 1
          have hfz51_2 := blk_frozen BK103.out 2
          have hfz51_3 := blk_frozen BK103.out 3
          have hfz51_4 := blk_frozen BK103.out 4
          have hfz51_5 := blk_frozen BK103.out 5
          go_wp2
          go_ret
          exact ⟨by first | rfl | (simp [errW_none, errW_some] <;> rfl) | (simp [*, errW_none, errW_some] <;> rfl), by repeat (first | (with_reducible first | exact HB.out | apply below_alloc | apply pw_below_drewN | apply below_drew1 | refine below_set ?_ GE103.out) | exact HB.out)⟩
        ·rw [if_neg c47] at H
         have c47b0 : (t107 == 0) = false := beq_eq_false_iff_ne.mpr c47
         have c47b1 : (t107 != 0) = true := bne_iff_ne.mpr c47
         by_cases c52 : (l0_5.length : Int) = t107
         ·rw [if_pos c52] at H
          have c52b0 : ((l0_5.length : Int) == t107) = true := beq_iff_eq.mpr c52
          have c52b1 : ((l0_5.length : Int) != t107) = false := bne_eq_false_iff_eq.mpr c52
          clear c52
          replace H := Option.bind_eq_some_iff.mp H
          obtain ⟨t110, A530, H⟩ := H
          replace H : (some t110) = some r := H
          have A53 := Aside0.mk A530
          clear A530
          obtain rfl := Option.some.inj H
          have hcz54_0 : wc.cell? ⟨gb103, 0, none⟩ = some (.int .i64 a0_0) := (blk_cell BK103.out 0).trans rfl
          have hcz54_1 : wc.cell? ⟨gb103, 1, none⟩ = some (.int .i64 a0_1) := (blk_cell BK103.out 1).trans rfl
          have hcz54_2 : wc.cell? ⟨gb103, 2, none⟩ = some (.int .i64 a0_2) := (blk_cell BK103.out 2).trans rfl
          have hcz54_3 : wc.cell? ⟨gb103, 3, none⟩ = some (.int .i64 a0_3) := (blk_cell BK103.out 3).trans rfl
          have hcz54_4 : wc.cell? ⟨gb103, 4, none⟩ = some (.int .i64 a0_4) := (blk_cell BK103.out 4).trans rfl
          have hcz54_5 : wc.cell? ⟨gb103, 5, none⟩ = some (.slice A0_5 l0_5.length c0_5) := (blk_cell BK103.out 5).trans rfl
          have hfz54_0 := blk_frozen BK103.out 0
          have hfz54_1 := blk_frozen BK103.out 1
          have hfz54_2 := blk_frozen BK103.out 2
          have hfz54_3 := blk_frozen BK103.out 3
          have hfz54_4 := blk_frozen BK103.out 4
          have hfz54_5 := blk_frozen BK103.out 5
          go_wp2_with (first | (go_at_call 66; (with_reducible refine (gatewardenref06_all.calls kj26 _ _ l0_5 t108 t110 _ ?side1 ?side2 A53.out).mono ?_); (case side1 => repeat (first | exact (Kd.C_below HR0_5.out HB.out) | (with_reducible refine Kd.C_alloc ?_ _) | (with_reducible refine Kd.C_drewN ?_ _) | (with_reducible refine Kd.C_drew ?_))); (case side2 => exact HC0_5.out); rintro e w' ⟨rfl, ⟨nd, rfl⟩⟩))
          go_ret
          exact ⟨by first | rfl | (simp [errW_none, errW_some] <;> rfl) | (simp [*, errW_none, errW_some] <;> rfl), by repeat (first | (with_reducible first | exact HB.out | apply below_alloc | apply pw_below_drewN | apply below_drew1 | refine below_set ?_ GE103.out) | exact HB.out)⟩
         ·rw [if_neg c52] at H
          have c52b0 : ((l0_5.length : Int) == t107) = false := beq_eq_false_iff_ne.mpr c52
          have c52b1 : ((l0_5.length : Int) != t107) = true := bne_iff_ne.mpr c52
          obtain rfl := Option.some.inj H
          have hcz55_0 : wc.cell? ⟨gb103, 0, none⟩ = some (.int .i64 a0_0) := (blk_cell BK103.out 0).trans rfl
          have hcz55_1 : wc.cell? ⟨gb103, 1, none⟩ = some (.int .i64 a0_1) := (blk_cell BK103.out 1).trans rfl
          have hcz55_2 : wc.cell? ⟨gb103, 2, none⟩ = some (.int .i64 a0_2) := (blk_cell BK103.out 2).trans rfl
          have hcz55_3 : wc.cell? ⟨gb103, 3, none⟩ = some (.int .i64 a0_3) := (blk_cell BK103.out 3).trans rfl
          have hcz55_4 : wc.cell? ⟨gb103, 4, none⟩ = some (.int .i64 a0_4) := (blk_cell BK103.out 4).trans rfl
          have hcz55_5 : wc.cell? ⟨gb103, 5, none⟩ = some (.slice A0_5 l0_5.length c0_5) := (blk_cell BK103.out 5).trans rfl
          have hfz55_0 := blk_frozen BK103.out 0
          have hfz55_1 := blk_frozen BK103.out 1
          have hfz55_2 := blk_frozen BK103.out 2
          have hfz55_3 := blk_frozen BK103.out 3
          have hfz55_4 := blk_frozen BK103.out 4
          have hfz55_5 := blk_frozen BK103.out 5
          go_wp2
          go_ret
          exact ⟨by first | rfl | (simp [errW_none, errW_some] <;> rfl) | (simp [*, errW_none, errW_some] <;> rfl), by repeat (first | (with_reducible first | exact HB.out | apply below_alloc | apply pw_below_drewN | apply below_drew1 | refine below_set ?_ GE103.out) | exact HB.out)⟩
 ·replace c3 := Bool.eq_false_iff.mpr c3
  subst c3
  have H1 : (some false) = some r := by rw [if_neg (show ¬ (false = true) by decide)] at H; exact H
  clear H
  have H := H1
  clear H1
  obtain rfl := Option.some.inj H
  go_enter Try.func55, Try.ntmps55
  go_wp2_with (first | ((with_reducible refine gate_dst (N := 1) rfl ?_); refine box_event ?hg (N := 1) ?hd (cs := #[.int .i64 a0_0, .int .i64 a0_1, .int .i64 a0_2, .int .i64 a0_3, .int .i64 a0_4, .slice A0_5 l0_5.length c0_5]) (t := 47) ?hr ?_; (case hd => rfl); (case hg => rfl); (case hr => first | (go_simp; done) | (go_simp; rfl)); intro gb103 hg w56 hbox hb; have n0_ := Aside0.mk (below_step (by repeat (first | (with_reducible first | exact HB.out | apply below_alloc | apply pw_below_drewN | apply below_drew1) | exact HB.out)) hb); have n1_ := Aside0.mk (hbox); have n2_ := Aside0.mk ((by rw [hg]; exact (below_size (by repeat (first | (with_reducible first | exact HB.out | apply below_alloc | apply pw_below_drewN | apply below_drew1) | exact HB.out))) : w.heap.size ≤ gb103)); have n3_ := Aside0.mk ((by rw [hg]; exact (below_size (by repeat (first | (with_reducible first | exact HB.out | apply below_alloc | apply pw_below_drewN | apply below_drew1) | exact HB.out))) : w.heap.size ≤ gb103)); clear HB; have HB := n0_; have BK103 := n1_; have GW103 := n2_; have GE103 := n3_; clear n0_ n1_ n2_ n3_; clear hb hbox hg; have hcz57_0 : w56.cell? ⟨gb103, 0, none⟩ = some (.int .i64 a0_0) := (blk_cell BK103.out 0).trans rfl; have hcz57_1 : w56.cell? ⟨gb103, 1, none⟩ = some (.int .i64 a0_1) := (blk_cell BK103.out 1).trans rfl; have hcz57_2 : w56.cell? ⟨gb103, 2, none⟩ = some (.int .i64 a0_2) := (blk_cell BK103.out 2).trans rfl; have hcz57_3 : w56.cell? ⟨gb103, 3, none⟩ = some (.int .i64 a0_3) := (blk_cell BK103.out 3).trans rfl; have hcz57_4 : w56.cell? ⟨gb103, 4, none⟩ = some (.int .i64 a0_4) := (blk_cell BK103.out 4).trans rfl; have hcz57_5 : w56.cell? ⟨gb103, 5, none⟩ = some (.slice A0_5 l0_5.length c0_5) := (blk_cell BK103.out 5).trans rfl; have hfz57_0 := blk_frozen BK103.out 0; have hfz57_1 := blk_frozen BK103.out 1; have hfz57_2 := blk_frozen BK103.out 2; have hfz57_3 := blk_frozen BK103.out 3; have hfz57_4 := blk_frozen BK103.out 4; have hfz57_5 := blk_frozen BK103.out 5) | ((with_reducible refine gate_callee (f := 63) rfl ?_); refine goesL_ (some 9) rfl rfl Try.func63 (by kernel_rfl) rfl #[.int .i64 a0_0] rfl (by (try simp only [List.map_toArray, List.map_cons, List.map_nil]); first | done | rfl | (simp only [List.length_drop, List.length_take]; rfl)) ?_; (with_reducible refine (gatewardenref06_Known.calls a0_0 false _ A2.out).mono ?_); rintro e w' ⟨rfl, ⟨nd, rfl⟩⟩; refine ⟨_, rfl, ?_⟩))
  go_ret
  exact ⟨by first | rfl | (simp [errW_none, errW_some] <;> rfl) | (simp [*, errW_none, errW_some] <;> rfl), by repeat (first | (with_reducible first | exact HB.out | apply below_alloc | apply pw_below_drewN | apply below_drew1 | refine below_set ?_ GE103.out) | exact HB.out)⟩

end Go.Proofs.Ytcoaehhoiaijoaa.PFactsTells
