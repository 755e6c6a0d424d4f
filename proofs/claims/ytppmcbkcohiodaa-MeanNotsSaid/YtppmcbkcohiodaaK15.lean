/- Texts of this claim, put together (wip/pack.py): MeanHoldsRef. -/
import Derived.Test.YtppmcbkcohiodaaK14
namespace Go.Proofs.Ytppmcbkcohiodaa.PMeanTells
open Go.RowKit Go.Proofs.YtppmcbkcohiodaaW.PrintWords Go.Proofs.YtppmcbkcohiodaaW.PrintLast Go.Proofs.YtppmcbkcohiodaaW.PrintMore
attribute [local go_sem] max2_int min2_int max_two min_two max_three min_three max_four min_four   -- for this text's walks alone
set_option linter.unusedVariables false
set_option linter.unusedSimpArgs false

/-! ### gatewardenref15_atom: function 35 -/
def gatewardenref15_atom.f (a0_0 : Int) (a0_1 : Int) (l0_2 : List (S55)) (a0_3 : Nat) (a0_4 : Nat) (l0_5 : List (S26)) (a1_0 : Int) (a1_1 : Int) (a1_2 : Int) (l1_3 : List (S55)) (l1_4 : List Int) (l1_5 : List Int) : Option Bool := atomP a0_0 a0_1 l0_2 a0_3 a0_4 l0_5 a1_0 a1_1 a1_2 l1_3 l1_4 l1_5
theorem gatewardenref15_atom.calls (a0_0 : Int) (a0_1 : Int) (A0_2 : Option Addr) (c0_2 : Nat) (l0_2 : List (S55)) (a0_3 : Nat) (a0_4 : Nat) (A0_5 : Option Addr) (c0_5 : Nat) (l0_5 : List (S26)) (a1_0 : Int) (a1_1 : Int) (a1_2 : Int) (A1_3 : Option Addr) (c1_3 : Nat) (l1_3 : List (S55)) (A1_4 : Option Addr) (c1_4 : Nat) (l1_4 : List Int) (A1_5 : Option Addr) (c1_5 : Nat) (l1_5 : List Int) (r : Bool) (w : World) (hr0_2 : Kd.C k55 w A0_2 l0_2.length l0_2) (hc0_2 : l0_2.length ≤ c0_2) (hr0_5 : Kd.C k26 w A0_5 l0_5.length l0_5) (hc0_5 : l0_5.length ≤ c0_5) (hr1_3 : Kd.C k55 w A1_3 l1_3.length l1_3) (hc1_3 : l1_3.length ≤ c1_3) (hr1_4 : Kd.C (Kd.int .i64) w A1_4 l1_4.length l1_4) (hc1_4 : l1_4.length ≤ c1_4) (hr1_5 : Kd.C (Kd.int .i64) w A1_5 l1_5.length l1_5) (hc1_5 : l1_5.length ≤ c1_5) (h : gatewardenref15_atom.f a0_0 a0_1 l0_2 a0_3 a0_4 l0_5 a1_0 a1_1 a1_2 l1_3 l1_4 l1_5 = some r) :
  Calls Try.prog 35 #[.agg #[.int .i64 a0_0, .int .i64 a0_1, .slice A0_2 l0_2.length c0_2, .float .f64 a0_3, .float .f64 a0_4, .slice A0_5 l0_5.length c0_5], .agg #[.int .i64 a1_0, .int .i64 a1_1, .int .i64 a1_2, .slice A1_3 l1_3.length c1_3, .slice A1_4 l1_4.length c1_4, .slice A1_5 l1_5.length c1_5]] w fun e w' => e = .returned (.bool r) ∧ Below w.heap.size w w' :=
 ratom_calls a0_0 a0_1 A0_2 c0_2 l0_2 a0_3 a0_4 A0_5 c0_5 l0_5 a1_0 a1_1 a1_2 A1_3 c1_3 l1_3 A1_4 c1_4 l1_4 A1_5 c1_5 l1_5 r w hr0_2 hc0_2 hr0_5 hc0_5 hr1_3 hc1_3 hr1_4 hc1_4 hr1_5 hc1_5 h


/-! ### gatewardenref15_Holds: function 15 -/
mutual
def gatewardenref15_Holds.l0 : Nat → Int → Int → Int → List (S55) → Nat → Nat → List (S26) → Int → Int → Int → List (S55) → List Int → List Int → Option (Bool)
 | 0, _, _, _, _, _, _, _, _, _, _, _, _, _ => none
 | k + 1, x5, x127000, x127001, x127002, x127003, x127004, x127005, x128000, x128001, x128002, x128003, x128004, x128005 => if x5 < (x127005.length : Int) then (if 0 ≤ x5 then ((gatewardenref15_Holds.f k ((rd_T26 x127005 x5).f0) ((rd_T26 x127005 x5).f1) ((rd_T26 x127005 x5).f2) ((rd_T26 x127005 x5).f3) ((rd_T26 x127005 x5).f4) ((rd_T26 x127005 x5).f5) x128000 x128001 x128002 x128003 x128004 x128005).bind fun t132 => (if t132 = true then (gatewardenref15_Holds.l0 k (wrap64 (x5 + 1)) x127000 x127001 x127002 x127003 x127004 x127005 x128000 x128001 x128002 x128003 x128004 x128005) else (some false))) else (none)) else (some true)
def gatewardenref15_Holds.l1 : Nat → Int → Int → Int → List (S55) → Nat → Nat → List (S26) → Int → Int → Int → List (S55) → List Int → List Int → Option (Bool)
 | 0, _, _, _, _, _, _, _, _, _, _, _, _, _ => none
 | k + 1, x6, x127000, x127001, x127002, x127003, x127004, x127005, x128000, x128001, x128002, x128003, x128004, x128005 => if x6 < (x127005.length : Int) then (if 0 ≤ x6 then ((gatewardenref15_Holds.f k ((rd_T26 x127005 x6).f0) ((rd_T26 x127005 x6).f1) ((rd_T26 x127005 x6).f2) ((rd_T26 x127005 x6).f3) ((rd_T26 x127005 x6).f4) ((rd_T26 x127005 x6).f5) x128000 x128001 x128002 x128003 x128004 x128005).bind fun t134 => (if t134 = true then (some true) else (gatewardenref15_Holds.l1 k (wrap64 (x6 + 1)) x127000 x127001 x127002 x127003 x127004 x127005 x128000 x128001 x128002 x128003 x128004 x128005))) else (none)) else (some false)
def gatewardenref15_Holds.f : Nat → Int → Int → List (S55) → Nat → Nat → List (S26) → Int → Int → Int → List (S55) → List Int → List Int → Option (Bool)
 | 0, _, _, _, _, _, _, _, _, _, _, _, _ => none
 | k + 1, a0_0, a0_1, l0_2, a0_3, a0_4, l0_5, a1_0, a1_1, a1_2, l1_3, l1_4, l1_5 => if a0_0 = 1 then ((gatewardenref15_atom.f a0_0 a0_1 l0_2 a0_3 a0_4 l0_5 a1_0 a1_1 a1_2 l1_3 l1_4 l1_5).bind fun t128 => (some t128)) else (if a0_0 = 2 then (if 0 < (l0_5.length : Int) then ((gatewardenref15_Holds.f k ((rd_T26 l0_5 0).f0) ((rd_T26 l0_5 0).f1) ((rd_T26 l0_5 0).f2) ((rd_T26 l0_5 0).f3) ((rd_T26 l0_5 0).f4) ((rd_T26 l0_5 0).f5) a1_0 a1_1 a1_2 l1_3 l1_4 l1_5).bind fun t130 => (some (!t130))) else (none)) else (if a0_0 = 3 then (gatewardenref15_Holds.l0 k 0 a0_0 a0_1 l0_2 a0_3 a0_4 l0_5 a1_0 a1_1 a1_2 l1_3 l1_4 l1_5) else (if a0_0 = 4 then (gatewardenref15_Holds.l1 k 0 a0_0 a0_1 l0_2 a0_3 a0_4 l0_5 a1_0 a1_1 a1_2 l1_3 l1_4 l1_5) else (some true))))
end
theorem gatewardenref15_Holds.mono_l : ∀ k, (∀ y0 y1 y2 y3 y4 y5 y6 y7 y8 y9 y10 y11, LeO (gatewardenref15_Holds.f k y0 y1 y2 y3 y4 y5 y6 y7 y8 y9 y10 y11) (gatewardenref15_Holds.f (k + 1) y0 y1 y2 y3 y4 y5 y6 y7 y8 y9 y10 y11)) ∧ (∀ y0 y1 y2 y3 y4 y5 y6 y7 y8 y9 y10 y11 y12, LeO (gatewardenref15_Holds.l0 k y0 y1 y2 y3 y4 y5 y6 y7 y8 y9 y10 y11 y12) (gatewardenref15_Holds.l0 (k + 1) y0 y1 y2 y3 y4 y5 y6 y7 y8 y9 y10 y11 y12)) ∧ (∀ y0 y1 y2 y3 y4 y5 y6 y7 y8 y9 y10 y11 y12, LeO (gatewardenref15_Holds.l1 k y0 y1 y2 y3 y4 y5 y6 y7 y8 y9 y10 y11 y12) (gatewardenref15_Holds.l1 (k + 1) y0 y1 y2 y3 y4 y5 y6 y7 y8 y9 y10 y11 y12))
 | 0 => ⟨fun _ _ _ _ _ _ _ _ _ _ _ _ r h => by simp [gatewardenref15_Holds.f] at h, fun _ _ _ _ _ _ _ _ _ _ _ _ _ r h => by simp [gatewardenref15_Holds.l0] at h, fun _ _ _ _ _ _ _ _ _ _ _ _ _ r h => by simp [gatewardenref15_Holds.l1] at h⟩
 | k + 1 => by
  obtain ⟨ih0, ih1, ih2⟩ := gatewardenref15_Holds.mono_l k
  refine ⟨?_, ?_, ?_⟩
  ·intro y0 y1 y2 y3 y4 y5 y6 y7 y8 y9 y10 y11
   unfold gatewardenref15_Holds.f
   repeat' first
   | (with_reducible exact ih0 _ _ _ _ _ _ _ _ _ _ _ _)
   | (with_reducible exact ih1 _ _ _ _ _ _ _ _ _ _ _ _ _)
   | (with_reducible exact ih2 _ _ _ _ _ _ _ _ _ _ _ _ _)
   | (with_reducible exact LeO.refl _)
   | (with_reducible exact LeO.none _)
   | (with_reducible refine LeO.ite ?_ ?_)
   | (with_reducible refine LeO.bind ?_ (fun _ => ?_))
   | exact ih0 _ _ _ _ _ _ _ _ _ _ _ _
   | exact ih1 _ _ _ _ _ _ _ _ _ _ _ _ _
   | exact ih2 _ _ _ _ _ _ _ _ _ _ _ _ _
   | exact LeO.none _
   | refine LeO.ite ?_ ?_
   | refine LeO.bind ?_ (fun _ => ?_)
  ·intro y0 y1 y2 y3 y4 y5 y6 y7 y8 y9 y10 y11 y12
   unfold gatewardenref15_Holds.l0
   repeat' first
   | (with_reducible exact ih0 _ _ _ _ _ _ _ _ _ _ _ _)
   | (with_reducible exact ih1 _ _ _ _ _ _ _ _ _ _ _ _ _)
   | (with_reducible exact ih2 _ _ _ _ _ _ _ _ _ _ _ _ _)
   | (with_reducible exact LeO.refl _)
   | (with_reducible exact LeO.none _)
   | (with_reducible refine LeO.ite ?_ ?_)
   | (with_reducible refine LeO.bind ?_ (fun _ => ?_))
   | exact ih0 _ _ _ _ _ _ _ _ _ _ _ _
   | exact ih1 _ _ _ _ _ _ _ _ _ _ _ _ _
   | exact ih2 _ _ _ _ _ _ _ _ _ _ _ _ _
   | exact LeO.none _
   | refine LeO.ite ?_ ?_
   | refine LeO.bind ?_ (fun _ => ?_)
  ·intro y0 y1 y2 y3 y4 y5 y6 y7 y8 y9 y10 y11 y12
   unfold gatewardenref15_Holds.l1
   repeat' first
   | (with_reducible exact ih0 _ _ _ _ _ _ _ _ _ _ _ _)
   | (with_reducible exact ih1 _ _ _ _ _ _ _ _ _ _ _ _ _)
   | (with_reducible exact ih2 _ _ _ _ _ _ _ _ _ _ _ _ _)
   | (with_reducible exact LeO.refl _)
   | (with_reducible exact LeO.none _)
   | (with_reducible refine LeO.ite ?_ ?_)
   | (with_reducible refine LeO.bind ?_ (fun _ => ?_))
   | exact ih0 _ _ _ _ _ _ _ _ _ _ _ _
   | exact ih1 _ _ _ _ _ _ _ _ _ _ _ _ _
   | exact ih2 _ _ _ _ _ _ _ _ _ _ _ _ _
   | exact LeO.none _
   | refine LeO.ite ?_ ?_
   | refine LeO.bind ?_ (fun _ => ?_)
theorem gatewardenref15_Holds.mono : ∀ a0 a1 a2 a3 a4 a5 a6 a7 a8 a9 a10 a11 k, LeO (gatewardenref15_Holds.f k a0 a1 a2 a3 a4 a5 a6 a7 a8 a9 a10 a11) (gatewardenref15_Holds.f (k + 1) a0 a1 a2 a3 a4 a5 a6 a7 a8 a9 a10 a11) := by
 intro a0 a1 a2 a3 a4 a5 a6 a7 a8 a9 a10 a11 k
 obtain ⟨ih0, ih1, ih2⟩ := gatewardenref15_Holds.mono_l k
 exact ih0 a0 a1 a2 a3 a4 a5 a6 a7 a8 a9 a10 a11
def gatewardenref15_Holds.T5 : Bool × List (List Nat × List Nat) := (true, [([], []), ([0], [0]), ([1], [1]), ([2], [2]), ([], []), ([3, 4], [3, 4]), ([5], [5]), ([6, 5, 0, 1, 2, 3, 4, 5, 6], [6])])
def gatewardenref15_Holds.B5 : List Nat := [0, 1, 3, 7, 0, 31, 63, 127]
theorem gatewardenref15_Holds.tab5 : rtab .any (opsOf Try.f15 5) = gatewardenref15_Holds.T5 := by kernel_rfl
theorem gatewardenref15_Holds.bits5 : waitsOk gatewardenref15_Holds.T5.2 gatewardenref15_Holds.B5 = true := by kernel_rfl
def gatewardenref15_Holds.T10 : Bool × List (List Nat × List Nat) := (true, [([], []), ([0], [0]), ([], []), ([1, 2], [1, 2]), ([3], [3]), ([], []), ([4, 5], [4, 5]), ([6], [6])])
def gatewardenref15_Holds.B10 : List Nat := [0, 1, 0, 7, 15, 0, 63, 127]
theorem gatewardenref15_Holds.tab10 : rtab .any (opsOf Try.f15 10) = gatewardenref15_Holds.T10 := by kernel_rfl
theorem gatewardenref15_Holds.bits10 : waitsOk gatewardenref15_Holds.T10.2 gatewardenref15_Holds.B10 = true := by kernel_rfl
set_option maxHeartbeats 8000000 in
set_option maxRecDepth 100000 in
theorem gatewardenref15_Holds.calls (k : Nat) : ∀ (a0_0 : Int) (a0_1 : Int) (A0_2 : Option Addr) (c0_2 : Nat) (l0_2 : List (S55)) (a0_3 : Nat) (a0_4 : Nat) (A0_5 : Option Addr) (c0_5 : Nat) (l0_5 : List (S26)) (a1_0 : Int) (a1_1 : Int) (a1_2 : Int) (A1_3 : Option Addr) (c1_3 : Nat) (l1_3 : List (S55)) (A1_4 : Option Addr) (c1_4 : Nat) (l1_4 : List Int) (A1_5 : Option Addr) (c1_5 : Nat) (l1_5 : List Int) (r : Bool) (w : World) (hr0_2 : Kd.C k55 w A0_2 l0_2.length l0_2) (hc0_2 : l0_2.length ≤ c0_2) (hr0_5 : Kd.C k26 w A0_5 l0_5.length l0_5) (hc0_5 : l0_5.length ≤ c0_5) (hr1_3 : Kd.C k55 w A1_3 l1_3.length l1_3) (hc1_3 : l1_3.length ≤ c1_3) (hr1_4 : Kd.C (Kd.int .i64) w A1_4 l1_4.length l1_4) (hc1_4 : l1_4.length ≤ c1_4) (hr1_5 : Kd.C (Kd.int .i64) w A1_5 l1_5.length l1_5) (hc1_5 : l1_5.length ≤ c1_5) (h : gatewardenref15_Holds.f k a0_0 a0_1 l0_2 a0_3 a0_4 l0_5 a1_0 a1_1 a1_2 l1_3 l1_4 l1_5 = some r),
  Calls Try.prog 15 #[.agg #[.int .i64 a0_0, .int .i64 a0_1, .slice A0_2 l0_2.length c0_2, .float .f64 a0_3, .float .f64 a0_4, .slice A0_5 l0_5.length c0_5], .agg #[.int .i64 a1_0, .int .i64 a1_1, .int .i64 a1_2, .slice A1_3 l1_3.length c1_3, .slice A1_4 l1_4.length c1_4, .slice A1_5 l1_5.length c1_5]] w fun e w' => e = .returned (.bool r) ∧ Below w.heap.size w w' := by
 induction k using Nat.strongRecOn with
 | _ k ih =>
 intro a0_0 a0_1 A0_2 c0_2 l0_2 a0_3 a0_4 A0_5 c0_5 l0_5 a1_0 a1_1 a1_2 A1_3 c1_3 l1_3 A1_4 c1_4 l1_4 A1_5 c1_5 l1_5 r w hr0_2 hc0_2 hr0_5 hc0_5 hr1_3 hc1_3 hr1_4 hc1_4 hr1_5 hc1_5 h
 cases k with
 | zero => exact absurd h (by simp [gatewardenref15_Holds.f])
 | succ k =>
 simp only [gatewardenref15_Holds.f] at h
 have hu26 := Try.underlying26
 have hu30 := Try.underlying30
 have HR0_2 := Aside0.mk hr0_2
 have HC0_2 := Aside0.mk hc0_2
 clear hr0_2 hc0_2
 have HR0_5 := Aside0.mk hr0_5
 have HC0_5 := Aside0.mk hc0_5
 clear hr0_5 hc0_5
 have HR1_3 := Aside0.mk hr1_3
 have HC1_3 := Aside0.mk hc1_3
 clear hr1_3 hc1_3
 have HR1_4 := Aside0.mk hr1_4
 have HC1_4 := Aside0.mk hc1_4
 clear hr1_4 hc1_4
 have HR1_5 := Aside0.mk hr1_5
 have HC1_5 := Aside0.mk hc1_5
 clear hr1_5 hc1_5
 have HB := Aside0.mk (Below.refl w.heap.size w)
 have H : (if a0_0 = 1 then ((gatewardenref15_atom.f a0_0 a0_1 l0_2 a0_3 a0_4 l0_5 a1_0 a1_1 a1_2 l1_3 l1_4 l1_5).bind fun t128 => (some t128)) else (if a0_0 = 2 then (if 0 < (l0_5.length : Int) then ((gatewardenref15_Holds.f k ((rd_T26 l0_5 0).f0) ((rd_T26 l0_5 0).f1) ((rd_T26 l0_5 0).f2) ((rd_T26 l0_5 0).f3) ((rd_T26 l0_5 0).f4) ((rd_T26 l0_5 0).f5) a1_0 a1_1 a1_2 l1_3 l1_4 l1_5).bind fun t130 => (some (!t130))) else (none)) else (if a0_0 = 3 then (gatewardenref15_Holds.l0 k 0 a0_0 a0_1 l0_2 a0_3 a0_4 l0_5 a1_0 a1_1 a1_2 l1_3 l1_4 l1_5) else (if a0_0 = 4 then (gatewardenref15_Holds.l1 k 0 a0_0 a0_1 l0_2 a0_3 a0_4 l0_5 a1_0 a1_1 a1_2 l1_3 l1_4 l1_5) else (some true))))) = some r := h
 clear h
 by_cases c3 : a0_0 = 1
 ·rw [if_pos c3] at H
  have c3b0 : (a0_0 == 1) = true := beq_iff_eq.mpr c3
  have c3b1 : (a0_0 != 1) = false := bne_eq_false_iff_eq.mpr c3
  clear c3
  replace H := Option.bind_eq_some_iff.mp H
  obtain ⟨t128, A40, H⟩ := H
  replace H : (some t128) = some r := H
  have A4 := Aside0.mk A40
  clear A40
  obtain rfl := Option.some.inj H
  go_enter Try.func15, Try.ntmps15
  go_wp2_with (first | ((with_reducible refine gate_dst (N := 2) rfl ?_); refine box_event ?hg (N := 2) ?hd (cs := #[.int .i64 a0_0, .int .i64 a0_1, .slice A0_2 l0_2.length c0_2, .float .f64 a0_3, .float .f64 a0_4, .slice A0_5 l0_5.length c0_5]) (t := 26) ?hr ?_; (case hd => rfl); (case hg => rfl); (case hr => first | (go_simp; done) | (go_simp; rfl)); intro gb126 hg w5 hbox hb; have n0_ := Aside0.mk (below_step (by repeat (first | (with_reducible first | exact HB.out | apply below_alloc | apply pw_below_drewN | apply below_drew1) | exact HB.out)) hb); have n1_ := Aside0.mk (hbox); have n2_ := Aside0.mk ((by rw [hg]; exact (below_size (by repeat (first | (with_reducible first | exact HB.out | apply below_alloc | apply pw_below_drewN | apply below_drew1) | exact HB.out))) : w.heap.size ≤ gb126)); have n3_ := Aside0.mk ((by rw [hg]; exact (below_size (by repeat (first | (with_reducible first | exact HB.out | apply below_alloc | apply pw_below_drewN | apply below_drew1) | exact HB.out))) : w.heap.size ≤ gb126)); clear HB; have HB := n0_; have BK126 := n1_; have GW126 := n2_; have GE126 := n3_; clear n0_ n1_ n2_ n3_; clear hb hbox hg) | ((with_reducible refine gate_dst (N := 3) rfl ?_); refine box_event ?hg (N := 3) ?hd (cs := #[.int .i64 a1_0, .int .i64 a1_1, .int .i64 a1_2, .slice A1_3 l1_3.length c1_3, .slice A1_4 l1_4.length c1_4, .slice A1_5 l1_5.length c1_5]) (t := 30) ?hr ?_; (case hd => rfl); (case hg => rfl); (case hr => first | (go_simp; done) | (go_simp; rfl)); intro gb127 hg w6 hbox hb; have n0_ := Aside0.mk (blk_below (g := gb126) (o := .cells #[.int .i64 a0_0, .int .i64 a0_1, .slice A0_2 l0_2.length c0_2, .float .f64 a0_3, .float .f64 a0_4, .slice A0_5 l0_5.length c0_5] 26 (0, 0)) (by (with_reducible repeat (first | refine blk_drewN ?_ _ | refine blk_drew ?_ | refine blk_alloc ?_ _)); exact BK126.out) hb); have n1_ := Aside0.mk (below_step (by repeat (first | (with_reducible first | exact HB.out | apply below_alloc | apply pw_below_drewN | apply below_drew1 | refine below_set ?_ GE126.out) | exact HB.out)) hb); have n2_ := Aside0.mk (hbox); have n3_ := Aside0.mk ((by rw [hg]; exact (below_size (by repeat (first | (with_reducible first | exact HB.out | apply below_alloc | apply pw_below_drewN | apply below_drew1 | refine below_set ?_ GE126.out) | exact HB.out))) : w.heap.size ≤ gb127)); have n4_ := Aside0.mk ((by rw [hg]; exact (below_size (by repeat (first | (with_reducible first | exact HB.out | apply below_alloc | apply pw_below_drewN | apply below_drew1 | refine below_set ?_ GE126.out) | exact HB.out))) : w.heap.size ≤ gb127)); have n5_ := Aside0.mk ((by rw [hg]; exact Nat.ne_of_lt (blk_lt (g := gb126) (o := .cells #[.int .i64 a0_0, .int .i64 a0_1, .slice A0_2 l0_2.length c0_2, .float .f64 a0_3, .float .f64 a0_4, .slice A0_5 l0_5.length c0_5] 26 (0, 0)) (by (with_reducible repeat (first | refine blk_drewN ?_ _ | refine blk_drew ?_ | refine blk_alloc ?_ _)); exact BK126.out)) : gb126 ≠ gb127)); have n6_ := Aside0.mk ((by rw [hg]; exact Nat.ne_of_gt (blk_lt (g := gb126) (o := .cells #[.int .i64 a0_0, .int .i64 a0_1, .slice A0_2 l0_2.length c0_2, .float .f64 a0_3, .float .f64 a0_4, .slice A0_5 l0_5.length c0_5] 26 (0, 0)) (by (with_reducible repeat (first | refine blk_drewN ?_ _ | refine blk_drew ?_ | refine blk_alloc ?_ _)); exact BK126.out)) : gb127 ≠ gb126)); clear BK126; clear HB; have BK126 := n0_; have HB := n1_; have BK127 := n2_; have GW127 := n3_; have GE127 := n4_; have NB126_127 := n5_; have NB127_126 := n6_; clear n0_ n1_ n2_ n3_ n4_ n5_ n6_; clear hb hbox hg; have hnb7 := NB126_127.out; have hnc7 := NB127_126.out; have hcz8_0 : w6.cell? ⟨gb126, 0, none⟩ = some (.int .i64 a0_0) := (blk_cell BK126.out 0).trans rfl; have hcz8_1 : w6.cell? ⟨gb126, 1, none⟩ = some (.int .i64 a0_1) := (blk_cell BK126.out 1).trans rfl; have hcz8_2 : w6.cell? ⟨gb126, 2, none⟩ = some (.slice A0_2 l0_2.length c0_2) := (blk_cell BK126.out 2).trans rfl; have hcz8_3 : w6.cell? ⟨gb126, 3, none⟩ = some (.float .f64 a0_3) := (blk_cell BK126.out 3).trans rfl; have hcz8_4 : w6.cell? ⟨gb126, 4, none⟩ = some (.float .f64 a0_4) := (blk_cell BK126.out 4).trans rfl; have hcz8_5 : w6.cell? ⟨gb126, 5, none⟩ = some (.slice A0_5 l0_5.length c0_5) := (blk_cell BK126.out 5).trans rfl; have hfz8_0 := blk_frozen BK126.out 0; have hfz8_1 := blk_frozen BK126.out 1; have hfz8_2 := blk_frozen BK126.out 2; have hfz8_3 := blk_frozen BK126.out 3; have hfz8_4 := blk_frozen BK126.out 4; have hfz8_5 := blk_frozen BK126.out 5; have hcz9_0 : w6.cell? ⟨gb127, 0, none⟩ = some (.int .i64 a1_0) := (blk_cell BK127.out 0).trans rfl; have hcz9_1 : w6.cell? ⟨gb127, 1, none⟩ = some (.int .i64 a1_1) := (blk_cell BK127.out 1).trans rfl; have hcz9_2 : w6.cell? ⟨gb127, 2, none⟩ = some (.int .i64 a1_2) := (blk_cell BK127.out 2).trans rfl; have hcz9_3 : w6.cell? ⟨gb127, 3, none⟩ = some (.slice A1_3 l1_3.length c1_3) := (blk_cell BK127.out 3).trans rfl; have hcz9_4 : w6.cell? ⟨gb127, 4, none⟩ = some (.slice A1_4 l1_4.length c1_4) := (blk_cell BK127.out 4).trans rfl; have hcz9_5 : w6.cell? ⟨gb127, 5, none⟩ = some (.slice A1_5 l1_5.length c1_5) := (blk_cell BK127.out 5).trans rfl; have hfz9_0 := blk_frozen BK127.out 0; have hfz9_1 := blk_frozen BK127.out 1; have hfz9_2 := blk_frozen BK127.out 2; have hfz9_3 := blk_frozen BK127.out 3; have hfz9_4 := blk_frozen BK127.out 4; have hfz9_5 := blk_frozen BK127.out 5) | ((with_reducible refine gate_callee (f := 35) rfl ?_); refine goesL_ (some 13) rfl rfl Try.func35 (by kernel_rfl) rfl #[.agg #[.int .i64 a0_0, .int .i64 a0_1, .slice A0_2 l0_2.length c0_2, .float .f64 a0_3, .float .f64 a0_4, .slice A0_5 l0_5.length c0_5], .agg #[.int .i64 a1_0, .int .i64 a1_1, .int .i64 a1_2, .slice A1_3 l1_3.length c1_3, .slice A1_4 l1_4.length c1_4, .slice A1_5 l1_5.length c1_5]] rfl (by (try simp only [List.map_toArray, List.map_cons, List.map_nil]); first | done | rfl | (simp only [List.length_drop, List.length_take]; rfl)) ?_; (with_reducible refine (gatewardenref15_atom.calls a0_0 a0_1 _ _ l0_2 a0_3 a0_4 _ _ l0_5 a1_0 a1_1 a1_2 _ _ l1_3 _ _ l1_4 _ _ l1_5 t128 _ ?side1 ?side2 ?side3 ?side4 ?side5 ?side6 ?side7 ?side8 ?side9 ?side10 A4.out).mono ?_); (case side1 => repeat (first | exact (Kd.C_below HR0_2.out HB.out) | (with_reducible refine Kd.C_alloc ?_ _) | (with_reducible refine Kd.C_drewN ?_ _) | (with_reducible refine Kd.C_drew ?_))); (case side2 => exact HC0_2.out); (case side3 => repeat (first | exact (Kd.C_below HR0_5.out HB.out) | (with_reducible refine Kd.C_alloc ?_ _) | (with_reducible refine Kd.C_drewN ?_ _) | (with_reducible refine Kd.C_drew ?_))); (case side4 => exact HC0_5.out); (case side5 => repeat (first | exact (Kd.C_below HR1_3.out HB.out) | (with_reducible refine Kd.C_alloc ?_ _) | (with_reducible refine Kd.C_drewN ?_ _) | (with_reducible refine Kd.C_drew ?_))); (case side6 => exact HC1_3.out); (case side7 => repeat (first | exact (Kd.C_below HR1_4.out HB.out) | (with_reducible refine Kd.C_alloc ?_ _) | (with_reducible refine Kd.C_drewN ?_ _) | (with_reducible refine Kd.C_drew ?_))); (case side8 => exact HC1_4.out); (case side9 => repeat (first | exact (Kd.C_below HR1_5.out HB.out) | (with_reducible refine Kd.C_alloc ?_ _) | (with_reducible refine Kd.C_drewN ?_ _) | (with_reducible refine Kd.C_drew ?_))); (case side10 => exact HC1_5.out); rintro e w10 ⟨rfl, hb⟩; refine ⟨_, rfl, ?_⟩; have n0_ := Aside0.mk (blk_below (g := gb126) (o := .cells #[.int .i64 a0_0, .int .i64 a0_1, .slice A0_2 l0_2.length c0_2, .float .f64 a0_3, .float .f64 a0_4, .slice A0_5 l0_5.length c0_5] 26 (0, 0)) (by (with_reducible repeat (first | refine blk_drewN ?_ _ | refine blk_drew ?_ | refine blk_alloc ?_ _)); exact BK126.out) hb); have n1_ := Aside0.mk (blk_below (g := gb127) (o := .cells #[.int .i64 a1_0, .int .i64 a1_1, .int .i64 a1_2, .slice A1_3 l1_3.length c1_3, .slice A1_4 l1_4.length c1_4, .slice A1_5 l1_5.length c1_5] 30 (0, 0)) (by (with_reducible repeat (first | refine blk_drewN ?_ _ | refine blk_drew ?_ | refine blk_alloc ?_ _)); exact BK127.out) hb); have n2_ := Aside0.mk (below_step (by repeat (first | (with_reducible first | exact HB.out | apply below_alloc | apply pw_below_drewN | apply below_drew1 | refine below_set ?_ GE126.out | refine below_set ?_ GE127.out) | exact HB.out)) hb); clear BK126; clear BK127; clear HB; have BK126 := n0_; have BK127 := n1_; have HB := n2_; clear n0_ n1_ n2_; (try clear hb); (try clear hb2); (try clear hk); (try clear hi)))
  go_ret
  exact ⟨by first | rfl | (simp [errW_none, errW_some] <;> rfl) | (simp [*, errW_none, errW_some] <;> rfl), by repeat (first | (with_reducible first | exact HB.out | apply below_alloc | apply pw_below_drewN | apply below_drew1 | refine below_set ?_ GE126.out | refine below_set ?_ GE127.out) | exact HB.out)⟩
 ·rw [if_neg c3] at H
  have c3b0 : (a0_0 == 1) = false := beq_eq_false_iff_ne.mpr c3
  have c3b1 : (a0_0 != 1) = true := bne_iff_ne.mpr c3
  by_cases c11 : a0_0 = 2
  ·rw [if_pos c11] at H
   have c11b0 : (a0_0 == 2) = true := beq_iff_eq.mpr c11
   have c11b1 : (a0_0 != 2) = false := bne_eq_false_iff_eq.mpr c11
   clear c11
   by_cases c12 : 0 < (l0_5.length : Int)
   ·rw [if_pos c12] at H
    have c12b0 : decide (0 < (l0_5.length : Int)) = true := decide_eq_true c12
    have c12b1 : decide (0 < l0_5.length) = true := decide_eq_true (by omega)
    clear c12
    replace H := Option.bind_eq_some_iff.mp H
    obtain ⟨t130, A130, H⟩ := H
    replace H : (some (!t130)) = some r := H
    have A13 := Aside0.mk A130
    clear A130
    obtain rfl := Option.some.inj H
    go_enter Try.func15, Try.ntmps15
    try go_wp2_with (first | ((with_reducible refine gate_dst (N := 2) rfl ?_); refine box_event ?hg (N := 2) ?hd (cs := #[.int .i64 a0_0, .int .i64 a0_1, .slice A0_2 l0_2.length c0_2, .float .f64 a0_3, .float .f64 a0_4, .slice A0_5 l0_5.length c0_5]) (t := 26) ?hr ?_; (case hd => rfl); (case hg => rfl); (case hr => first | (go_simp; done) | (go_simp; rfl)); intro gb126 hg w14 hbox hb; have n0_ := Aside0.mk (below_step (by repeat (first | (with_reducible first | exact HB.out | apply below_alloc | apply pw_below_drewN | apply below_drew1) | exact HB.out)) hb); have n1_ := Aside0.mk (hbox); have n2_ := Aside0.mk ((by rw [hg]; exact (below_size (by repeat (first | (with_reducible first | exact HB.out | apply below_alloc | apply pw_below_drewN | apply below_drew1) | exact HB.out))) : w.heap.size ≤ gb126)); have n3_ := Aside0.mk ((by rw [hg]; exact (below_size (by repeat (first | (with_reducible first | exact HB.out | apply below_alloc | apply pw_below_drewN | apply below_drew1) | exact HB.out))) : w.heap.size ≤ gb126)); clear HB; have HB := n0_; have BK126 := n1_; have GW126 := n2_; have GE126 := n3_; clear n0_ n1_ n2_ n3_; clear hb hbox hg) | ((with_reducible refine gate_dst (N := 3) rfl ?_); refine box_event ?hg (N := 3) ?hd (cs := #[.int .i64 a1_0, .int .i64 a1_1, .int .i64 a1_2, .slice A1_3 l1_3.length c1_3, .slice A1_4 l1_4.length c1_4, .slice A1_5 l1_5.length c1_5]) (t := 30) ?hr ?_; (case hd => rfl); (case hg => rfl); (case hr => first | (go_simp; done) | (go_simp; rfl)); intro gb127 hg w15 hbox hb; have n0_ := Aside0.mk (blk_below (g := gb126) (o := .cells #[.int .i64 a0_0, .int .i64 a0_1, .slice A0_2 l0_2.length c0_2, .float .f64 a0_3, .float .f64 a0_4, .slice A0_5 l0_5.length c0_5] 26 (0, 0)) (by (with_reducible repeat (first | refine blk_drewN ?_ _ | refine blk_drew ?_ | refine blk_alloc ?_ _)); exact BK126.out) hb); have n1_ := Aside0.mk (below_step (by repeat (first | (with_reducible first | exact HB.out | apply below_alloc | apply pw_below_drewN | apply below_drew1 | refine below_set ?_ GE126.out) | exact HB.out)) hb); have n2_ := Aside0.mk (hbox); have n3_ := Aside0.mk ((by rw [hg]; exact (below_size (by repeat (first | (with_reducible first | exact HB.out | apply below_alloc | apply pw_below_drewN | apply below_drew1 | refine below_set ?_ GE126.out) | exact HB.out))) : w.heap.size ≤ gb127)); have n4_ := Aside0.mk ((by rw [hg]; exact (below_size (by repeat (first | (with_reducible first | exact HB.out | apply below_alloc | apply pw_below_drewN | apply below_drew1 | refine below_set ?_ GE126.out) | exact HB.out))) : w.heap.size ≤ gb127)); have n5_ := Aside0.mk ((by rw [hg]; exact Nat.ne_of_lt (blk_lt (g := gb126) (o := .cells #[.int .i64 a0_0, .int .i64 a0_1, .slice A0_2 l0_2.length c0_2, .float .f64 a0_3, .float .f64 a0_4, .slice A0_5 l0_5.length c0_5] 26 (0, 0)) (by (with_reducible repeat (first | refine blk_drewN ?_ _ | refine blk_drew ?_ | refine blk_alloc ?_ _)); exact BK126.out)) : gb126 ≠ gb127)); have n6_ := Aside0.mk ((by rw [hg]; exact Nat.ne_of_gt (blk_lt (g := gb126) (o := .cells #[.int .i64 a0_0, .int .i64 a0_1, .slice A0_2 l0_2.length c0_2, .float .f64 a0_3, .float .f64 a0_4, .slice A0_5 l0_5.length c0_5] 26 (0, 0)) (by (with_reducible repeat (first | refine blk_drewN ?_ _ | refine blk_drew ?_ | refine blk_alloc ?_ _)); exact BK126.out)) : gb127 ≠ gb126)); clear BK126; clear HB; have BK126 := n0_; have HB := n1_; have BK127 := n2_; have GW127 := n3_; have GE127 := n4_; have NB126_127 := n5_; have NB127_126 := n6_; clear n0_ n1_ n2_ n3_ n4_ n5_ n6_; clear hb hbox hg; have hnb16 := NB126_127.out; have hnc16 := NB127_126.out; have hcz17_0 : w15.cell? ⟨gb126, 0, none⟩ = some (.int .i64 a0_0) := (blk_cell BK126.out 0).trans rfl; have hcz17_1 : w15.cell? ⟨gb126, 1, none⟩ = some (.int .i64 a0_1) := (blk_cell BK126.out 1).trans rfl; have hcz17_2 : w15.cell? ⟨gb126, 2, none⟩ = some (.slice A0_2 l0_2.length c0_2) := (blk_cell BK126.out 2).trans rfl; have hcz17_3 : w15.cell? ⟨gb126, 3, none⟩ = some (.float .f64 a0_3) := (blk_cell BK126.out 3).trans rfl; have hcz17_4 : w15.cell? ⟨gb126, 4, none⟩ = some (.float .f64 a0_4) := (blk_cell BK126.out 4).trans rfl; have hcz17_5 : w15.cell? ⟨gb126, 5, none⟩ = some (.slice A0_5 l0_5.length c0_5) := (blk_cell BK126.out 5).trans rfl; have hfz17_0 := blk_frozen BK126.out 0; have hfz17_1 := blk_frozen BK126.out 1; have hfz17_2 := blk_frozen BK126.out 2; have hfz17_3 := blk_frozen BK126.out 3; have hfz17_4 := blk_frozen BK126.out 4; have hfz17_5 := blk_frozen BK126.out 5))
    (try (rw [drewN_self w15]; generalize hq_ : World.drewN w15 _ = w15; have n0_ := Aside0.mk (blk_at hq_ BK126.out); have n1_ := Aside0.mk (blk_at hq_ BK127.out); have n2_ := Aside0.mk (below_at hq_ HB.out); clear hq_ BK126 BK127 HB; have BK126 := n0_; have BK127 := n1_; have HB := n2_; clear n0_ n1_ n2_))
    have n0_ := Aside0.mk (blk_drew BK126.out)
    have n1_ := Aside0.mk (blk_drew BK127.out)
    have n2_ := Aside0.mk (below_drew1 HB.out)
    clear BK126
    clear BK127
    clear HB
    have BK126 := n0_
    have BK127 := n1_
    have HB := n2_
    clear n0_ n1_ n2_
    have p129 : 0 ≤ (0 : Int) := (by omega)
    have q129 : 0 < (l0_5.length : Int) := of_decide_eq_true (by first | (with_reducible assumption) | assumption)
    obtain ⟨ad129, A129_2, c129_2, A129_5, c129_5, e129, hx129_0, hx129_1, hx129_2, hx129_3, hx129_4, hx129_5, hl129_2, hi129_2, hl129_5, hi129_5⟩ := at_T26 HR0_5.out 0 p129 q129
    have hw129_5 := hx129_5
    (try rw [show ((0 : Int)).toNat = 0 from rfl] at hw129_5)
    (try rw [show 0 * 6 = 0 from rfl] at hw129_5)
    (try rw [Addr.add_zero'] at hw129_5)
    have hw129_4 := hx129_4
    (try rw [show ((0 : Int)).toNat = 0 from rfl] at hw129_4)
    (try rw [show 0 * 6 = 0 from rfl] at hw129_4)
    (try rw [Addr.add_zero'] at hw129_4)
    have hw129_3 := hx129_3
    (try rw [show ((0 : Int)).toNat = 0 from rfl] at hw129_3)
    (try rw [show 0 * 6 = 0 from rfl] at hw129_3)
    (try rw [Addr.add_zero'] at hw129_3)
    have hw129_2 := hx129_2
    (try rw [show ((0 : Int)).toNat = 0 from rfl] at hw129_2)
    (try rw [show 0 * 6 = 0 from rfl] at hw129_2)
    (try rw [Addr.add_zero'] at hw129_2)
    have hw129_1 := hx129_1
    (try rw [show ((0 : Int)).toNat = 0 from rfl] at hw129_1)
    (try rw [show 0 * 6 = 0 from rfl] at hw129_1)
    (try rw [Addr.add_zero'] at hw129_1)
    have hw129_0 := hx129_0
    (try rw [show ((0 : Int)).toNat = 0 from rfl] at hw129_0)
    (try rw [show 0 * 6 = 0 from rfl] at hw129_0)
    (try rw [Addr.add_zero'] at hw129_0)
    cases e129
    have qi129 : (0 < l0_5.length) = True := eq_true (by omega)
    (try rw [show ((0 : Int)).toNat = 0 from rfl] at hx129_0)
    (try rw [show 0 * 6 = 0 from rfl] at hx129_0)
    (try rw [Addr.add_zero'] at hx129_0)
    (try rw [show ((0 : Int)).toNat = 0 from rfl] at hx129_1)
    (try rw [show 0 * 6 = 0 from rfl] at hx129_1)
    (try rw [Addr.add_zero'] at hx129_1)
    (try rw [show ((0 : Int)).toNat = 0 from rfl] at hx129_2)
    (try rw [show 0 * 6 = 0 from rfl] at hx129_2)
    (try rw [Addr.add_zero'] at hx129_2)
    (try rw [show ((0 : Int)).toNat = 0 from rfl] at hx129_3)
    (try rw [show 0 * 6 = 0 from rfl] at hx129_3)
    (try rw [Addr.add_zero'] at hx129_3)
    (try rw [show ((0 : Int)).toNat = 0 from rfl] at hx129_4)
    (try rw [show 0 * 6 = 0 from rfl] at hx129_4)
    (try rw [Addr.add_zero'] at hx129_4)
    (try rw [show ((0 : Int)).toNat = 0 from rfl] at hx129_5)
    (try rw [show 0 * 6 = 0 from rfl] at hx129_5)
    (try rw [Addr.add_zero'] at hx129_5)
    replace hx129_0 := (HB.out.cell (World.block_lt_of_cell? w _ hx129_0)).trans hx129_0
    replace hx129_1 := (HB.out.cell (World.block_lt_of_cell? w _ hx129_1)).trans hx129_1
    replace hx129_2 := (HB.out.cell (World.block_lt_of_cell? w _ hx129_2)).trans hx129_2
    replace hx129_3 := (HB.out.cell (World.block_lt_of_cell? w _ hx129_3)).trans hx129_3
    replace hx129_4 := (HB.out.cell (World.block_lt_of_cell? w _ hx129_4)).trans hx129_4
    replace hx129_5 := (HB.out.cell (World.block_lt_of_cell? w _ hx129_5)).trans hx129_5
    have HR129_2 := Aside0.mk hi129_2
    have HC129_2 := Aside0.mk hl129_2
    clear hi129_2 hl129_2
    have HR129_5 := Aside0.mk hi129_5
    have HC129_5 := Aside0.mk hl129_5
    clear hi129_5 hl129_5
    replace p129 := eq_true p129
    replace q129 := eq_true q129
    refine start_ (n := 8) (S := fun w' => w'.cell? ⟨gb126, 0, none⟩ = some (.int .i64 a0_0) ∧ w'.cell? ⟨gb126, 1, none⟩ = some (.int .i64 a0_1) ∧ w'.cell? ⟨gb126, 2, none⟩ = some (.slice A0_2 l0_2.length c0_2) ∧ w'.cell? ⟨gb126, 3, none⟩ = some (.float .f64 a0_3) ∧ w'.cell? ⟨gb126, 4, none⟩ = some (.float .f64 a0_4) ∧ w'.cell? ⟨gb126, 5, none⟩ = some (.slice (some ad129) l0_5.length c0_5) ∧ w'.cell? ⟨gb127, 0, none⟩ = some (.int .i64 a1_0) ∧ w'.cell? ⟨gb127, 1, none⟩ = some (.int .i64 a1_1) ∧ w'.cell? ⟨gb127, 2, none⟩ = some (.int .i64 a1_2) ∧ w'.cell? ⟨gb127, 3, none⟩ = some (.slice A1_3 l1_3.length c1_3) ∧ w'.cell? ⟨gb127, 4, none⟩ = some (.slice A1_4 l1_4.length c1_4) ∧ w'.cell? ⟨gb127, 5, none⟩ = some (.slice A1_5 l1_5.length c1_5) ∧ w'.cell? ad129 = some (.int .i64 ((rd_T26 l0_5 0).f0)) ∧ w'.cell? ⟨ad129.block, ad129.off + 1, none⟩ = some (.int .i64 ((rd_T26 l0_5 0).f1)) ∧ w'.cell? ⟨ad129.block, ad129.off + 2, none⟩ = some (.slice A129_2 ((rd_T26 l0_5 0).f2).length c129_2) ∧ w'.cell? ⟨ad129.block, ad129.off + 3, none⟩ = some (.float .f64 ((rd_T26 l0_5 0).f3)) ∧ w'.cell? ⟨ad129.block, ad129.off + 4, none⟩ = some (.float .f64 ((rd_T26 l0_5 0).f4)) ∧ w'.cell? ⟨ad129.block, ad129.off + 5, none⟩ = some (.slice A129_5 ((rd_T26 l0_5 0).f5).length c129_5)) (ds := []) #[false, false, false, false, false, false, false, false] (by kernel_rfl) rfl rfl ⟨(blk_cell BK126.out 0).trans rfl, (blk_cell BK126.out 1).trans rfl, (blk_cell BK126.out 2).trans rfl, (blk_cell BK126.out 3).trans rfl, (blk_cell BK126.out 4).trans rfl, (blk_cell BK126.out 5).trans rfl, (blk_cell BK127.out 0).trans rfl, (blk_cell BK127.out 1).trans rfl, (blk_cell BK127.out 2).trans rfl, (blk_cell BK127.out 3).trans rfl, (blk_cell BK127.out 4).trans rfl, (blk_cell BK127.out 5).trans rfl, ((HB.out.cell (World.block_lt_of_cell? w _ hw129_0)).trans hw129_0), ((HB.out.cell (World.block_lt_of_cell? w _ hw129_1)).trans hw129_1), ((HB.out.cell (World.block_lt_of_cell? w _ hw129_2)).trans hw129_2), ((HB.out.cell (World.block_lt_of_cell? w _ hw129_3)).trans hw129_3), ((HB.out.cell (World.block_lt_of_cell? w _ hw129_4)).trans hw129_4), ((HB.out.cell (World.block_lt_of_cell? w _ hw129_5)).trans hw129_5)⟩ (fun hHeld => ?_); refine with_tabW gatewardenref15_Holds.tab5 gatewardenref15_Holds.bits5 (fun HT_ HW_ => ?_)
    generalize w15.drew = w18 at BK126 BK127 HB HR129_2 HR129_5 hx129_0 hx129_1 hx129_2 hx129_3 hx129_4 hx129_5 hHeld ⊢
    refine pure_ (i := 0) (N := some 16) (v := ?_) (a' := ?_) #[true, false, false, false, false, false, false, false] rfl rfl (any_of HT_.out (by kernel_rfl)) (fun _ _ _ h => h) (Or.inl ⟨by rfl, ?_⟩) ?_ ?_
    rotate_left
    ·intro w'
     go_simp
     with_reducible rfl
    rotate_left
    ·simp only [Act.put, List.setIfInBounds_toArray, List.set_cons_zero, List.set_cons_succ, i64_w, i32_w]
     rfl
    refine take_ (i := 1) (N := some 17) (v := ?_) (a' := ?_) #[true, true, false, false, false, false, false, false] rfl rfl (take_ofW HT_.out HW_.out (by kernel_rfl)) (fun _ _ _ h => h) (Or.inl ⟨by rfl, ?_⟩) hHeld ?_ ?_
    rotate_left
    ·rintro w' ⟨s0, s1, s2, s3, s4, s5, s6, s7, s8, s9, s10, s11, s12, s13, s14, s15, s16, s17⟩
     go_simp
     with_reducible rfl
    rotate_left
    ·simp only [Act.put, List.setIfInBounds_toArray, List.set_cons_zero, List.set_cons_succ, i64_w, i32_w]
     rfl
    refine pure_ (i := 2) (N := some 18) (v := ?_) (a' := ?_) #[true, true, true, false, false, false, false, false] rfl rfl (any_of HT_.out (by kernel_rfl)) (fun _ _ _ h => h) (Or.inl ⟨by rfl, ?_⟩) ?_ ?_
    rotate_left
    ·intro w'
     go_simp
     with_reducible rfl
    rotate_left
    ·simp only [Act.put, List.setIfInBounds_toArray, List.set_cons_zero, List.set_cons_succ, i64_w, i32_w]
     rfl
    refine take_ (i := 3) (N := some 19) (v := ?_) (a' := ?_) #[true, true, true, true, false, false, false, false] rfl rfl (take_ofW HT_.out HW_.out (by kernel_rfl)) (fun _ _ _ h => h) (Or.inl ⟨by rfl, ?_⟩) hHeld ?_ ?_
    rotate_left
    ·rintro w' ⟨s0, s1, s2, s3, s4, s5, s6, s7, s8, s9, s10, s11, s12, s13, s14, s15, s16, s17⟩
     go_simp
     with_reducible rfl
    rotate_left
    ·simp only [Act.put, List.setIfInBounds_toArray, List.set_cons_zero, List.set_cons_succ, i64_w, i32_w]
     rfl
    refine take_ (i := 4) (N := some 20) (v := ?_) (a' := ?_) #[true, true, true, true, true, false, false, false] rfl rfl (take_ofW HT_.out HW_.out (by kernel_rfl)) (fun _ _ _ h => h) (Or.inl ⟨by rfl, ?_⟩) hHeld ?_ ?_
    rotate_left
    ·rintro w' ⟨s0, s1, s2, s3, s4, s5, s6, s7, s8, s9, s10, s11, s12, s13, s14, s15, s16, s17⟩
     go_simp
     with_reducible rfl
    rotate_left
    ·simp only [Act.put, List.setIfInBounds_toArray, List.set_cons_zero, List.set_cons_succ, i64_w, i32_w]
     rfl
    refine one_ (i := 5) (N := some 21) #[true, true, true, true, true, true, false, false] rfl rfl (one_of HT_.out (by kernel_rfl)) (by decide) (fun K hK => ?_)
    refine goes_ Try.func15 (by kernel_rfl) rfl #[.agg #[.int .i64 ((rd_T26 l0_5 0).f0), .int .i64 ((rd_T26 l0_5 0).f1), .slice A129_2 ((rd_T26 l0_5 0).f2).length c129_2, .float .f64 ((rd_T26 l0_5 0).f3), .float .f64 ((rd_T26 l0_5 0).f4), .slice A129_5 ((rd_T26 l0_5 0).f5).length c129_5], .agg #[.int .i64 a1_0, .int .i64 a1_1, .int .i64 a1_2, .slice A1_3 l1_3.length c1_3, .slice A1_4 l1_4.length c1_4, .slice A1_5 l1_5.length c1_5]] (by rfl) rfl rfl (by (try simp only [List.map_toArray, List.map_cons, List.map_nil]); first | done | rfl | (simp only [List.length_drop, List.length_take]; rfl)) ?_
    with_reducible refine (ih k (by omega) ((rd_T26 l0_5 0).f0) ((rd_T26 l0_5 0).f1) _ _ ((rd_T26 l0_5 0).f2) ((rd_T26 l0_5 0).f3) ((rd_T26 l0_5 0).f4) _ _ ((rd_T26 l0_5 0).f5) a1_0 a1_1 a1_2 _ _ l1_3 _ _ l1_4 _ _ l1_5 t130 _ ?side1 ?side2 ?side3 ?side4 ?side5 ?side6 ?side7 ?side8 ?side9 ?side10 A13.out).mono ?_
    (case side1 => repeat (first | exact (Kd.C_below HR129_2.out HB.out) | (with_reducible refine Kd.C_alloc ?_ _) | (with_reducible refine Kd.C_drewN ?_ _) | (with_reducible refine Kd.C_drew ?_)))
    (case side2 => exact HC129_2.out)
    (case side3 => repeat (first | exact (Kd.C_below HR129_5.out HB.out) | (with_reducible refine Kd.C_alloc ?_ _) | (with_reducible refine Kd.C_drewN ?_ _) | (with_reducible refine Kd.C_drew ?_)))
    (case side4 => exact HC129_5.out)
    (case side5 => repeat (first | exact (Kd.C_below HR1_3.out HB.out) | (with_reducible refine Kd.C_alloc ?_ _) | (with_reducible refine Kd.C_drewN ?_ _) | (with_reducible refine Kd.C_drew ?_)))
    (case side6 => exact HC1_3.out)
    (case side7 => repeat (first | exact (Kd.C_below HR1_4.out HB.out) | (with_reducible refine Kd.C_alloc ?_ _) | (with_reducible refine Kd.C_drewN ?_ _) | (with_reducible refine Kd.C_drew ?_)))
    (case side8 => exact HC1_4.out)
    (case side9 => repeat (first | exact (Kd.C_below HR1_5.out HB.out) | (with_reducible refine Kd.C_alloc ?_ _) | (with_reducible refine Kd.C_drewN ?_ _) | (with_reducible refine Kd.C_drew ?_)))
    (case side10 => exact HC1_5.out)
    rintro e w19 ⟨rfl, hb⟩
    refine ⟨_, rfl, ?_⟩
    have n0_ := Aside0.mk (blk_below (g := gb126) (o := .cells #[.int .i64 a0_0, .int .i64 a0_1, .slice A0_2 l0_2.length c0_2, .float .f64 a0_3, .float .f64 a0_4, .slice (some ad129) l0_5.length c0_5] 26 (0, 0)) (by (with_reducible repeat (first | refine blk_drewN ?_ _ | refine blk_drew ?_ | refine blk_alloc ?_ _)); exact BK126.out) hb)
    have n1_ := Aside0.mk (blk_below (g := gb127) (o := .cells #[.int .i64 a1_0, .int .i64 a1_1, .int .i64 a1_2, .slice A1_3 l1_3.length c1_3, .slice A1_4 l1_4.length c1_4, .slice A1_5 l1_5.length c1_5] 30 (0, 0)) (by (with_reducible repeat (first | refine blk_drewN ?_ _ | refine blk_drew ?_ | refine blk_alloc ?_ _)); exact BK127.out) hb)
    have n2_ := Aside0.mk (below_step (by repeat (first | (with_reducible first | exact HB.out | apply below_alloc | apply pw_below_drewN | apply below_drew1 | refine below_set ?_ GE126.out | refine below_set ?_ GE127.out) | exact HB.out)) hb)
    clear BK126
    clear BK127
    clear HB
    have BK126 := n0_
    have BK127 := n1_
    have HB := n2_
    clear n0_ n1_ n2_
    (try clear hb)
    (try clear hb2)
    (try clear hk)
    (try clear hi)
    refine hK.out _ _ ⟨(blk_cell BK126.out 0).trans rfl, (blk_cell BK126.out 1).trans rfl, (blk_cell BK126.out 2).trans rfl, (blk_cell BK126.out 3).trans rfl, (blk_cell BK126.out 4).trans rfl, (blk_cell BK126.out 5).trans rfl, (blk_cell BK127.out 0).trans rfl, (blk_cell BK127.out 1).trans rfl, (blk_cell BK127.out 2).trans rfl, (blk_cell BK127.out 3).trans rfl, (blk_cell BK127.out 4).trans rfl, (blk_cell BK127.out 5).trans rfl, ((HB.out.cell (World.block_lt_of_cell? w _ hw129_0)).trans hw129_0), ((HB.out.cell (World.block_lt_of_cell? w _ hw129_1)).trans hw129_1), ((HB.out.cell (World.block_lt_of_cell? w _ hw129_2)).trans hw129_2), ((HB.out.cell (World.block_lt_of_cell? w _ hw129_3)).trans hw129_3), ((HB.out.cell (World.block_lt_of_cell? w _ hw129_4)).trans hw129_4), ((HB.out.cell (World.block_lt_of_cell? w _ hw129_5)).trans hw129_5)⟩ (fun hHeld => ?_)
    clear hK K
    refine norm_ (a' := ?_) ?_ ?_
    rotate_left
    ·show Act.put _ (some 21) _ = _
     simp only [Act.put, List.setIfInBounds_toArray, List.set_cons_zero, List.set_cons_succ, i64_w, i32_w]
     rfl
    refine pure_ (i := 6) (N := some 22) (v := ?_) (a' := ?_) #[true, true, true, true, true, true, true, false] rfl rfl (any_of HT_.out (by kernel_rfl)) (fun _ _ _ h => h) (Or.inl ⟨by rfl, ?_⟩) ?_ ?_
    rotate_left
    ·intro w'
     go_simp
     with_reducible rfl
    rotate_left
    ·simp only [Act.put, List.setIfInBounds_toArray, List.set_cons_zero, List.set_cons_succ, i64_w, i32_w]
     rfl
    refine pure_ (i := 7) (N := some 4) (v := ?_) (a' := ?_) #[true, true, true, true, true, true, true, true] rfl rfl (any_of HT_.out (by kernel_rfl)) (fun _ _ _ h => h) (Or.inl ⟨by rfl, ?_⟩) ?_ ?_
    rotate_left
    ·intro w'
     go_simp
     with_reducible rfl
    rotate_left
    ·simp only [Act.put, List.setIfInBounds_toArray, List.set_cons_zero, List.set_cons_succ, i64_w, i32_w]
     rfl
    refine done_ (done_of HT_.out (by kernel_rfl)) ?_
    try go_wp2
    go_ret
    exact ⟨by first | rfl | (simp [errW_none, errW_some] <;> rfl) | (simp [*, errW_none, errW_some] <;> rfl), by repeat (first | (with_reducible first | exact HB.out | apply below_alloc | apply pw_below_drewN | apply below_drew1 | refine below_set ?_ GE126.out | refine below_set ?_ GE127.out) | exact HB.out)⟩
   ·rw [if_neg c12] at H
    exact absurd H (by simp)
  ·rw [if_neg c11] at H
   have c11b0 : (a0_0 == 2) = false := beq_eq_false_iff_ne.mpr c11
   have c11b1 : (a0_0 != 2) = true := bne_iff_ne.mpr c11
   by_cases c20 : a0_0 = 3
   ·rw [if_pos c20] at H
    have c20b0 : (a0_0 == 3) = true := beq_iff_eq.mpr c20
    have c20b1 : (a0_0 != 3) = false := bne_eq_false_iff_eq.mpr c20
    clear c20
    have H' := Aside0.mk H
    clear H
    go_enter Try.func15, Try.ntmps15
    go_wp2_with (first | ((with_reducible refine gate_dst (N := 2) rfl ?_); refine box_event ?hg (N := 2) ?hd (cs := #[.int .i64 a0_0, .int .i64 a0_1, .slice A0_2 l0_2.length c0_2, .float .f64 a0_3, .float .f64 a0_4, .slice A0_5 l0_5.length c0_5]) (t := 26) ?hr ?_; (case hd => rfl); (case hg => rfl); (case hr => first | (go_simp; done) | (go_simp; rfl)); intro gb126 hg w21 hbox hb; have n0_ := Aside0.mk (below_step (by repeat (first | (with_reducible first | exact HB.out | apply below_alloc | apply pw_below_drewN | apply below_drew1) | exact HB.out)) hb); have n1_ := Aside0.mk (hbox); have n2_ := Aside0.mk ((by rw [hg]; exact (below_size (by repeat (first | (with_reducible first | exact HB.out | apply below_alloc | apply pw_below_drewN | apply below_drew1) | exact HB.out))) : w.heap.size ≤ gb126)); have n3_ := Aside0.mk ((by rw [hg]; exact (below_size (by repeat (first | (with_reducible first | exact HB.out | apply below_alloc | apply pw_below_drewN | apply below_drew1) | exact HB.out))) : w.heap.size ≤ gb126)); clear HB; have HB := n0_; have BK126 := n1_; have GW126 := n2_; have GE126 := n3_; clear n0_ n1_ n2_ n3_; clear hb hbox hg) | ((with_reducible refine gate_dst (N := 3) rfl ?_); refine box_event ?hg (N := 3) ?hd (cs := #[.int .i64 a1_0, .int .i64 a1_1, .int .i64 a1_2, .slice A1_3 l1_3.length c1_3, .slice A1_4 l1_4.length c1_4, .slice A1_5 l1_5.length c1_5]) (t := 30) ?hr ?_; (case hd => rfl); (case hg => rfl); (case hr => first | (go_simp; done) | (go_simp; rfl)); intro gb127 hg w22 hbox hb; have n0_ := Aside0.mk (blk_below (g := gb126) (o := .cells #[.int .i64 a0_0, .int .i64 a0_1, .slice A0_2 l0_2.length c0_2, .float .f64 a0_3, .float .f64 a0_4, .slice A0_5 l0_5.length c0_5] 26 (0, 0)) (by (with_reducible repeat (first | refine blk_drewN ?_ _ | refine blk_drew ?_ | refine blk_alloc ?_ _)); exact BK126.out) hb); have n1_ := Aside0.mk (below_step (by repeat (first | (with_reducible first | exact HB.out | apply below_alloc | apply pw_below_drewN | apply below_drew1 | refine below_set ?_ GE126.out) | exact HB.out)) hb); have n2_ := Aside0.mk (hbox); have n3_ := Aside0.mk ((by rw [hg]; exact (below_size (by repeat (first | (with_reducible first | exact HB.out | apply below_alloc | apply pw_below_drewN | apply below_drew1 | refine below_set ?_ GE126.out) | exact HB.out))) : w.heap.size ≤ gb127)); have n4_ := Aside0.mk ((by rw [hg]; exact (below_size (by repeat (first | (with_reducible first | exact HB.out | apply below_alloc | apply pw_below_drewN | apply below_drew1 | refine below_set ?_ GE126.out) | exact HB.out))) : w.heap.size ≤ gb127)); have n5_ := Aside0.mk ((by rw [hg]; exact Nat.ne_of_lt (blk_lt (g := gb126) (o := .cells #[.int .i64 a0_0, .int .i64 a0_1, .slice A0_2 l0_2.length c0_2, .float .f64 a0_3, .float .f64 a0_4, .slice A0_5 l0_5.length c0_5] 26 (0, 0)) (by (with_reducible repeat (first | refine blk_drewN ?_ _ | refine blk_drew ?_ | refine blk_alloc ?_ _)); exact BK126.out)) : gb126 ≠ gb127)); have n6_ := Aside0.mk ((by rw [hg]; exact Nat.ne_of_gt (blk_lt (g := gb126) (o := .cells #[.int .i64 a0_0, .int .i64 a0_1, .slice A0_2 l0_2.length c0_2, .float .f64 a0_3, .float .f64 a0_4, .slice A0_5 l0_5.length c0_5] 26 (0, 0)) (by (with_reducible repeat (first | refine blk_drewN ?_ _ | refine blk_drew ?_ | refine blk_alloc ?_ _)); exact BK126.out)) : gb127 ≠ gb126)); clear BK126; clear HB; have BK126 := n0_; have HB := n1_; have BK127 := n2_; have GW127 := n3_; have GE127 := n4_; have NB126_127 := n5_; have NB127_126 := n6_; clear n0_ n1_ n2_ n3_ n4_ n5_ n6_; clear hb hbox hg; have hnb23 := NB126_127.out; have hnc23 := NB127_126.out; have hcz24_0 : w22.cell? ⟨gb126, 0, none⟩ = some (.int .i64 a0_0) := (blk_cell BK126.out 0).trans rfl; have hcz24_1 : w22.cell? ⟨gb126, 1, none⟩ = some (.int .i64 a0_1) := (blk_cell BK126.out 1).trans rfl; have hcz24_2 : w22.cell? ⟨gb126, 2, none⟩ = some (.slice A0_2 l0_2.length c0_2) := (blk_cell BK126.out 2).trans rfl; have hcz24_3 : w22.cell? ⟨gb126, 3, none⟩ = some (.float .f64 a0_3) := (blk_cell BK126.out 3).trans rfl; have hcz24_4 : w22.cell? ⟨gb126, 4, none⟩ = some (.float .f64 a0_4) := (blk_cell BK126.out 4).trans rfl; have hcz24_5 : w22.cell? ⟨gb126, 5, none⟩ = some (.slice A0_5 l0_5.length c0_5) := (blk_cell BK126.out 5).trans rfl; have hfz24_0 := blk_frozen BK126.out 0; have hfz24_1 := blk_frozen BK126.out 1; have hfz24_2 := blk_frozen BK126.out 2; have hfz24_3 := blk_frozen BK126.out 3; have hfz24_4 := blk_frozen BK126.out 4; have hfz24_5 := blk_frozen BK126.out 5))
    go_loopg [5] k (fun kq v5 w' => ∃ (x5_1 : Int), v5 = .int .i64 x5_1 ∧ Aside0 (gatewardenref15_Holds.l0 kq x5_1 a0_0 a0_1 l0_2 a0_3 a0_4 l0_5 a1_0 a1_1 a1_2 l1_3 l1_4 l1_5 = some r) ∧ Aside0 (kq ≤ k) ∧ Aside0 (w'.heap[gb126]? = some (.cells #[.int .i64 a0_0, .int .i64 a0_1, (.slice A0_2 l0_2.length c0_2), .float .f64 a0_3, .float .f64 a0_4, (.slice A0_5 l0_5.length c0_5)] 26 (0, 0))) ∧ Aside0 (w'.heap[gb127]? = some (.cells #[.int .i64 a1_0, .int .i64 a1_1, .int .i64 a1_2, (.slice A1_3 l1_3.length c1_3), (.slice A1_4 l1_4.length c1_4), (.slice A1_5 l1_5.length c1_5)] 30 (0, 0))) ∧ Aside0 (Below w.heap.size w w'))
    case atStart => exact ⟨(0), (by first | rfl | (simp; done) | (simp [*]; done)), H', ⟨Nat.le_refl _⟩, ⟨by (with_reducible repeat (first | refine blk_drewN ?_ _ | refine blk_drew ?_ | refine blk_alloc ?_ _)); exact BK126.out⟩, ⟨by (with_reducible repeat (first | refine blk_drewN ?_ _ | refine blk_drew ?_ | refine blk_alloc ?_ _)); exact BK127.out⟩, ⟨by repeat (first | (with_reducible first | exact HB.out | apply below_alloc | apply pw_below_drewN | apply below_drew1 | refine below_set ?_ GE126.out | refine below_set ?_ GE127.out) | exact HB.out)⟩⟩
    case round =>
     clear H'
     try clear c1
     try clear p1
     try clear q1
     try clear hx1
     try clear qi1
     try clear c2
     try clear p2
     try clear c3
     try clear c3b0
     try clear c3b1
     try clear c7
     try clear c11
     try clear c11b0
     try clear c11b1
     try clear c12
     try clear c12b0
     try clear c12b1
     try clear p12
     try clear q12
     try clear hx12
     try clear qi12
     try clear c15
     try clear c16
     try clear c20
     try clear c20b0
     try clear c20b1
     try clear c23
     try clear hcz17_0
     try clear hcz17_1
     try clear hcz17_2
     try clear hcz17_3
     try clear hcz17_4
     try clear hcz17_5
     try clear hcz24_0
     try clear hcz24_1
     try clear hcz24_2
     try clear hcz24_3
     try clear hcz24_4
     try clear hcz24_5
     try clear hcz8_0
     try clear hcz8_1
     try clear hcz8_2
     try clear hcz8_3
     try clear hcz8_4
     try clear hcz8_5
     try clear hcz9_0
     try clear hcz9_1
     try clear hcz9_2
     try clear hcz9_3
     try clear hcz9_4
     try clear hcz9_5
     try clear hfz17_0
     try clear hfz17_1
     try clear hfz17_2
     try clear hfz17_3
     try clear hfz17_4
     try clear hfz17_5
     try clear hfz24_0
     try clear hfz24_1
     try clear hfz24_2
     try clear hfz24_3
     try clear hfz24_4
     try clear hfz24_5
     try clear hfz8_0
     try clear hfz8_1
     try clear hfz8_2
     try clear hfz8_3
     try clear hfz8_4
     try clear hfz8_5
     try clear hfz9_0
     try clear hfz9_1
     try clear hfz9_2
     try clear hfz9_3
     try clear hfz9_4
     try clear hfz9_5
     try clear hx129_0
     try clear hx129_1
     try clear hx129_2
     try clear hx129_3
     try clear hx129_4
     try clear hx129_5
     try clear p129
     try clear q129
     obtain ⟨x5_1, rfl, HA, HK1, BK126, BK127, HB⟩ := hrel
     cases gk with
     | zero => exact absurd HA.out (by simp [gatewardenref15_Holds.l0])
     | succ k1 =>
      have H := HA.out
      clear HA
      simp only [gatewardenref15_Holds.l0] at H
      by_cases c25 : x5_1 < (l0_5.length : Int)
      ·rw [if_pos c25] at H
       have c25b0 : decide (x5_1 < (l0_5.length : Int)) = true := decide_eq_true c25
       clear c25
       by_cases c26 : 0 ≤ x5_1
       ·rw [if_pos c26] at H
        have c26b0 : decide (0 ≤ x5_1) = true := decide_eq_true c26
        clear c26
        replace H := Option.bind_eq_some_iff.mp H
        obtain ⟨t132, A270, H⟩ := H
        replace H : (if t132 = true then (gatewardenref15_Holds.l0 k1 (wrap64 (x5_1 + 1)) a0_0 a0_1 l0_2 a0_3 a0_4 l0_5 a1_0 a1_1 a1_2 l1_3 l1_4 l1_5) else (some false)) = some r := H
        have A27 := Aside0.mk A270
        clear A270
        by_cases c28 : t132 = true
        ·subst c28
         have H1 : (gatewardenref15_Holds.l0 k1 (wrap64 (x5_1 + 1)) a0_0 a0_1 l0_2 a0_3 a0_4 l0_5 a1_0 a1_1 a1_2 l1_3 l1_4 l1_5) = some r := by rw [if_pos rfl] at H; exact H
         clear H
         have H := H1
         clear H1
         have H' := Aside0.mk H
         clear H
         have hnb29 := NB126_127.out
         have hnc29 := NB127_126.out
         have hcz30_0 : wr.cell? ⟨gb126, 0, none⟩ = some (.int .i64 a0_0) := (blk_cell BK126.out 0).trans rfl
         have hcz30_1 : wr.cell? ⟨gb126, 1, none⟩ = some (.int .i64 a0_1) := (blk_cell BK126.out 1).trans rfl
         have hcz30_2 : wr.cell? ⟨gb126, 2, none⟩ = some (.slice A0_2 l0_2.length c0_2) := (blk_cell BK126.out 2).trans rfl
         have hcz30_3 : wr.cell? ⟨gb126, 3, none⟩ = some (.float .f64 a0_3) := (blk_cell BK126.out 3).trans rfl
         have hcz30_4 : wr.cell? ⟨gb126, 4, none⟩ = some (.float .f64 a0_4) := (blk_cell BK126.out 4).trans rfl
         have hcz30_5 : wr.cell? ⟨gb126, 5, none⟩ = some (.slice A0_5 l0_5.length c0_5) := (blk_cell BK126.out 5).trans rfl
         have hfz30_0 := blk_frozen BK126.out 0
         have hfz30_1 := blk_frozen BK126.out 1
         have hfz30_2 := blk_frozen BK126.out 2
         have hfz30_3 := blk_frozen BK126.out 3
         have hfz30_4 := blk_frozen BK126.out 4
         have hfz30_5 := blk_frozen BK126.out 5
         try go_wp2
         (try (rw [drewN_self wr]; generalize hq_ : World.drewN wr _ = wr; have n0_ := Aside0.mk (blk_at hq_ BK126.out); have n1_ := Aside0.mk (blk_at hq_ BK127.out); have n2_ := Aside0.mk (below_at hq_ HB.out); clear hq_ BK126 BK127 HB; have BK126 := n0_; have BK127 := n1_; have HB := n2_; clear n0_ n1_ n2_))
         have n0_ := Aside0.mk (blk_drew BK126.out)
         have n1_ := Aside0.mk (blk_drew BK127.out)
         have n2_ := Aside0.mk (below_drew1 HB.out)
         clear BK126
         clear BK127
         clear HB
         have BK126 := n0_
         have BK127 := n1_
         have HB := n2_
         clear n0_ n1_ n2_
         have p131 : 0 ≤ (x5_1 : Int) := of_decide_eq_true (by first | (with_reducible assumption) | assumption)
         have q131 : x5_1 < (l0_5.length : Int) := of_decide_eq_true (by first | (with_reducible assumption) | assumption)
         obtain ⟨ad131, A131_2, c131_2, A131_5, c131_5, e131, hx131_0, hx131_1, hx131_2, hx131_3, hx131_4, hx131_5, hl131_2, hi131_2, hl131_5, hi131_5⟩ := at_T26 HR0_5.out x5_1 p131 q131
         have hw131_5 := hx131_5
         have hw131_4 := hx131_4
         have hw131_3 := hx131_3
         have hw131_2 := hx131_2
         have hw131_1 := hx131_1
         have hw131_0 := hx131_0
         cases e131
         replace hx131_0 := (HB.out.cell (World.block_lt_of_cell? w _ hx131_0)).trans hx131_0
         replace hx131_1 := (HB.out.cell (World.block_lt_of_cell? w _ hx131_1)).trans hx131_1
         replace hx131_2 := (HB.out.cell (World.block_lt_of_cell? w _ hx131_2)).trans hx131_2
         replace hx131_3 := (HB.out.cell (World.block_lt_of_cell? w _ hx131_3)).trans hx131_3
         replace hx131_4 := (HB.out.cell (World.block_lt_of_cell? w _ hx131_4)).trans hx131_4
         replace hx131_5 := (HB.out.cell (World.block_lt_of_cell? w _ hx131_5)).trans hx131_5
         have HR131_2 := Aside0.mk hi131_2
         have HC131_2 := Aside0.mk hl131_2
         clear hi131_2 hl131_2
         have HR131_5 := Aside0.mk hi131_5
         have HC131_5 := Aside0.mk hl131_5
         clear hi131_5 hl131_5
         replace p131 := eq_true p131
         replace q131 := eq_true q131
         refine start_ (n := 8) (S := fun w' => w'.cell? ⟨gb126, 0, none⟩ = some (.int .i64 a0_0) ∧ w'.cell? ⟨gb126, 1, none⟩ = some (.int .i64 a0_1) ∧ w'.cell? ⟨gb126, 2, none⟩ = some (.slice A0_2 l0_2.length c0_2) ∧ w'.cell? ⟨gb126, 3, none⟩ = some (.float .f64 a0_3) ∧ w'.cell? ⟨gb126, 4, none⟩ = some (.float .f64 a0_4) ∧ w'.cell? ⟨gb126, 5, none⟩ = some (.slice (some ad131) l0_5.length c0_5) ∧ w'.cell? ⟨gb127, 0, none⟩ = some (.int .i64 a1_0) ∧ w'.cell? ⟨gb127, 1, none⟩ = some (.int .i64 a1_1) ∧ w'.cell? ⟨gb127, 2, none⟩ = some (.int .i64 a1_2) ∧ w'.cell? ⟨gb127, 3, none⟩ = some (.slice A1_3 l1_3.length c1_3) ∧ w'.cell? ⟨gb127, 4, none⟩ = some (.slice A1_4 l1_4.length c1_4) ∧ w'.cell? ⟨gb127, 5, none⟩ = some (.slice A1_5 l1_5.length c1_5) ∧ w'.cell? (ad131.add ((x5_1).toNat * 6)) = some (.int .i64 ((rd_T26 l0_5 x5_1).f0)) ∧ w'.cell? ⟨(ad131.add ((x5_1).toNat * 6)).block, (ad131.add ((x5_1).toNat * 6)).off + 1, none⟩ = some (.int .i64 ((rd_T26 l0_5 x5_1).f1)) ∧ w'.cell? ⟨(ad131.add ((x5_1).toNat * 6)).block, (ad131.add ((x5_1).toNat * 6)).off + 2, none⟩ = some (.slice A131_2 ((rd_T26 l0_5 x5_1).f2).length c131_2) ∧ w'.cell? ⟨(ad131.add ((x5_1).toNat * 6)).block, (ad131.add ((x5_1).toNat * 6)).off + 3, none⟩ = some (.float .f64 ((rd_T26 l0_5 x5_1).f3)) ∧ w'.cell? ⟨(ad131.add ((x5_1).toNat * 6)).block, (ad131.add ((x5_1).toNat * 6)).off + 4, none⟩ = some (.float .f64 ((rd_T26 l0_5 x5_1).f4)) ∧ w'.cell? ⟨(ad131.add ((x5_1).toNat * 6)).block, (ad131.add ((x5_1).toNat * 6)).off + 5, none⟩ = some (.slice A131_5 ((rd_T26 l0_5 x5_1).f5).length c131_5)) (ds := []) #[false, false, false, false, false, false, false, false] (by kernel_rfl) rfl rfl ⟨(blk_cell BK126.out 0).trans rfl, (blk_cell BK126.out 1).trans rfl, (blk_cell BK126.out 2).trans rfl, (blk_cell BK126.out 3).trans rfl, (blk_cell BK126.out 4).trans rfl, (blk_cell BK126.out 5).trans rfl, (blk_cell BK127.out 0).trans rfl, (blk_cell BK127.out 1).trans rfl, (blk_cell BK127.out 2).trans rfl, (blk_cell BK127.out 3).trans rfl, (blk_cell BK127.out 4).trans rfl, (blk_cell BK127.out 5).trans rfl, ((HB.out.cell (World.block_lt_of_cell? w _ hw131_0)).trans hw131_0), ((HB.out.cell (World.block_lt_of_cell? w _ hw131_1)).trans hw131_1), ((HB.out.cell (World.block_lt_of_cell? w _ hw131_2)).trans hw131_2), ((HB.out.cell (World.block_lt_of_cell? w _ hw131_3)).trans hw131_3), ((HB.out.cell (World.block_lt_of_cell? w _ hw131_4)).trans hw131_4), ((HB.out.cell (World.block_lt_of_cell? w _ hw131_5)).trans hw131_5)⟩ (fun hHeld => ?_); refine with_tabW gatewardenref15_Holds.tab10 gatewardenref15_Holds.bits10 (fun HT_ HW_ => ?_)
         generalize wr.drew = w31 at BK126 BK127 HB HR131_2 HR131_5 hx131_0 hx131_1 hx131_2 hx131_3 hx131_4 hx131_5 hHeld ⊢
         refine pure_ (i := 0) (N := some 32) (v := ?_) (a' := ?_) #[true, false, false, false, false, false, false, false] rfl rfl (any_of HT_.out (by kernel_rfl)) (fun _ _ _ h => h) (Or.inl ⟨by rfl, ?_⟩) ?_ ?_
         rotate_left
         ·intro w'
          go_simp
          with_reducible rfl
         rotate_left
         ·simp only [Act.put, List.setIfInBounds_toArray, List.set_cons_zero, List.set_cons_succ, i64_w, i32_w]
          rfl
         refine pure_ (i := 2) (N := some 34) (v := ?_) (a' := ?_) #[true, false, true, false, false, false, false, false] rfl rfl (any_of HT_.out (by kernel_rfl)) (fun _ _ _ h => h) (Or.inl ⟨by rfl, ?_⟩) ?_ ?_
         rotate_left
         ·intro w'
          go_simp
          with_reducible rfl
         rotate_left
         ·simp only [Act.put, List.setIfInBounds_toArray, List.set_cons_zero, List.set_cons_succ, i64_w, i32_w]
          rfl
         refine take_ (i := 1) (N := some 33) (v := ?_) (a' := ?_) #[true, true, true, false, false, false, false, false] rfl rfl (take_ofW HT_.out HW_.out (by kernel_rfl)) (fun _ _ _ h => h) (Or.inl ⟨by rfl, ?_⟩) hHeld ?_ ?_
         rotate_left
         ·rintro w' ⟨s0, s1, s2, s3, s4, s5, s6, s7, s8, s9, s10, s11, s12, s13, s14, s15, s16, s17⟩
          go_simp
          with_reducible rfl
         rotate_left
         ·simp only [Act.put, List.setIfInBounds_toArray, List.set_cons_zero, List.set_cons_succ, i64_w, i32_w]
          rfl
         refine pure_ (i := 3) (N := some 35) (v := ?_) (a' := ?_) #[true, true, true, true, false, false, false, false] rfl rfl (any_of HT_.out (by kernel_rfl)) (fun _ _ _ h => h) (Or.inl ⟨by rfl, ?_⟩) ?_ ?_
         rotate_left
         ·intro w'
          go_simp
          with_reducible rfl
         rotate_left
         ·simp only [Act.put, List.setIfInBounds_toArray, List.set_cons_zero, List.set_cons_succ, i64_w, i32_w]
          rfl
         refine take_ (i := 4) (N := some 36) (v := ?_) (a' := ?_) #[true, true, true, true, true, false, false, false] rfl rfl (take_ofW HT_.out HW_.out (by kernel_rfl)) (fun _ _ _ h => h) (Or.inl ⟨by rfl, ?_⟩) hHeld ?_ ?_
         rotate_left
         ·rintro w' ⟨s0, s1, s2, s3, s4, s5, s6, s7, s8, s9, s10, s11, s12, s13, s14, s15, s16, s17⟩
          go_simp
          with_reducible rfl
         rotate_left
         ·simp only [Act.put, List.setIfInBounds_toArray, List.set_cons_zero, List.set_cons_succ, i64_w, i32_w]
          rfl
         refine take_ (i := 5) (N := some 37) (v := ?_) (a' := ?_) #[true, true, true, true, true, true, false, false] rfl rfl (take_ofW HT_.out HW_.out (by kernel_rfl)) (fun _ _ _ h => h) (Or.inl ⟨by rfl, ?_⟩) hHeld ?_ ?_
         rotate_left
         ·rintro w' ⟨s0, s1, s2, s3, s4, s5, s6, s7, s8, s9, s10, s11, s12, s13, s14, s15, s16, s17⟩
          go_simp
          with_reducible rfl
         rotate_left
         ·simp only [Act.put, List.setIfInBounds_toArray, List.set_cons_zero, List.set_cons_succ, i64_w, i32_w]
          rfl
         refine one_ (i := 6) (N := some 38) #[true, true, true, true, true, true, true, false] rfl rfl (one_of HT_.out (by kernel_rfl)) (by decide) (fun K hK => ?_)
         refine goes_ Try.func15 (by kernel_rfl) rfl #[.agg #[.int .i64 ((rd_T26 l0_5 x5_1).f0), .int .i64 ((rd_T26 l0_5 x5_1).f1), .slice A131_2 ((rd_T26 l0_5 x5_1).f2).length c131_2, .float .f64 ((rd_T26 l0_5 x5_1).f3), .float .f64 ((rd_T26 l0_5 x5_1).f4), .slice A131_5 ((rd_T26 l0_5 x5_1).f5).length c131_5], .agg #[.int .i64 a1_0, .int .i64 a1_1, .int .i64 a1_2, .slice A1_3 l1_3.length c1_3, .slice A1_4 l1_4.length c1_4, .slice A1_5 l1_5.length c1_5]] (by rfl) rfl rfl (by (try simp only [List.map_toArray, List.map_cons, List.map_nil]); first | done | rfl | (simp only [List.length_drop, List.length_take]; rfl)) ?_
         with_reducible refine (ih k1 (by have := HK1.out; omega) ((rd_T26 l0_5 x5_1).f0) ((rd_T26 l0_5 x5_1).f1) _ _ ((rd_T26 l0_5 x5_1).f2) ((rd_T26 l0_5 x5_1).f3) ((rd_T26 l0_5 x5_1).f4) _ _ ((rd_T26 l0_5 x5_1).f5) a1_0 a1_1 a1_2 _ _ l1_3 _ _ l1_4 _ _ l1_5 true _ ?side1 ?side2 ?side3 ?side4 ?side5 ?side6 ?side7 ?side8 ?side9 ?side10 A27.out).mono ?_
         (case side1 => repeat (first | exact (Kd.C_below HR131_2.out HB.out) | (with_reducible refine Kd.C_alloc ?_ _) | (with_reducible refine Kd.C_drewN ?_ _) | (with_reducible refine Kd.C_drew ?_)))
         (case side2 => exact HC131_2.out)
         (case side3 => repeat (first | exact (Kd.C_below HR131_5.out HB.out) | (with_reducible refine Kd.C_alloc ?_ _) | (with_reducible refine Kd.C_drewN ?_ _) | (with_reducible refine Kd.C_drew ?_)))
         (case side4 => exact HC131_5.out)
         (case side5 => repeat (first | exact (Kd.C_below HR1_3.out HB.out) | (with_reducible refine Kd.C_alloc ?_ _) | (with_reducible refine Kd.C_drewN ?_ _) | (with_reducible refine Kd.C_drew ?_)))
         (case side6 => exact HC1_3.out)
         (case side7 => repeat (first | exact (Kd.C_below HR1_4.out HB.out) | (with_reducible refine Kd.C_alloc ?_ _) | (with_reducible refine Kd.C_drewN ?_ _) | (with_reducible refine Kd.C_drew ?_)))
         (case side8 => exact HC1_4.out)
         (case side9 => repeat (first | exact (Kd.C_below HR1_5.out HB.out) | (with_reducible refine Kd.C_alloc ?_ _) | (with_reducible refine Kd.C_drewN ?_ _) | (with_reducible refine Kd.C_drew ?_)))
         (case side10 => exact HC1_5.out)
         rintro e w32 ⟨rfl, hb⟩
         refine ⟨_, rfl, ?_⟩
         have n0_ := Aside0.mk (blk_below (g := gb126) (o := .cells #[.int .i64 a0_0, .int .i64 a0_1, .slice A0_2 l0_2.length c0_2, .float .f64 a0_3, .float .f64 a0_4, .slice (some ad131) l0_5.length c0_5] 26 (0, 0)) (by (with_reducible repeat (first | refine blk_drewN ?_ _ | refine blk_drew ?_ | refine blk_alloc ?_ _)); exact BK126.out) hb)
         have n1_ := Aside0.mk (blk_below (g := gb127) (o := .cells #[.int .i64 a1_0, .int .i64 a1_1, .int .i64 a1_2, .slice A1_3 l1_3.length c1_3, .slice A1_4 l1_4.length c1_4, .slice A1_5 l1_5.length c1_5] 30 (0, 0)) (by (with_reducible repeat (first | refine blk_drewN ?_ _ | refine blk_drew ?_ | refine blk_alloc ?_ _)); exact BK127.out) hb)
         have n2_ := Aside0.mk (below_step (by repeat (first | (with_reducible first | exact HB.out | apply below_alloc | apply pw_below_drewN | apply below_drew1 | refine below_set ?_ GE126.out | refine below_set ?_ GE127.out) | exact HB.out)) hb)
         clear BK126
         clear BK127
         clear HB
         have BK126 := n0_
         have BK127 := n1_
         have HB := n2_
         clear n0_ n1_ n2_
         (try clear hb)
         (try clear hb2)
         (try clear hk)
         (try clear hi)
         refine hK.out _ _ ⟨(blk_cell BK126.out 0).trans rfl, (blk_cell BK126.out 1).trans rfl, (blk_cell BK126.out 2).trans rfl, (blk_cell BK126.out 3).trans rfl, (blk_cell BK126.out 4).trans rfl, (blk_cell BK126.out 5).trans rfl, (blk_cell BK127.out 0).trans rfl, (blk_cell BK127.out 1).trans rfl, (blk_cell BK127.out 2).trans rfl, (blk_cell BK127.out 3).trans rfl, (blk_cell BK127.out 4).trans rfl, (blk_cell BK127.out 5).trans rfl, ((HB.out.cell (World.block_lt_of_cell? w _ hw131_0)).trans hw131_0), ((HB.out.cell (World.block_lt_of_cell? w _ hw131_1)).trans hw131_1), ((HB.out.cell (World.block_lt_of_cell? w _ hw131_2)).trans hw131_2), ((HB.out.cell (World.block_lt_of_cell? w _ hw131_3)).trans hw131_3), ((HB.out.cell (World.block_lt_of_cell? w _ hw131_4)).trans hw131_4), ((HB.out.cell (World.block_lt_of_cell? w _ hw131_5)).trans hw131_5)⟩ (fun hHeld => ?_)
         clear hK K
         refine norm_ (a' := ?_) ?_ ?_
         rotate_left
         ·show Act.put _ (some 38) _ = _
          simp only [Act.put, List.setIfInBounds_toArray, List.set_cons_zero, List.set_cons_succ, i64_w, i32_w]
          rfl
         refine pure_ (i := 7) (N := some 39) (v := ?_) (a' := ?_) #[true, true, true, true, true, true, true, true] rfl rfl (any_of HT_.out (by kernel_rfl)) (fun _ _ _ h => h) (Or.inl ⟨by rfl, ?_⟩) ?_ ?_
         rotate_left
         ·intro w'
          go_simp
          with_reducible rfl
         rotate_left
         ·simp only [Act.put, List.setIfInBounds_toArray, List.set_cons_zero, List.set_cons_succ, i64_w, i32_w]
          rfl
         refine done_ (done_of HT_.out (by kernel_rfl)) ?_
         try go_wp2
         go_roundg k1
         case measure => have := HK1.out; omega
         case rel => exact ⟨(wrap64 (x5_1 + 1)), (by first | rfl | (simp; done) | (simp [*]; done)), H', ⟨by have := HK1.out; omega⟩, ⟨by (with_reducible repeat (first | refine blk_drewN ?_ _ | refine blk_drew ?_ | refine blk_alloc ?_ _)); exact BK126.out⟩, ⟨by (with_reducible repeat (first | refine blk_drewN ?_ _ | refine blk_drew ?_ | refine blk_alloc ?_ _)); exact BK127.out⟩, ⟨by repeat (first | (with_reducible first | exact HB.out | apply below_alloc | apply pw_below_drewN | apply below_drew1 | refine below_set ?_ GE126.out | refine below_set ?_ GE127.out) | exact HB.out)⟩⟩
        ·replace c28 := Bool.eq_false_iff.mpr c28
         subst c28
         have H1 : (some false) = some r := by rw [if_neg (show ¬ (false = true) by decide)] at H; exact H
         clear H
         have H := H1
         clear H1
         obtain rfl := Option.some.inj H
         have hnb33 := NB126_127.out
         have hnc33 := NB127_126.out
         have hcz34_0 : wr.cell? ⟨gb126, 0, none⟩ = some (.int .i64 a0_0) := (blk_cell BK126.out 0).trans rfl
         have hcz34_1 : wr.cell? ⟨gb126, 1, none⟩ = some (.int .i64 a0_1) := (blk_cell BK126.out 1).trans rfl
         have hcz34_2 : wr.cell? ⟨gb126, 2, none⟩ = some (.slice A0_2 l0_2.length c0_2) := (blk_cell BK126.out 2).trans rfl
         have hcz34_3 : wr.cell? ⟨gb126, 3, none⟩ = some (.float .f64 a0_3) := (blk_cell BK126.out 3).trans rfl
         have hcz34_4 : wr.cell? ⟨gb126, 4, none⟩ = some (.float .f64 a0_4) := (blk_cell BK126.out 4).trans rfl
         have hcz34_5 : wr.cell? ⟨gb126, 5, none⟩ = some (.slice A0_5 l0_5.length c0_5) := (blk_cell BK126.out 5).trans rfl
         have hfz34_0 := blk_frozen BK126.out 0
         have hfz34_1 := blk_frozen BK126.out 1
         have hfz34_2 := blk_frozen BK126.out 2
         have hfz34_3 := blk_frozen BK126.out 3
         have hfz34_4 := blk_frozen BK126.out 4
         have hfz34_5 := blk_frozen BK126.out 5
         try go_wp2
         (try (rw [drewN_self wr]; generalize hq_ : World.drewN wr _ = wr; have n0_ := Aside0.mk (blk_at hq_ BK126.out); have n1_ := Aside0.mk (blk_at hq_ BK127.out); have n2_ := Aside0.mk (below_at hq_ HB.out); clear hq_ BK126 BK127 HB; have BK126 := n0_; have BK127 := n1_; have HB := n2_; clear n0_ n1_ n2_))
         have n0_ := Aside0.mk (blk_drew BK126.out)
         have n1_ := Aside0.mk (blk_drew BK127.out)
         have n2_ := Aside0.mk (below_drew1 HB.out)
         clear BK126
         clear BK127
         clear HB
         have BK126 := n0_
         have BK127 := n1_
         have HB := n2_
         clear n0_ n1_ n2_
         have p131 : 0 ≤ (x5_1 : Int) := of_decide_eq_true (by first | (with_reducible assumption) | assumption)
         have q131 : x5_1 < (l0_5.length : Int) := of_decide_eq_true (by first | (with_reducible assumption) | assumption)
         obtain ⟨ad131, A131_2, c131_2, A131_5, c131_5, e131, hx131_0, hx131_1, hx131_2, hx131_3, hx131_4, hx131_5, hl131_2, hi131_2, hl131_5, hi131_5⟩ := at_T26 HR0_5.out x5_1 p131 q131
         have hw131_5 := hx131_5
         have hw131_4 := hx131_4
         have hw131_3 := hx131_3
         have hw131_2 := hx131_2
         have hw131_1 := hx131_1
         have hw131_0 := hx131_0
         cases e131
         replace hx131_0 := (HB.out.cell (World.block_lt_of_cell? w _ hx131_0)).trans hx131_0
         replace hx131_1 := (HB.out.cell (World.block_lt_of_cell? w _ hx131_1)).trans hx131_1
         replace hx131_2 := (HB.out.cell (World.block_lt_of_cell? w _ hx131_2)).trans hx131_2
         replace hx131_3 := (HB.out.cell (World.block_lt_of_cell? w _ hx131_3)).trans hx131_3
         replace hx131_4 := (HB.out.cell (World.block_lt_of_cell? w _ hx131_4)).trans hx131_4
         replace hx131_5 := (HB.out.cell (World.block_lt_of_cell? w _ hx131_5)).trans hx131_5
         have HR131_2 := Aside0.mk hi131_2
         have HC131_2 := Aside0.mk hl131_2
         clear hi131_2 hl131_2
         have HR131_5 := Aside0.mk hi131_5
         have HC131_5 := Aside0.mk hl131_5
         clear hi131_5 hl131_5
         replace p131 := eq_true p131
         replace q131 := eq_true q131
         refine start_ (n := 8) (S := fun w' => w'.cell? ⟨gb126, 0, none⟩ = some (.int .i64 a0_0) ∧ w'.cell? ⟨gb126, 1, none⟩ = some (.int .i64 a0_1) ∧ w'.cell? ⟨gb126, 2, none⟩ = some (.slice A0_2 l0_2.length c0_2) ∧ w'.cell? ⟨gb126, 3, none⟩ = some (.float .f64 a0_3) ∧ w'.cell? ⟨gb126, 4, none⟩ = some (.float .f64 a0_4) ∧ w'.cell? ⟨gb126, 5, none⟩ = some (.slice (some ad131) l0_5.length c0_5) ∧ w'.cell? ⟨gb127, 0, none⟩ = some (.int .i64 a1_0) ∧ w'.cell? ⟨gb127, 1, none⟩ = some (.int .i64 a1_1) ∧ w'.cell? ⟨gb127, 2, none⟩ = some (.int .i64 a1_2) ∧ w'.cell? ⟨gb127, 3, none⟩ = some (.slice A1_3 l1_3.length c1_3) ∧ w'.cell? ⟨gb127, 4, none⟩ = some (.slice A1_4 l1_4.length c1_4) ∧ w'.cell? ⟨gb127, 5, none⟩ = some (.slice A1_5 l1_5.length c1_5) ∧ w'.cell? (ad131.add ((x5_1).toNat * 6)) = some (.int .i64 ((rd_T26 l0_5 x5_1).f0)) ∧ w'.cell? ⟨(ad131.add ((x5_1).toNat * 6)).block, (ad131.add ((x5_1).toNat * 6)).off + 1, none⟩ = some (.int .i64 ((rd_T26 l0_5 x5_1).f1)) ∧ w'.cell? ⟨(ad131.add ((x5_1).toNat * 6)).block, (ad131.add ((x5_1).toNat * 6)).off + 2, none⟩ = some (.slice A131_2 ((rd_T26 l0_5 x5_1).f2).length c131_2) ∧ w'.cell? ⟨(ad131.add ((x5_1).toNat * 6)).block, (ad131.add ((x5_1).toNat * 6)).off + 3, none⟩ = some (.float .f64 ((rd_T26 l0_5 x5_1).f3)) ∧ w'.cell? ⟨(ad131.add ((x5_1).toNat * 6)).block, (ad131.add ((x5_1).toNat * 6)).off + 4, none⟩ = some (.float .f64 ((rd_T26 l0_5 x5_1).f4)) ∧ w'.cell? ⟨(ad131.add ((x5_1).toNat * 6)).block, (ad131.add ((x5_1).toNat * 6)).off + 5, none⟩ = some (.slice A131_5 ((rd_T26 l0_5 x5_1).f5).length c131_5)) (ds := []) #[false, false, false, false, false, false, false, false] (by kernel_rfl) rfl rfl ⟨(blk_cell BK126.out 0).trans rfl, (blk_cell BK126.out 1).trans rfl, (blk_cell BK126.out 2).trans rfl, (blk_cell BK126.out 3).trans rfl, (blk_cell BK126.out 4).trans rfl, (blk_cell BK126.out 5).trans rfl, (blk_cell BK127.out 0).trans rfl, (blk_cell BK127.out 1).trans rfl, (blk_cell BK127.out 2).trans rfl, (blk_cell BK127.out 3).trans rfl, (blk_cell BK127.out 4).trans rfl, (blk_cell BK127.out 5).trans rfl, ((HB.out.cell (World.block_lt_of_cell? w _ hw131_0)).trans hw131_0), ((HB.out.cell (World.block_lt_of_cell? w _ hw131_1)).trans hw131_1), ((HB.out.cell (World.block_lt_of_cell? w _ hw131_2)).trans hw131_2), ((HB.out.cell (World.block_lt_of_cell? w _ hw131_3)).trans hw131_3), ((HB.out.cell (World.block_lt_of_cell? w _ hw131_4)).trans hw131_4), ((HB.out.cell (World.block_lt_of_cell? w _ hw131_5)).trans hw131_5)⟩ (fun hHeld => ?_); refine with_tabW gatewardenref15_Holds.tab10 gatewardenref15_Holds.bits10 (fun HT_ HW_ => ?_)
         generalize wr.drew = w35 at BK126 BK127 HB HR131_2 HR131_5 hx131_0 hx131_1 hx131_2 hx131_3 hx131_4 hx131_5 hHeld ⊢
         refine pure_ (i := 0) (N := some 32) (v := ?_) (a' := ?_) #[true, false, false, false, false, false, false, false] rfl rfl (any_of HT_.out (by kernel_rfl)) (fun _ _ _ h => h) (Or.inl ⟨by rfl, ?_⟩) ?_ ?_
         rotate_left
         ·intro w'
          go_simp
          with_reducible rfl
         rotate_left
         ·simp only [Act.put, List.setIfInBounds_toArray, List.set_cons_zero, List.set_cons_succ, i64_w, i32_w]
          rfl
         refine pure_ (i := 2) (N := some 34) (v := ?_) (a' := ?_) #[true, false, true, false, false, false, false, false] rfl rfl (any_of HT_.out (by kernel_rfl)) (fun _ _ _ h => h) (Or.inl ⟨by rfl, ?_⟩) ?_ ?_
         rotate_left
         ·intro w'
          go_simp
          with_reducible rfl
         rotate_left
         ·simp only [Act.put, List.setIfInBounds_toArray, List.set_cons_zero, List.set_cons_succ, i64_w, i32_w]
          rfl
         refine take_ (i := 1) (N := some 33) (v := ?_) (a' := ?_) #[true, true, true, false, false, false, false, false] rfl rfl (take_ofW HT_.out HW_.out (by kernel_rfl)) (fun _ _ _ h => h) (Or.inl ⟨by rfl, ?_⟩) hHeld ?_ ?_
         rotate_left
         ·rintro w' ⟨s0, s1, s2, s3, s4, s5, s6, s7, s8, s9, s10, s11, s12, s13, s14, s15, s16, s17⟩
          go_simp
          with_reducible rfl
         rotate_left
         ·simp only [Act.put, List.setIfInBounds_toArray, List.set_cons_zero, List.set_cons_succ, i64_w, i32_w]
          rfl
         refine pure_ (i := 3) (N := some 35) (v := ?_) (a' := ?_) #[true, true, true, true, false, false, false, false] rfl rfl (any_of HT_.out (by kernel_rfl)) (fun _ _ _ h => h) (Or.inl ⟨by rfl, ?_⟩) ?_ ?_
         rotate_left
         ·intro w'
          go_simp
          with_reducible rfl
         rotate_left
         ·simp only [Act.put, List.setIfInBounds_toArray, List.set_cons_zero, List.set_cons_succ, i64_w, i32_w]
          rfl
         refine take_ (i := 4) (N := some 36) (v := ?_) (a' := ?_) #[true, true, true, true, true, false, false, false] rfl rfl (take_ofW HT_.out HW_.out (by kernel_rfl)) (fun _ _ _ h => h) (Or.inl ⟨by rfl, ?_⟩) hHeld ?_ ?_
         rotate_left
         ·rintro w' ⟨s0, s1, s2, s3, s4, s5, s6, s7, s8, s9, s10, s11, s12, s13, s14, s15, s16, s17⟩
          go_simp
          with_reducible rfl
         rotate_left
         ·simp only [Act.put, List.setIfInBounds_toArray, List.set_cons_zero, List.set_cons_succ, i64_w, i32_w]
          rfl
         refine take_ (i := 5) (N := some 37) (v := ?_) (a' := ?_) #[true, true, true, true, true, true, false, false] rfl rfl (take_ofW HT_.out HW_.out (by kernel_rfl)) (fun _ _ _ h => h) (Or.inl ⟨by rfl, ?_⟩) hHeld ?_ ?_
         rotate_left
         ·rintro w' ⟨s0, s1, s2, s3, s4, s5, s6, s7, s8, s9, s10, s11, s12, s13, s14, s15, s16, s17⟩
          go_simp
          with_reducible rfl
         rotate_left
         ·simp only [Act.put, List.setIfInBounds_toArray, List.set_cons_zero, List.set_cons_succ, i64_w, i32_w]
          rfl
         refine one_ (i := 6) (N := some 38) #[true, true, true, true, true, true, true, false] rfl rfl (one_of HT_.out (by kernel_rfl)) (by decide) (fun K hK => ?_)
         refine goes_ Try.func15 (by kernel_rfl) rfl #[.agg #[.int .i64 ((rd_T26 l0_5 x5_1).f0), .int .i64 ((rd_T26 l0_5 x5_1).f1), .slice A131_2 ((rd_T26 l0_5 x5_1).f2).length c131_2, .float .f64 ((rd_T26 l0_5 x5_1).f3), .float .f64 ((rd_T26 l0_5 x5_1).f4), .slice A131_5 ((rd_T26 l0_5 x5_1).f5).length c131_5], .agg #[.int .i64 a1_0, .int .i64 a1_1, .int .i64 a1_2, .slice A1_3 l1_3.length c1_3, .slice A1_4 l1_4.length c1_4, .slice A1_5 l1_5.length c1_5]] (by rfl) rfl rfl (by (try simp only [List.map_toArray, List.map_cons, List.map_nil]); first | done | rfl | (simp only [List.length_drop, List.length_take]; rfl)) ?_
         with_reducible refine (ih k1 (by have := HK1.out; omega) ((rd_T26 l0_5 x5_1).f0) ((rd_T26 l0_5 x5_1).f1) _ _ ((rd_T26 l0_5 x5_1).f2) ((rd_T26 l0_5 x5_1).f3) ((rd_T26 l0_5 x5_1).f4) _ _ ((rd_T26 l0_5 x5_1).f5) a1_0 a1_1 a1_2 _ _ l1_3 _ _ l1_4 _ _ l1_5 false _ ?side1 ?side2 ?side3 ?side4 ?side5 ?side6 ?side7 ?side8 ?side9 ?side10 A27.out).mono ?_
         (case side1 => repeat (first | exact (Kd.C_below HR131_2.out HB.out) | (with_reducible refine Kd.C_alloc ?_ _) | (with_reducible refine Kd.C_drewN ?_ _) | (with_reducible refine Kd.C_drew ?_)))
         (case side2 => exact HC131_2.out)
         (case side3 => repeat (first | exact (Kd.C_below HR131_5.out HB.out) | (with_reducible refine Kd.C_alloc ?_ _) | (with_reducible refine Kd.C_drewN ?_ _) | (with_reducible refine Kd.C_drew ?_)))
         (case side4 => exact HC131_5.out)
         (case side5 => repeat (first | exact (Kd.C_below HR1_3.out HB.out) | (with_reducible refine Kd.C_alloc ?_ _) | (with_reducible refine Kd.C_drewN ?_ _) | (with_reducible refine Kd.C_drew ?_)))
         (case side6 => exact HC1_3.out)
         (case side7 => repeat (first | exact (Kd.C_below HR1_4.out HB.out) | (with_reducible refine Kd.C_alloc ?_ _) | (with_reducible refine Kd.C_drewN ?_ _) | (with_reducible refine Kd.C_drew ?_)))
         (case side8 => exact HC1_4.out)
         (case side9 => repeat (first | exact (Kd.C_below HR1_5.out HB.out) | (with_reducible refine Kd.C_alloc ?_ _) | (with_reducible refine Kd.C_drewN ?_ _) | (with_reducible refine Kd.C_drew ?_)))
         (case side10 => exact HC1_5.out)
         rintro e w36 ⟨rfl, hb⟩
         refine ⟨_, rfl, ?_⟩
         have n0_ := Aside0.mk (blk_below (g := gb126) (o := .cells #[.int .i64 a0_0, .int .i64 a0_1, .slice A0_2 l0_2.length c0_2, .float .f64 a0_3, .float .f64 a0_4, .slice (some ad131) l0_5.length c0_5] 26 (0, 0)) (by (with_reducible repeat (first | refine blk_drewN ?_ _ | refine blk_drew ?_ | refine blk_alloc ?_ _)); exact BK126.out) hb)
         have n1_ := Aside0.mk (blk_below (g := gb127) (o := .cells #[.int .i64 a1_0, .int .i64 a1_1, .int .i64 a1_2, .slice A1_3 l1_3.length c1_3, .slice A1_4 l1_4.length c1_4, .slice A1_5 l1_5.length c1_5] 30 (0, 0)) (by (with_reducible repeat (first | refine blk_drewN ?_ _ | refine blk_drew ?_ | refine blk_alloc ?_ _)); exact BK127.out) hb)
         have n2_ := Aside0.mk (below_step (by repeat (first | (with_reducible first | exact HB.out | apply below_alloc | apply pw_below_drewN | apply below_drew1 | refine below_set ?_ GE126.out | refine below_set ?_ GE127.out) | exact HB.out)) hb)
         clear BK126
         clear BK127
         clear HB
         have BK126 := n0_
         have BK127 := n1_
         have HB := n2_
         clear n0_ n1_ n2_
         (try clear hb)
         (try clear hb2)
         (try clear hk)
         (try clear hi)
         refine hK.out _ _ ⟨(blk_cell BK126.out 0).trans rfl, (blk_cell BK126.out 1).trans rfl, (blk_cell BK126.out 2).trans rfl, (blk_cell BK126.out 3).trans rfl, (blk_cell BK126.out 4).trans rfl, (blk_cell BK126.out 5).trans rfl, (blk_cell BK127.out 0).trans rfl, (blk_cell BK127.out 1).trans rfl, (blk_cell BK127.out 2).trans rfl, (blk_cell BK127.out 3).trans rfl, (blk_cell BK127.out 4).trans rfl, (blk_cell BK127.out 5).trans rfl, ((HB.out.cell (World.block_lt_of_cell? w _ hw131_0)).trans hw131_0), ((HB.out.cell (World.block_lt_of_cell? w _ hw131_1)).trans hw131_1), ((HB.out.cell (World.block_lt_of_cell? w _ hw131_2)).trans hw131_2), ((HB.out.cell (World.block_lt_of_cell? w _ hw131_3)).trans hw131_3), ((HB.out.cell (World.block_lt_of_cell? w _ hw131_4)).trans hw131_4), ((HB.out.cell (World.block_lt_of_cell? w _ hw131_5)).trans hw131_5)⟩ (fun hHeld => ?_)
         clear hK K
         refine norm_ (a' := ?_) ?_ ?_
         rotate_left
         ·show Act.put _ (some 38) _ = _
          simp only [Act.put, List.setIfInBounds_toArray, List.set_cons_zero, List.set_cons_succ, i64_w, i32_w]
          rfl
         refine pure_ (i := 7) (N := some 39) (v := ?_) (a' := ?_) #[true, true, true, true, true, true, true, true] rfl rfl (any_of HT_.out (by kernel_rfl)) (fun _ _ _ h => h) (Or.inl ⟨by rfl, ?_⟩) ?_ ?_
         rotate_left
         ·intro w'
          go_simp
          with_reducible rfl
         rotate_left
         ·simp only [Act.put, List.setIfInBounds_toArray, List.set_cons_zero, List.set_cons_succ, i64_w, i32_w]
          rfl
         refine done_ (done_of HT_.out (by kernel_rfl)) ?_
         try go_wp2
         go_ret
         exact ⟨by first | rfl | (simp [errW_none, errW_some] <;> rfl) | (simp [*, errW_none, errW_some] <;> rfl), by repeat (first | (with_reducible first | exact HB.out | apply below_alloc | apply pw_below_drewN | apply below_drew1 | refine below_set ?_ GE126.out | refine below_set ?_ GE127.out) | exact HB.out)⟩
       ·rw [if_neg c26] at H
        exact absurd H (by simp)
      ·rw [if_neg c25] at H
       have c25b0 : decide (x5_1 < (l0_5.length : Int)) = false := decide_eq_false c25
       clear c25
       obtain rfl := Option.some.inj H
       have hnb37 := NB126_127.out
       have hnc37 := NB127_126.out
       have hcz38_0 : wr.cell? ⟨gb126, 0, none⟩ = some (.int .i64 a0_0) := (blk_cell BK126.out 0).trans rfl
       have hcz38_1 : wr.cell? ⟨gb126, 1, none⟩ = some (.int .i64 a0_1) := (blk_cell BK126.out 1).trans rfl
       have hcz38_2 : wr.cell? ⟨gb126, 2, none⟩ = some (.slice A0_2 l0_2.length c0_2) := (blk_cell BK126.out 2).trans rfl
       have hcz38_3 : wr.cell? ⟨gb126, 3, none⟩ = some (.float .f64 a0_3) := (blk_cell BK126.out 3).trans rfl
       have hcz38_4 : wr.cell? ⟨gb126, 4, none⟩ = some (.float .f64 a0_4) := (blk_cell BK126.out 4).trans rfl
       have hcz38_5 : wr.cell? ⟨gb126, 5, none⟩ = some (.slice A0_5 l0_5.length c0_5) := (blk_cell BK126.out 5).trans rfl
       have hfz38_0 := blk_frozen BK126.out 0
       have hfz38_1 := blk_frozen BK126.out 1
       have hfz38_2 := blk_frozen BK126.out 2
       have hfz38_3 := blk_frozen BK126.out 3
       have hfz38_4 := blk_frozen BK126.out 4
       have hfz38_5 := blk_frozen BK126.out 5
       go_wp2
       go_ret
       exact ⟨by first | rfl | (simp [errW_none, errW_some] <;> rfl) | (simp [*, errW_none, errW_some] <;> rfl), by repeat (first | (with_reducible first | exact HB.out | apply below_alloc | apply pw_below_drewN | apply below_drew1 | refine below_set ?_ GE126.out | refine below_set ?_ GE127.out) | exact HB.out)⟩
   ·rw [if_neg c20] at H
    have c20b0 : (a0_0 == 3) = false := beq_eq_false_iff_ne.mpr c20
    have c20b1 : (a0_0 != 3) = true := bne_iff_ne.mpr c20
    by_cases c39 : a0_0 = 4
    ·rw [if_pos c39] at H
     have c39b0 : (a0_0 == 4) = true := beq_iff_eq.mpr c39
     have c39b1 : (a0_0 != 4) = false := bne_eq_false_iff_eq.mpr c39
     clear c39
     have H' := Aside0.mk H
     clear H
     go_enter Try.func15, Try.ntmps15
     go_wp2_with (first | ((with_reducible refine gate_dst (N := 2) rfl ?_); refine box_event ?hg (N := 2) ?hd (cs := #[.int .i64 a0_0, .int .i64 a0_1, .slice A0_2 l0_2.length c0_2, .float .f64 a0_3, .float .f64 a0_4, .slice A0_5 l0_5.length c0_5]) (t := 26) ?hr ?_; (case hd => rfl); (case hg => rfl); (case hr => first | (go_simp; done) | (go_simp; rfl)); intro gb126 hg w40 hbox hb; have n0_ := Aside0.mk (below_step (by repeat (first | (with_reducible first | exact HB.out | apply below_alloc | apply pw_below_drewN | apply below_drew1) | exact HB.out)) hb); have n1_ := Aside0.mk (hbox); have n2_ := Aside0.mk ((by rw [hg]; exact (below_size (by repeat (first | (with_reducible first | exact HB.out | apply below_alloc | apply pw_below_drewN | apply below_drew1) | exact HB.out))) : w.heap.size ≤ gb126)); have n3_ := Aside0.mk ((by rw [hg]; exact (below_size (by repeat (first | (with_reducible first | exact HB.out | apply below_alloc | apply pw_below_drewN | apply below_drew1) | exact HB.out))) : w.heap.size ≤ gb126)); clear HB; have HB := n0_; have BK126 := n1_; have GW126 := n2_; have GE126 := n3_; clear n0_ n1_ n2_ n3_; clear hb hbox hg) | ((with_reducible refine gate_dst (N := 3) rfl ?_); refine box_event ?hg (N := 3) ?hd (cs := #[.int .i64 a1_0, .int .i64 a1_1, .int .i64 a1_2, .slice A1_3 l1_3.length c1_3, .slice A1_4 l1_4.length c1_4, .slice A1_5 l1_5.length c1_5]) (t := 30) ?hr ?_; (case hd => rfl); (case hg => rfl); (case hr => first | (go_simp; done) | (go_simp; rfl)); intro gb127 hg w41 hbox hb; have n0_ := Aside0.mk (blk_below (g := gb126) (o := .cells #[.int .i64 a0_0, .int .i64 a0_1, .slice A0_2 l0_2.length c0_2, .float .f64 a0_3, .float .f64 a0_4, .slice A0_5 l0_5.length c0_5] 26 (0, 0)) (by (with_reducible repeat (first | refine blk_drewN ?_ _ | refine blk_drew ?_ | refine blk_alloc ?_ _)); exact BK126.out) hb); have n1_ := Aside0.mk (below_step (by repeat (first | (with_reducible first | exact HB.out | apply below_alloc | apply pw_below_drewN | apply below_drew1 | refine below_set ?_ GE126.out) | exact HB.out)) hb); have n2_ := Aside0.mk (hbox); have n3_ := Aside0.mk ((by rw [hg]; exact (below_size (by repeat (first | (with_reducible first | exact HB.out | apply below_alloc | apply pw_below_drewN | apply below_drew1 | refine below_set ?_ GE126.out) | exact HB.out))) : w.heap.size ≤ gb127)); have n4_ := Aside0.mk ((by rw [hg]; exact (below_size (by repeat (first | (with_reducible first | exact HB.out | apply below_alloc | apply pw_below_drewN | apply below_drew1 | refine below_set ?_ GE126.out) | exact HB.out))) : w.heap.size ≤ gb127)); have n5_ := Aside0.mk ((by rw [hg]; exact Nat.ne_of_lt (blk_lt (g := gb126) (o := .cells #[.int .i64 a0_0, .int .i64 a0_1, .slice A0_2 l0_2.length c0_2, .float .f64 a0_3, .float .f64 a0_4, .slice A0_5 l0_5.length c0_5] 26 (0, 0)) (by (with_reducible repeat (first | refine blk_drewN ?_ _ | refine blk_drew ?_ | refine blk_alloc ?_ _)); exact BK126.out)) : gb126 ≠ gb127)); have n6_ := Aside0.mk ((by rw [hg]; exact Nat.ne_of_gt (blk_lt (g := gb126) (o := .cells #[.int .i64 a0_0, .int .i64 a0_1, .slice A0_2 l0_2.length c0_2, .float .f64 a0_3, .float .f64 a0_4, .slice A0_5 l0_5.length c0_5] 26 (0, 0)) (by (with_reducible repeat (first | refine blk_drewN ?_ _ | refine blk_drew ?_ | refine blk_alloc ?_ _)); exact BK126.out)) : gb127 ≠ gb126)); clear BK126; clear HB; have BK126 := n0_; have HB := n1_; have BK127 := n2_; have GW127 := n3_; have GE127 := n4_; have NB126_127 := n5_; have NB127_126 := n6_; clear n0_ n1_ n2_ n3_ n4_ n5_ n6_; clear hb hbox hg; have hnb42 := NB126_127.out; have hnc42 := NB127_126.out; have hcz43_0 : w41.cell? ⟨gb126, 0, none⟩ = some (.int .i64 a0_0) := (blk_cell BK126.out 0).trans rfl; have hcz43_1 : w41.cell? ⟨gb126, 1, none⟩ = some (.int .i64 a0_1) := (blk_cell BK126.out 1).trans rfl; have hcz43_2 : w41.cell? ⟨gb126, 2, none⟩ = some (.slice A0_2 l0_2.length c0_2) := (blk_cell BK126.out 2).trans rfl; have hcz43_3 : w41.cell? ⟨gb126, 3, none⟩ = some (.float .f64 a0_3) := (blk_cell BK126.out 3).trans rfl; have hcz43_4 : w41.cell? ⟨gb126, 4, none⟩ = some (.float .f64 a0_4) := (blk_cell BK126.out 4).trans rfl; have hcz43_5 : w41.cell? ⟨gb126, 5, none⟩ = some (.slice A0_5 l0_5.length c0_5) := (blk_cell BK126.out 5).trans rfl; have hfz43_0 := blk_frozen BK126.out 0; have hfz43_1 := blk_frozen BK126.out 1; have hfz43_2 := blk_frozen BK126.out 2; have hfz43_3 := blk_frozen BK126.out 3; have hfz43_4 := blk_frozen BK126.out 4; have hfz43_5 := blk_frozen BK126.out 5))
     go_loopg [6] k (fun kq v6 w' => ∃ (x6_1 : Int), v6 = .int .i64 x6_1 ∧ Aside0 (gatewardenref15_Holds.l1 kq x6_1 a0_0 a0_1 l0_2 a0_3 a0_4 l0_5 a1_0 a1_1 a1_2 l1_3 l1_4 l1_5 = some r) ∧ Aside0 (kq ≤ k) ∧ Aside0 (w'.heap[gb126]? = some (.cells #[.int .i64 a0_0, .int .i64 a0_1, (.slice A0_2 l0_2.length c0_2), .float .f64 a0_3, .float .f64 a0_4, (.slice A0_5 l0_5.length c0_5)] 26 (0, 0))) ∧ Aside0 (w'.heap[gb127]? = some (.cells #[.int .i64 a1_0, .int .i64 a1_1, .int .i64 a1_2, (.slice A1_3 l1_3.length c1_3), (.slice A1_4 l1_4.length c1_4), (.slice A1_5 l1_5.length c1_5)] 30 (0, 0))) ∧ Aside0 (Below w.heap.size w w'))
     case atStart => exact ⟨(0), (by first | rfl | (simp; done) | (simp [*]; done)), H', ⟨Nat.le_refl _⟩, ⟨by (with_reducible repeat (first | refine blk_drewN ?_ _ | refine blk_drew ?_ | refine blk_alloc ?_ _)); exact BK126.out⟩, ⟨by (with_reducible repeat (first | refine blk_drewN ?_ _ | refine blk_drew ?_ | refine blk_alloc ?_ _)); exact BK127.out⟩, ⟨by repeat (first | (with_reducible first | exact HB.out | apply below_alloc | apply pw_below_drewN | apply below_drew1 | refine below_set ?_ GE126.out | refine below_set ?_ GE127.out) | exact HB.out)⟩⟩
     case round =>
      clear H'
      try clear c1
      try clear p1
      try clear q1
      try clear hx1
      try clear qi1
      try clear c2
      try clear p2
      try clear c3
      try clear c3b0
      try clear c3b1
      try clear c4
      try clear p6
      try clear c7
      try clear c11
      try clear c11b0
      try clear c11b1
      try clear c12
      try clear c12b0
      try clear c12b1
      try clear p12
      try clear q12
      try clear hx12
      try clear qi12
      try clear c13
      try clear p13
      try clear q13
      try clear hx13
      try clear c15
      try clear c16
      try clear c20
      try clear c20b0
      try clear c20b1
      try clear c23
      try clear c25
      try clear c25b0
      try clear c26
      try clear c26b0
      try clear c28
      try clear c29
      try clear c33
      try clear c37
      try clear c39
      try clear c39b0
      try clear c39b1
      try clear c42
      try clear hcz17_0
      try clear hcz17_1
      try clear hcz17_2
      try clear hcz17_3
      try clear hcz17_4
      try clear hcz17_5
      try clear hcz24_0
      try clear hcz24_1
      try clear hcz24_2
      try clear hcz24_3
      try clear hcz24_4
      try clear hcz24_5
      try clear hcz30_0
      try clear hcz30_1
      try clear hcz30_2
      try clear hcz30_3
      try clear hcz30_4
      try clear hcz30_5
      try clear hcz34_0
      try clear hcz34_1
      try clear hcz34_2
      try clear hcz34_3
      try clear hcz34_4
      try clear hcz34_5
      try clear hcz38_0
      try clear hcz38_1
      try clear hcz38_2
      try clear hcz38_3
      try clear hcz38_4
      try clear hcz38_5
      try clear hcz43_0
      try clear hcz43_1
      try clear hcz43_2
      try clear hcz43_3
      try clear hcz43_4
      try clear hcz43_5
      try clear hcz8_0
      try clear hcz8_1
      try clear hcz8_2
      try clear hcz8_3
      try clear hcz8_4
      try clear hcz8_5
      try clear hcz9_0
      try clear hcz9_1
      try clear hcz9_2
      try clear hcz9_3
      try clear hcz9_4
      try clear hcz9_5
      try clear hfz17_0
      try clear hfz17_1
      try clear hfz17_2
      try clear hfz17_3
      try clear hfz17_4
      try clear hfz17_5
      try clear hfz24_0
      try clear hfz24_1
      try clear hfz24_2
      try clear hfz24_3
      try clear hfz24_4
      try clear hfz24_5
      try clear hfz30_0
      try clear hfz30_1
      try clear hfz30_2
      try clear hfz30_3
      try clear hfz30_4
      try clear hfz30_5
      try clear hfz34_0
      try clear hfz34_1
      try clear hfz34_2
      try clear hfz34_3
      try clear hfz34_4
      try clear hfz34_5
      try clear hfz38_0
      try clear hfz38_1
      try clear hfz38_2
      try clear hfz38_3
      try clear hfz38_4
      try clear hfz38_5
      try clear hfz43_0
      try clear hfz43_1
      try clear hfz43_2
      try clear hfz43_3
      try clear hfz43_4
      try clear hfz43_5
      try clear hfz8_0
      try clear hfz8_1
      try clear hfz8_2
      try clear hfz8_3
      try clear hfz8_4
      try clear hfz8_5
      try clear hfz9_0
      try clear hfz9_1
      try clear hfz9_2
      try clear hfz9_3
      try clear hfz9_4
      try clear hfz9_5
      try clear hx129_0
      try clear hx129_1
      try clear hx129_2
      try clear hx129_3
      try clear hx129_4
      try clear hx129_5
      try clear hx131_0
      try clear hx131_1
      try clear hx131_2
      try clear hx131_3
      try clear hx131_4
      try clear hx131_5
      try clear p1
      try clear p12
      try clear p129
      try clear p131
      try clear p2
      try clear q1
      try clear q12
      try clear q129
      try clear q131
      obtain ⟨x6_1, rfl, HA, HK1, BK126, BK127, HB⟩ := hrel
      cases gk with
      | zero => exact absurd HA.out (by simp [gatewardenref15_Holds.l1])
      | succ k1 =>
       have H := HA.out
       clear HA
       simp only [gatewardenref15_Holds.l1] at H
       by_cases c44 : x6_1 < (l0_5.length : Int)
       ·rw [if_pos c44] at H
        have c44b0 : decide (x6_1 < (l0_5.length : Int)) = true := decide_eq_true c44
        clear c44
        by_cases c45 : 0 ≤ x6_1
        ·rw [if_pos c45] at H
         have c45b0 : decide (0 ≤ x6_1) = true := decide_eq_true c45
         clear c45
         replace H := Option.bind_eq_some_iff.mp H
         obtain ⟨t134, A460, H⟩ := H
         replace H : (if t134 = true then (some true) else (gatewardenref15_Holds.l1 k1 (wrap64 (x6_1 + 1)) a0_0 a0_1 l0_2 a0_3 a0_4 l0_5 a1_0 a1_1 a1_2 l1_3 l1_4 l1_5)) = some r := H
         have A46 := Aside0.mk A460
         clear A460
         by_cases c47 : t134 = true
         ·subst c47
          have H1 : (some true) = some r := by rw [if_pos rfl] at H; exact H
          clear H
          have H := H1
          clear H1
          obtain rfl := Option.some.inj H
          have hnb48 := NB126_127.out
          have hnc48 := NB127_126.out
          have hcz49_0 : wr.cell? ⟨gb126, 0, none⟩ = some (.int .i64 a0_0) := (blk_cell BK126.out 0).trans rfl
          have hcz49_1 : wr.cell? ⟨gb126, 1, none⟩ = some (.int .i64 a0_1) := (blk_cell BK126.out 1).trans rfl
          have hcz49_2 : wr.cell? ⟨gb126, 2, none⟩ = some (.slice A0_2 l0_2.length c0_2) := (blk_cell BK126.out 2).trans rfl
          have hcz49_3 : wr.cell? ⟨gb126, 3, none⟩ = some (.float .f64 a0_3) := (blk_cell BK126.out 3).trans rfl
          have hcz49_4 : wr.cell? ⟨gb126, 4, none⟩ = some (.float .f64 a0_4) := (blk_cell BK126.out 4).trans rfl
          have hcz49_5 : wr.cell? ⟨gb126, 5, none⟩ = some (.slice A0_5 l0_5.length c0_5) := (blk_cell BK126.out 5).trans rfl
          have hfz49_0 := blk_frozen BK126.out 0
          have hfz49_1 := blk_frozen BK126.out 1
          have hfz49_2 := blk_frozen BK126.out 2
          have hfz49_3 := blk_frozen BK126.out 3
          have hfz49_4 := blk_frozen BK126.out 4
          have hfz49_5 := blk_frozen BK126.out 5
          try go_wp2
          (try (rw [drewN_self wr]; generalize hq_ : World.drewN wr _ = wr; have n0_ := Aside0.mk (blk_at hq_ BK126.out); have n1_ := Aside0.mk (blk_at hq_ BK127.out); have n2_ := Aside0.mk (below_at hq_ HB.out); clear hq_ BK126 BK127 HB; have BK126 := n0_; have BK127 := n1_; have HB := n2_; clear n0_ n1_ n2_))
          have n0_ := Aside0.mk (blk_drew BK126.out)
          have n1_ := Aside0.mk (blk_drew BK127.out)
          have n2_ := Aside0.mk (below_drew1 HB.out)
          clear BK126
          clear BK127
          clear HB
          have BK126 := n0_
          have BK127 := n1_
          have HB := n2_
          clear n0_ n1_ n2_
          have p133 : 0 ≤ (x6_1 : Int) := of_decide_eq_true (by first | (with_reducible assumption) | assumption)
          have q133 : x6_1 < (l0_5.length : Int) := of_decide_eq_true (by first | (with_reducible assumption) | assumption)
          obtain ⟨ad133, A133_2, c133_2, A133_5, c133_5, e133, hx133_0, hx133_1, hx133_2, hx133_3, hx133_4, hx133_5, hl133_2, hi133_2, hl133_5, hi133_5⟩ := at_T26 HR0_5.out x6_1 p133 q133
          have hw133_5 := hx133_5
          have hw133_4 := hx133_4
          have hw133_3 := hx133_3
          have hw133_2 := hx133_2
          have hw133_1 := hx133_1
          have hw133_0 := hx133_0
          cases e133
          replace hx133_0 := (HB.out.cell (World.block_lt_of_cell? w _ hx133_0)).trans hx133_0
          replace hx133_1 := (HB.out.cell (World.block_lt_of_cell? w _ hx133_1)).trans hx133_1
          replace hx133_2 := (HB.out.cell (World.block_lt_of_cell? w _ hx133_2)).trans hx133_2
          replace hx133_3 := (HB.out.cell (World.block_lt_of_cell? w _ hx133_3)).trans hx133_3
          replace hx133_4 := (HB.out.cell (World.block_lt_of_cell? w _ hx133_4)).trans hx133_4
          replace hx133_5 := (HB.out.cell (World.block_lt_of_cell? w _ hx133_5)).trans hx133_5
          have HR133_2 := Aside0.mk hi133_2
          have HC133_2 := Aside0.mk hl133_2
          clear hi133_2 hl133_2
          have HR133_5 := Aside0.mk hi133_5
          have HC133_5 := Aside0.mk hl133_5
          clear hi133_5 hl133_5
          replace p133 := eq_true p133
          replace q133 := eq_true q133
          refine start_ (n := 7) (S := fun w' => w'.cell? ⟨gb126, 0, none⟩ = some (.int .i64 a0_0) ∧ w'.cell? ⟨gb126, 1, none⟩ = some (.int .i64 a0_1) ∧ w'.cell? ⟨gb126, 2, none⟩ = some (.slice A0_2 l0_2.length c0_2) ∧ w'.cell? ⟨gb126, 3, none⟩ = some (.float .f64 a0_3) ∧ w'.cell? ⟨gb126, 4, none⟩ = some (.float .f64 a0_4) ∧ w'.cell? ⟨gb126, 5, none⟩ = some (.slice (some ad133) l0_5.length c0_5) ∧ w'.cell? ⟨gb127, 0, none⟩ = some (.int .i64 a1_0) ∧ w'.cell? ⟨gb127, 1, none⟩ = some (.int .i64 a1_1) ∧ w'.cell? ⟨gb127, 2, none⟩ = some (.int .i64 a1_2) ∧ w'.cell? ⟨gb127, 3, none⟩ = some (.slice A1_3 l1_3.length c1_3) ∧ w'.cell? ⟨gb127, 4, none⟩ = some (.slice A1_4 l1_4.length c1_4) ∧ w'.cell? ⟨gb127, 5, none⟩ = some (.slice A1_5 l1_5.length c1_5) ∧ w'.cell? (ad133.add ((x6_1).toNat * 6)) = some (.int .i64 ((rd_T26 l0_5 x6_1).f0)) ∧ w'.cell? ⟨(ad133.add ((x6_1).toNat * 6)).block, (ad133.add ((x6_1).toNat * 6)).off + 1, none⟩ = some (.int .i64 ((rd_T26 l0_5 x6_1).f1)) ∧ w'.cell? ⟨(ad133.add ((x6_1).toNat * 6)).block, (ad133.add ((x6_1).toNat * 6)).off + 2, none⟩ = some (.slice A133_2 ((rd_T26 l0_5 x6_1).f2).length c133_2) ∧ w'.cell? ⟨(ad133.add ((x6_1).toNat * 6)).block, (ad133.add ((x6_1).toNat * 6)).off + 3, none⟩ = some (.float .f64 ((rd_T26 l0_5 x6_1).f3)) ∧ w'.cell? ⟨(ad133.add ((x6_1).toNat * 6)).block, (ad133.add ((x6_1).toNat * 6)).off + 4, none⟩ = some (.float .f64 ((rd_T26 l0_5 x6_1).f4)) ∧ w'.cell? ⟨(ad133.add ((x6_1).toNat * 6)).block, (ad133.add ((x6_1).toNat * 6)).off + 5, none⟩ = some (.slice A133_5 ((rd_T26 l0_5 x6_1).f5).length c133_5)) (ds := []) #[false, false, false, false, false, false, false] (by kernel_rfl) rfl rfl ⟨(blk_cell BK126.out 0).trans rfl, (blk_cell BK126.out 1).trans rfl, (blk_cell BK126.out 2).trans rfl, (blk_cell BK126.out 3).trans rfl, (blk_cell BK126.out 4).trans rfl, (blk_cell BK126.out 5).trans rfl, (blk_cell BK127.out 0).trans rfl, (blk_cell BK127.out 1).trans rfl, (blk_cell BK127.out 2).trans rfl, (blk_cell BK127.out 3).trans rfl, (blk_cell BK127.out 4).trans rfl, (blk_cell BK127.out 5).trans rfl, ((HB.out.cell (World.block_lt_of_cell? w _ hw133_0)).trans hw133_0), ((HB.out.cell (World.block_lt_of_cell? w _ hw133_1)).trans hw133_1), ((HB.out.cell (World.block_lt_of_cell? w _ hw133_2)).trans hw133_2), ((HB.out.cell (World.block_lt_of_cell? w _ hw133_3)).trans hw133_3), ((HB.out.cell (World.block_lt_of_cell? w _ hw133_4)).trans hw133_4), ((HB.out.cell (World.block_lt_of_cell? w _ hw133_5)).trans hw133_5)⟩ (fun hHeld => ?_)
          generalize wr.drew = w50 at BK126 BK127 HB HR133_2 HR133_5 hx133_0 hx133_1 hx133_2 hx133_3 hx133_4 hx133_5 hHeld ⊢
          refine pure_ (i := 0) (N := some 49) (v := ?_) (a' := ?_) #[true, false, false, false, false, false, false] rfl rfl (by kernel_rfl) (fun _ _ _ h => h) (Or.inl ⟨by rfl, ?_⟩) ?_ ?_
          rotate_left
          ·intro w'
           go_simp
           with_reducible rfl
          rotate_left
          ·simp only [Act.put, List.setIfInBounds_toArray, List.set_cons_zero, List.set_cons_succ, i64_w, i32_w]
           rfl
          refine pure_ (i := 2) (N := some 51) (v := ?_) (a' := ?_) #[true, false, true, false, false, false, false] rfl rfl (by kernel_rfl) (fun _ _ _ h => h) (Or.inl ⟨by rfl, ?_⟩) ?_ ?_
          rotate_left
          ·intro w'
           go_simp
           with_reducible rfl
          rotate_left
          ·simp only [Act.put, List.setIfInBounds_toArray, List.set_cons_zero, List.set_cons_succ, i64_w, i32_w]
           rfl
          refine take_ (i := 1) (N := some 50) (v := ?_) (a' := ?_) #[true, true, true, false, false, false, false] rfl rfl (by kernel_rfl) (fun _ _ _ h => h) (Or.inl ⟨by rfl, ?_⟩) hHeld ?_ ?_
          rotate_left
          ·rintro w' ⟨s0, s1, s2, s3, s4, s5, s6, s7, s8, s9, s10, s11, s12, s13, s14, s15, s16, s17⟩
           go_simp
           with_reducible rfl
          rotate_left
          ·simp only [Act.put, List.setIfInBounds_toArray, List.set_cons_zero, List.set_cons_succ, i64_w, i32_w]
           rfl
          refine pure_ (i := 3) (N := some 52) (v := ?_) (a' := ?_) #[true, true, true, true, false, false, false] rfl rfl (by kernel_rfl) (fun _ _ _ h => h) (Or.inl ⟨by rfl, ?_⟩) ?_ ?_
          rotate_left
          ·intro w'
           go_simp
           with_reducible rfl
          rotate_left
          ·simp only [Act.put, List.setIfInBounds_toArray, List.set_cons_zero, List.set_cons_succ, i64_w, i32_w]
           rfl
          refine take_ (i := 4) (N := some 53) (v := ?_) (a' := ?_) #[true, true, true, true, true, false, false] rfl rfl (by kernel_rfl) (fun _ _ _ h => h) (Or.inl ⟨by rfl, ?_⟩) hHeld ?_ ?_
          rotate_left
          ·rintro w' ⟨s0, s1, s2, s3, s4, s5, s6, s7, s8, s9, s10, s11, s12, s13, s14, s15, s16, s17⟩
           go_simp
           with_reducible rfl
          rotate_left
          ·simp only [Act.put, List.setIfInBounds_toArray, List.set_cons_zero, List.set_cons_succ, i64_w, i32_w]
           rfl
          refine take_ (i := 5) (N := some 54) (v := ?_) (a' := ?_) #[true, true, true, true, true, true, false] rfl rfl (by kernel_rfl) (fun _ _ _ h => h) (Or.inl ⟨by rfl, ?_⟩) hHeld ?_ ?_
          rotate_left
          ·rintro w' ⟨s0, s1, s2, s3, s4, s5, s6, s7, s8, s9, s10, s11, s12, s13, s14, s15, s16, s17⟩
           go_simp
           with_reducible rfl
          rotate_left
          ·simp only [Act.put, List.setIfInBounds_toArray, List.set_cons_zero, List.set_cons_succ, i64_w, i32_w]
           rfl
          refine one_ (i := 6) (N := some 55) #[true, true, true, true, true, true, true] rfl rfl (by kernel_rfl) (by decide) (fun K hK => ?_)
          refine goes_ Try.func15 (by kernel_rfl) rfl #[.agg #[.int .i64 ((rd_T26 l0_5 x6_1).f0), .int .i64 ((rd_T26 l0_5 x6_1).f1), .slice A133_2 ((rd_T26 l0_5 x6_1).f2).length c133_2, .float .f64 ((rd_T26 l0_5 x6_1).f3), .float .f64 ((rd_T26 l0_5 x6_1).f4), .slice A133_5 ((rd_T26 l0_5 x6_1).f5).length c133_5], .agg #[.int .i64 a1_0, .int .i64 a1_1, .int .i64 a1_2, .slice A1_3 l1_3.length c1_3, .slice A1_4 l1_4.length c1_4, .slice A1_5 l1_5.length c1_5]] (by rfl) rfl rfl (by (try simp only [List.map_toArray, List.map_cons, List.map_nil]); first | done | rfl | (simp only [List.length_drop, List.length_take]; rfl)) ?_
          with_reducible refine (ih k1 (by have := HK1.out; omega) ((rd_T26 l0_5 x6_1).f0) ((rd_T26 l0_5 x6_1).f1) _ _ ((rd_T26 l0_5 x6_1).f2) ((rd_T26 l0_5 x6_1).f3) ((rd_T26 l0_5 x6_1).f4) _ _ ((rd_T26 l0_5 x6_1).f5) a1_0 a1_1 a1_2 _ _ l1_3 _ _ l1_4 _ _ l1_5 true _ ?side1 ?side2 ?side3 ?side4 ?side5 ?side6 ?side7 ?side8 ?side9 ?side10 A46.out).mono ?_
          (case side1 => repeat (first | exact (Kd.C_below HR133_2.out HB.out) | (with_reducible refine Kd.C_alloc ?_ _) | (with_reducible refine Kd.C_drewN ?_ _) | (with_reducible refine Kd.C_drew ?_)))
          (case side2 => exact HC133_2.out)
          (case side3 => repeat (first | exact (Kd.C_below HR133_5.out HB.out) | (with_reducible refine Kd.C_alloc ?_ _) | (with_reducible refine Kd.C_drewN ?_ _) | (with_reducible refine Kd.C_drew ?_)))
          (case side4 => exact HC133_5.out)
          (case side5 => repeat (first | exact (Kd.C_below HR1_3.out HB.out) | (with_reducible refine Kd.C_alloc ?_ _) | (with_reducible refine Kd.C_drewN ?_ _) | (with_reducible refine Kd.C_drew ?_)))
          (case side6 => exact HC1_3.out)
          (case side7 => repeat (first | exact (Kd.C_below HR1_4.out HB.out) | (with_reducible refine Kd.C_alloc ?_ _) | (with_reducible refine Kd.C_drewN ?_ _) | (with_reducible refine Kd.C_drew ?_)))
          (case side8 => exact HC1_4.out)
          (case side9 => repeat (first | exact (Kd.C_below HR1_5.out HB.out) | (with_reducible refine Kd.C_alloc ?_ _) | (with_reducible refine Kd.C_drewN ?_ _) | (with_reducible refine Kd.C_drew ?_)))
          (case side10 => exact HC1_5.out)
          rintro e w51 ⟨rfl, hb⟩
          refine ⟨_, rfl, ?_⟩
          have n0_ := Aside0.mk (blk_below (g := gb126) (o := .cells #[.int .i64 a0_0, .int .i64 a0_1, .slice A0_2 l0_2.length c0_2, .float .f64 a0_3, .float .f64 a0_4, .slice (some ad133) l0_5.length c0_5] 26 (0, 0)) (by (with_reducible repeat (first | refine blk_drewN ?_ _ | refine blk_drew ?_ | refine blk_alloc ?_ _)); exact BK126.out) hb)
          have n1_ := Aside0.mk (blk_below (g := gb127) (o := .cells #[.int .i64 a1_0, .int .i64 a1_1, .int .i64 a1_2, .slice A1_3 l1_3.length c1_3, .slice A1_4 l1_4.length c1_4, .slice A1_5 l1_5.length c1_5] 30 (0, 0)) (by (with_reducible repeat (first | refine blk_drewN ?_ _ | refine blk_drew ?_ | refine blk_alloc ?_ _)); exact BK127.out) hb)
          have n2_ := Aside0.mk (below_step (by repeat (first | (with_reducible first | exact HB.out | apply below_alloc | apply pw_below_drewN | apply below_drew1 | refine below_set ?_ GE126.out | refine below_set ?_ GE127.out) | exact HB.out)) hb)
          clear BK126
          clear BK127
          clear HB
          have BK126 := n0_
          have BK127 := n1_
          have HB := n2_
          clear n0_ n1_ n2_
          (try clear hb)
          (try clear hb2)
          (try clear hk)
          (try clear hi)
          refine hK.out _ _ ⟨(blk_cell BK126.out 0).trans rfl, (blk_cell BK126.out 1).trans rfl, (blk_cell BK126.out 2).trans rfl, (blk_cell BK126.out 3).trans rfl, (blk_cell BK126.out 4).trans rfl, (blk_cell BK126.out 5).trans rfl, (blk_cell BK127.out 0).trans rfl, (blk_cell BK127.out 1).trans rfl, (blk_cell BK127.out 2).trans rfl, (blk_cell BK127.out 3).trans rfl, (blk_cell BK127.out 4).trans rfl, (blk_cell BK127.out 5).trans rfl, ((HB.out.cell (World.block_lt_of_cell? w _ hw133_0)).trans hw133_0), ((HB.out.cell (World.block_lt_of_cell? w _ hw133_1)).trans hw133_1), ((HB.out.cell (World.block_lt_of_cell? w _ hw133_2)).trans hw133_2), ((HB.out.cell (World.block_lt_of_cell? w _ hw133_3)).trans hw133_3), ((HB.out.cell (World.block_lt_of_cell? w _ hw133_4)).trans hw133_4), ((HB.out.cell (World.block_lt_of_cell? w _ hw133_5)).trans hw133_5)⟩ (fun hHeld => ?_)
          clear hK K
          refine norm_ (a' := ?_) ?_ ?_
          rotate_left
          ·show Act.put _ (some 55) _ = _
           simp only [Act.put, List.setIfInBounds_toArray, List.set_cons_zero, List.set_cons_succ, i64_w, i32_w]
           rfl
          refine done_ (by kernel_rfl) ?_
          try go_wp2
          go_ret
          exact ⟨by first | rfl | (simp [errW_none, errW_some] <;> rfl) | (simp [*, errW_none, errW_some] <;> rfl), by repeat (first | (with_reducible first | exact HB.out | apply below_alloc | apply pw_below_drewN | apply below_drew1 | refine below_set ?_ GE126.out | refine below_set ?_ GE127.out) | exact HB.out)⟩
         ·replace c47 := Bool.eq_false_iff.mpr c47
          subst c47
          have H1 : (gatewardenref15_Holds.l1 k1 (wrap64 (x6_1 + 1)) a0_0 a0_1 l0_2 a0_3 a0_4 l0_5 a1_0 a1_1 a1_2 l1_3 l1_4 l1_5) = some r := by rw [if_neg (show ¬ (false = true) by decide)] at H; exact H
          clear H
          have H := H1
          clear H1
          have H' := Aside0.mk H
          clear H
          have hnb52 := NB126_127.out
          have hnc52 := NB127_126.out
          have hcz53_0 : wr.cell? ⟨gb126, 0, none⟩ = some (.int .i64 a0_0) := (blk_cell BK126.out 0).trans rfl
          have hcz53_1 : wr.cell? ⟨gb126, 1, none⟩ = some (.int .i64 a0_1) := (blk_cell BK126.out 1).trans rfl
          have hcz53_2 : wr.cell? ⟨gb126, 2, none⟩ = some (.slice A0_2 l0_2.length c0_2) := (blk_cell BK126.out 2).trans rfl
          have hcz53_3 : wr.cell? ⟨gb126, 3, none⟩ = some (.float .f64 a0_3) := (blk_cell BK126.out 3).trans rfl
          have hcz53_4 : wr.cell? ⟨gb126, 4, none⟩ = some (.float .f64 a0_4) := (blk_cell BK126.out 4).trans rfl
          have hcz53_5 : wr.cell? ⟨gb126, 5, none⟩ = some (.slice A0_5 l0_5.length c0_5) := (blk_cell BK126.out 5).trans rfl
          have hfz53_0 := blk_frozen BK126.out 0
          have hfz53_1 := blk_frozen BK126.out 1
          have hfz53_2 := blk_frozen BK126.out 2
          have hfz53_3 := blk_frozen BK126.out 3
          have hfz53_4 := blk_frozen BK126.out 4
          have hfz53_5 := blk_frozen BK126.out 5
          try go_wp2
          (try (rw [drewN_self wr]; generalize hq_ : World.drewN wr _ = wr; have n0_ := Aside0.mk (blk_at hq_ BK126.out); have n1_ := Aside0.mk (blk_at hq_ BK127.out); have n2_ := Aside0.mk (below_at hq_ HB.out); clear hq_ BK126 BK127 HB; have BK126 := n0_; have BK127 := n1_; have HB := n2_; clear n0_ n1_ n2_))
          have n0_ := Aside0.mk (blk_drew BK126.out)
          have n1_ := Aside0.mk (blk_drew BK127.out)
          have n2_ := Aside0.mk (below_drew1 HB.out)
          clear BK126
          clear BK127
          clear HB
          have BK126 := n0_
          have BK127 := n1_
          have HB := n2_
          clear n0_ n1_ n2_
          have p133 : 0 ≤ (x6_1 : Int) := of_decide_eq_true (by first | (with_reducible assumption) | assumption)
          have q133 : x6_1 < (l0_5.length : Int) := of_decide_eq_true (by first | (with_reducible assumption) | assumption)
          obtain ⟨ad133, A133_2, c133_2, A133_5, c133_5, e133, hx133_0, hx133_1, hx133_2, hx133_3, hx133_4, hx133_5, hl133_2, hi133_2, hl133_5, hi133_5⟩ := at_T26 HR0_5.out x6_1 p133 q133
          have hw133_5 := hx133_5
          have hw133_4 := hx133_4
          have hw133_3 := hx133_3
          have hw133_2 := hx133_2
          have hw133_1 := hx133_1
          have hw133_0 := hx133_0
          cases e133
          replace hx133_0 := (HB.out.cell (World.block_lt_of_cell? w _ hx133_0)).trans hx133_0
          replace hx133_1 := (HB.out.cell (World.block_lt_of_cell? w _ hx133_1)).trans hx133_1
          replace hx133_2 := (HB.out.cell (World.block_lt_of_cell? w _ hx133_2)).trans hx133_2
          replace hx133_3 := (HB.out.cell (World.block_lt_of_cell? w _ hx133_3)).trans hx133_3
          replace hx133_4 := (HB.out.cell (World.block_lt_of_cell? w _ hx133_4)).trans hx133_4
          replace hx133_5 := (HB.out.cell (World.block_lt_of_cell? w _ hx133_5)).trans hx133_5
          have HR133_2 := Aside0.mk hi133_2
          have HC133_2 := Aside0.mk hl133_2
          clear hi133_2 hl133_2
          have HR133_5 := Aside0.mk hi133_5
          have HC133_5 := Aside0.mk hl133_5
          clear hi133_5 hl133_5
          replace p133 := eq_true p133
          replace q133 := eq_true q133
          refine start_ (n := 7) (S := fun w' => w'.cell? ⟨gb126, 0, none⟩ = some (.int .i64 a0_0) ∧ w'.cell? ⟨gb126, 1, none⟩ = some (.int .i64 a0_1) ∧ w'.cell? ⟨gb126, 2, none⟩ = some (.slice A0_2 l0_2.length c0_2) ∧ w'.cell? ⟨gb126, 3, none⟩ = some (.float .f64 a0_3) ∧ w'.cell? ⟨gb126, 4, none⟩ = some (.float .f64 a0_4) ∧ w'.cell? ⟨gb126, 5, none⟩ = some (.slice (some ad133) l0_5.length c0_5) ∧ w'.cell? ⟨gb127, 0, none⟩ = some (.int .i64 a1_0) ∧ w'.cell? ⟨gb127, 1, none⟩ = some (.int .i64 a1_1) ∧ w'.cell? ⟨gb127, 2, none⟩ = some (.int .i64 a1_2) ∧ w'.cell? ⟨gb127, 3, none⟩ = some (.slice A1_3 l1_3.length c1_3) ∧ w'.cell? ⟨gb127, 4, none⟩ = some (.slice A1_4 l1_4.length c1_4) ∧ w'.cell? ⟨gb127, 5, none⟩ = some (.slice A1_5 l1_5.length c1_5) ∧ w'.cell? (ad133.add ((x6_1).toNat * 6)) = some (.int .i64 ((rd_T26 l0_5 x6_1).f0)) ∧ w'.cell? ⟨(ad133.add ((x6_1).toNat * 6)).block, (ad133.add ((x6_1).toNat * 6)).off + 1, none⟩ = some (.int .i64 ((rd_T26 l0_5 x6_1).f1)) ∧ w'.cell? ⟨(ad133.add ((x6_1).toNat * 6)).block, (ad133.add ((x6_1).toNat * 6)).off + 2, none⟩ = some (.slice A133_2 ((rd_T26 l0_5 x6_1).f2).length c133_2) ∧ w'.cell? ⟨(ad133.add ((x6_1).toNat * 6)).block, (ad133.add ((x6_1).toNat * 6)).off + 3, none⟩ = some (.float .f64 ((rd_T26 l0_5 x6_1).f3)) ∧ w'.cell? ⟨(ad133.add ((x6_1).toNat * 6)).block, (ad133.add ((x6_1).toNat * 6)).off + 4, none⟩ = some (.float .f64 ((rd_T26 l0_5 x6_1).f4)) ∧ w'.cell? ⟨(ad133.add ((x6_1).toNat * 6)).block, (ad133.add ((x6_1).toNat * 6)).off + 5, none⟩ = some (.slice A133_5 ((rd_T26 l0_5 x6_1).f5).length c133_5)) (ds := []) #[false, false, false, false, false, false, false] (by kernel_rfl) rfl rfl ⟨(blk_cell BK126.out 0).trans rfl, (blk_cell BK126.out 1).trans rfl, (blk_cell BK126.out 2).trans rfl, (blk_cell BK126.out 3).trans rfl, (blk_cell BK126.out 4).trans rfl, (blk_cell BK126.out 5).trans rfl, (blk_cell BK127.out 0).trans rfl, (blk_cell BK127.out 1).trans rfl, (blk_cell BK127.out 2).trans rfl, (blk_cell BK127.out 3).trans rfl, (blk_cell BK127.out 4).trans rfl, (blk_cell BK127.out 5).trans rfl, ((HB.out.cell (World.block_lt_of_cell? w _ hw133_0)).trans hw133_0), ((HB.out.cell (World.block_lt_of_cell? w _ hw133_1)).trans hw133_1), ((HB.out.cell (World.block_lt_of_cell? w _ hw133_2)).trans hw133_2), ((HB.out.cell (World.block_lt_of_cell? w _ hw133_3)).trans hw133_3), ((HB.out.cell (World.block_lt_of_cell? w _ hw133_4)).trans hw133_4), ((HB.out.cell (World.block_lt_of_cell? w _ hw133_5)).trans hw133_5)⟩ (fun hHeld => ?_)
          generalize wr.drew = w54 at BK126 BK127 HB HR133_2 HR133_5 hx133_0 hx133_1 hx133_2 hx133_3 hx133_4 hx133_5 hHeld ⊢
          refine pure_ (i := 0) (N := some 49) (v := ?_) (a' := ?_) #[true, false, false, false, false, false, false] rfl rfl (by kernel_rfl) (fun _ _ _ h => h) (Or.inl ⟨by rfl, ?_⟩) ?_ ?_
          rotate_left
          ·intro w'
           go_simp
           with_reducible rfl
          rotate_left
          ·simp only [Act.put, List.setIfInBounds_toArray, List.set_cons_zero, List.set_cons_succ, i64_w, i32_w]
           rfl
          refine pure_ (i := 2) (N := some 51) (v := ?_) (a' := ?_) #[true, false, true, false, false, false, false] rfl rfl (by kernel_rfl) (fun _ _ _ h => h) (Or.inl ⟨by rfl, ?_⟩) ?_ ?_
          rotate_left
          ·intro w'
           go_simp
           with_reducible rfl
          rotate_left
          ·simp only [Act.put, List.setIfInBounds_toArray, List.set_cons_zero, List.set_cons_succ, i64_w, i32_w]
           rfl
          refine take_ (i := 1) (N := some 50) (v := ?_) (a' := ?_) #[true, true, true, false, false, false, false] rfl rfl (by kernel_rfl) (fun _ _ _ h => h) (Or.inl ⟨by rfl, ?_⟩) hHeld ?_ ?_
          rotate_left
          ·rintro w' ⟨s0, s1, s2, s3, s4, s5, s6, s7, s8, s9, s10, s11, s12, s13, s14, s15, s16, s17⟩
           go_simp
           with_reducible rfl
          rotate_left
          ·simp only [Act.put, List.setIfInBounds_toArray, List.set_cons_zero, List.set_cons_succ, i64_w, i32_w]
           rfl
          refine pure_ (i := 3) (N := some 52) (v := ?_) (a' := ?_) #[true, true, true, true, false, false, false] rfl rfl (by kernel_rfl) (fun _ _ _ h => h) (Or.inl ⟨by rfl, ?_⟩) ?_ ?_
          rotate_left
          ·intro w'
           go_simp
           with_reducible rfl
          rotate_left
          ·simp only [Act.put, List.setIfInBounds_toArray, List.set_cons_zero, List.set_cons_succ, i64_w, i32_w]
           rfl
          refine take_ (i := 4) (N := some 53) (v := ?_) (a' := ?_) #[true, true, true, true, true, false, false] rfl rfl (by kernel_rfl) (fun _ _ _ h => h) (Or.inl ⟨by rfl, ?_⟩) hHeld ?_ ?_
          rotate_left
          ·rintro w' ⟨s0, s1, s2, s3, s4, s5, s6, s7, s8, s9, s10, s11, s12, s13, s14, s15, s16, s17⟩
           go_simp
           with_reducible rfl
          rotate_left
          ·simp only [Act.put, List.setIfInBounds_toArray, List.set_cons_zero, List.set_cons_succ, i64_w, i32_w]
           rfl
          refine take_ (i := 5) (N := some 54) (v := ?_) (a' := ?_) #[true, true, true, true, true, true, false] rfl rfl (by kernel_rfl) (fun _ _ _ h => h) (Or.inl ⟨by rfl, ?_⟩) hHeld ?_ ?_
          rotate_left
          ·rintro w' ⟨s0, s1, s2, s3, s4, s5, s6, s7, s8, s9, s10, s11, s12, s13, s14, s15, s16, s17⟩
           go_simp
           with_reducible rfl
          rotate_left
          ·simp only [Act.put, List.setIfInBounds_toArray, List.set_cons_zero, List.set_cons_succ, i64_w, i32_w]
           rfl
          refine one_ (i := 6) (N := some 55) #[true, true, true, true, true, true, true] rfl rfl (by kernel_rfl) (by decide) (fun K hK => ?_)
          refine goes_ Try.func15 (by kernel_rfl) rfl #[.agg #[.int .i64 ((rd_T26 l0_5 x6_1).f0), .int .i64 ((rd_T26 l0_5 x6_1).f1), .slice A133_2 ((rd_T26 l0_5 x6_1).f2).length c133_2, .float .f64 ((rd_T26 l0_5 x6_1).f3), .float .f64 ((rd_T26 l0_5 x6_1).f4), .slice A133_5 ((rd_T26 l0_5 x6_1).f5).length c133_5], .agg #[.int .i64 a1_0, .int .i64 a1_1, .int .i64 a1_2, .slice A1_3 l1_3.length c1_3, .slice A1_4 l1_4.length c1_4, .slice A1_5 l1_5.length c1_5]] (by rfl) rfl rfl (by (try simp only [List.map_toArray, List.map_cons, List.map_nil]); first | done | rfl | (simp only [List.length_drop, List.length_take]; rfl)) ?_
          with_reducible refine (ih k1 (by have := HK1.out; omega) ((rd_T26 l0_5 x6_1).f0) ((rd_T26 l0_5 x6_1).f1) _ _ ((rd_T26 l0_5 x6_1).f2) ((rd_T26 l0_5 x6_1).f3) ((rd_T26 l0_5 x6_1).f4) _ _ ((rd_T26 l0_5 x6_1).f5) a1_0 a1_1 a1_2 _ _ l1_3 _ _ l1_4 _ _ l1_5 false _ ?side1 ?side2 ?side3 ?side4 ?side5 ?side6 ?side7 ?side8 ?side9 ?side10 A46.out).mono ?_
          (case side1 => repeat (first | exact (Kd.C_below HR133_2.out HB.out) | (with_reducible refine Kd.C_alloc ?_ _) | (with_reducible refine Kd.C_drewN ?_ _) | (with_reducible refine Kd.C_drew ?_)))
          (case side2 => exact HC133_2.out)
          (case side3 => repeat (first | exact (Kd.C_below HR133_5.out HB.out) | (with_reducible refine Kd.C_alloc ?_ _) | (with_reducible refine Kd.C_drewN ?_ _) | (with_reducible refine Kd.C_drew ?_)))
          (case side4 => exact HC133_5.out)
          (case side5 => repeat (first | exact (Kd.C_below HR1_3.out HB.out) | (with_reducible refine Kd.C_alloc ?_ _) | (with_reducible refine Kd.C_drewN ?_ _) | (with_reducible refine Kd.C_drew ?_)))
          (case side6 => exact HC1_3.out)
          (case side7 => repeat (first | exact (Kd.C_below HR1_4.out HB.out) | (with_reducible refine Kd.C_alloc ?_ _) | (with_reducible refine Kd.C_drewN ?_ _) | (with_reducible refine Kd.C_drew ?_)))
          (case side8 => exact HC1_4.out)
          (case side9 => repeat (first | exact (Kd.C_below HR1_5.out HB.out) | (with_reducible refine Kd.C_alloc ?_ _) | (with_reducible refine Kd.C_drewN ?_ _) | (with_reducible refine Kd.C_drew ?_)))
          (case side10 => exact HC1_5.out)
          rintro e w55 ⟨rfl, hb⟩
          refine ⟨_, rfl, ?_⟩
          have n0_ := Aside0.mk (blk_below (g := gb126) (o := .cells #[.int .i64 a0_0, .int .i64 a0_1, .slice A0_2 l0_2.length c0_2, .float .f64 a0_3, .float .f64 a0_4, .slice (some ad133) l0_5.length c0_5] 26 (0, 0)) (by (with_reducible repeat (first | refine blk_drewN ?_ _ | refine blk_drew ?_ | refine blk_alloc ?_ _)); exact BK126.out) hb)
          have n1_ := Aside0.mk (blk_below (g := gb127) (o := .cells #[.int .i64 a1_0, .int .i64 a1_1, .int .i64 a1_2, .slice A1_3 l1_3.length c1_3, .slice A1_4 l1_4.length c1_4, .slice A1_5 l1_5.length c1_5] 30 (0, 0)) (by (with_reducible repeat (first | refine blk_drewN ?_ _ | refine blk_drew ?_ | refine blk_alloc ?_ _)); exact BK127.out) hb)
          have n2_ := Aside0.mk (below_step (by repeat (first | (with_reducible first | exact HB.out | apply below_alloc | apply pw_below_drewN | apply below_drew1 | refine below_set ?_ GE126.out | refine below_set ?_ GE127.out) | exact HB.out)) hb)
          clear BK126
          clear BK127
          clear HB
          have BK126 := n0_
          have BK127 := n1_
          have HB := n2_
          clear n0_ n1_ n2_
          (try clear hb)
          (try clear hb2)
          (try clear hk)
          (try clear hi)
          refine hK.out _ _ ⟨(blk_cell BK126.out 0).trans rfl, (blk_cell BK126.out 1).trans rfl, (blk_cell BK126.out 2).trans rfl, (blk_cell BK126.out 3).trans rfl, (blk_cell BK126.out 4).trans rfl, (blk_cell BK126.out 5).trans rfl, (blk_cell BK127.out 0).trans rfl, (blk_cell BK127.out 1).trans rfl, (blk_cell BK127.out 2).trans rfl, (blk_cell BK127.out 3).trans rfl, (blk_cell BK127.out 4).trans rfl, (blk_cell BK127.out 5).trans rfl, ((HB.out.cell (World.block_lt_of_cell? w _ hw133_0)).trans hw133_0), ((HB.out.cell (World.block_lt_of_cell? w _ hw133_1)).trans hw133_1), ((HB.out.cell (World.block_lt_of_cell? w _ hw133_2)).trans hw133_2), ((HB.out.cell (World.block_lt_of_cell? w _ hw133_3)).trans hw133_3), ((HB.out.cell (World.block_lt_of_cell? w _ hw133_4)).trans hw133_4), ((HB.out.cell (World.block_lt_of_cell? w _ hw133_5)).trans hw133_5)⟩ (fun hHeld => ?_)
          clear hK K
          refine norm_ (a' := ?_) ?_ ?_
          rotate_left
          ·show Act.put _ (some 55) _ = _
           simp only [Act.put, List.setIfInBounds_toArray, List.set_cons_zero, List.set_cons_succ, i64_w, i32_w]
           rfl
          refine done_ (by kernel_rfl) ?_
          try go_wp2
          go_roundg k1
          case measure => have := HK1.out; omega
          case rel => exact ⟨(wrap64 (x6_1 + 1)), (by first | rfl | (simp; done) | (simp [*]; done)), H', ⟨by have := HK1.out; omega⟩, ⟨by (with_reducible repeat (first | refine blk_drewN ?_ _ | refine blk_drew ?_ | refine blk_alloc ?_ _)); exact BK126.out⟩, ⟨by (with_reducible repeat (first | refine blk_drewN ?_ _ | refine blk_drew ?_ | refine blk_alloc ?_ _)); exact BK127.out⟩, ⟨by repeat (first | (with_reducible first | exact HB.out | apply below_alloc | apply pw_below_drewN | apply below_drew1 | refine below_set ?_ GE126.out | refine below_set ?_ GE127.out) | exact HB.out)⟩⟩
        ·rw [if_neg c45] at H
         exact absurd H (by simp)
       ·rw [if_neg c44] at H
        have c44b0 : decide (x6_1 < (l0_5.length : Int)) = false := decide_eq_false c44
        clear c44
        obtain rfl := Option.some.inj H
        have hnb56 := NB126_127.out
        have hnc56 := NB127_126.out
        have hcz57_0 : wr.cell? ⟨gb126, 0, none⟩ = some (.int .i64 a0_0) := (blk_cell BK126.out 0).trans rfl
        have hcz57_1 : wr.cell? ⟨gb126, 1, none⟩ = some (.int .i64 a0_1) := (blk_cell BK126.out 1).trans rfl
        have hcz57_2 : wr.cell? ⟨gb126, 2, none⟩ = some (.slice A0_2 l0_2.length c0_2) := (blk_cell BK126.out 2).trans rfl
        have hcz57_3 : wr.cell? ⟨gb126, 3, none⟩ = some (.float .f64 a0_3) := (blk_cell BK126.out 3).trans rfl
        have hcz57_4 : wr.cell? ⟨gb126, 4, none⟩ = some (.float .f64 a0_4) := (blk_cell BK126.out 4).trans rfl
        have hcz57_5 : wr.cell? ⟨gb126, 5, none⟩ = some (.slice A0_5 l0_5.length c0_5) := (blk_cell BK126.out 5).trans rfl
        have hfz57_0 := blk_frozen BK126.out 0
        have hfz57_1 := blk_frozen BK126.out 1
        have hfz57_2 := blk_frozen BK126.out 2
        have hfz57_3 := blk_frozen BK126.out 3
        have hfz57_4 := blk_frozen BK126.out 4
        have hfz57_5 := blk_frozen BK126.out 5
        go_wp2
        go_ret
        exact ⟨by first | rfl | (simp [errW_none, errW_some] <;> rfl) | (simp [*, errW_none, errW_some] <;> rfl), by repeat (first | (with_reducible first | exact HB.out | apply below_alloc | apply pw_below_drewN | apply below_drew1 | refine below_set ?_ GE126.out | refine below_set ?_ GE127.out) | exact HB.out)⟩
    ·rw [if_neg c39] at H
     have c39b0 : (a0_0 == 4) = false := beq_eq_false_iff_ne.mpr c39
     have c39b1 : (a0_0 != 4) = true := bne_iff_ne.mpr c39
     obtain rfl := Option.some.inj H
     go_enter Try.func15, Try.ntmps15
     go_wp2_with (first | ((with_reducible refine gate_dst (N := 2) rfl ?_); refine box_event ?hg (N := 2) ?hd (cs := #[.int .i64 a0_0, .int .i64 a0_1, .slice A0_2 l0_2.length c0_2, .float .f64 a0_3, .float .f64 a0_4, .slice A0_5 l0_5.length c0_5]) (t := 26) ?hr ?_; (case hd => rfl); (case hg => rfl); (case hr => first | (go_simp; done) | (go_simp; rfl)); intro gb126 hg w58 hbox hb; have n0_ := Aside0.mk (below_step (by repeat (first | (with_reducible first | exact HB.out | apply below_alloc | apply pw_below_drewN | apply below_drew1) | exact HB.out)) hb); have n1_ := Aside0.mk (hbox); have n2_ := Aside0.mk ((by rw [hg]; exact (below_size (by repeat (first | (with_reducible first | exact HB.out | apply below_alloc | apply pw_below_drewN | apply below_drew1) | exact HB.out))) : w.heap.size ≤ gb126)); have n3_ := Aside0.mk ((by rw [hg]; exact (below_size (by repeat (first | (with_reducible first | exact HB.out | apply below_alloc | apply pw_below_drewN | apply below_drew1) | exact HB.out))) : w.heap.size ≤ gb126)); clear HB; have HB := n0_; have BK126 := n1_; have GW126 := n2_; have GE126 := n3_; clear n0_ n1_ n2_ n3_; clear hb hbox hg) | ((with_reducible refine gate_dst (N := 3) rfl ?_); refine box_event ?hg (N := 3) ?hd (cs := #[.int .i64 a1_0, .int .i64 a1_1, .int .i64 a1_2, .slice A1_3 l1_3.length c1_3, .slice A1_4 l1_4.length c1_4, .slice A1_5 l1_5.length c1_5]) (t := 30) ?hr ?_; (case hd => rfl); (case hg => rfl); (case hr => first | (go_simp; done) | (go_simp; rfl)); intro gb127 hg w59 hbox hb; have n0_ := Aside0.mk (blk_below (g := gb126) (o := .cells #[.int .i64 a0_0, .int .i64 a0_1, .slice A0_2 l0_2.length c0_2, .float .f64 a0_3, .float .f64 a0_4, .slice A0_5 l0_5.length c0_5] 26 (0, 0)) (by (with_reducible repeat (first | refine blk_drewN ?_ _ | refine blk_drew ?_ | refine blk_alloc ?_ _)); exact BK126.out) hb); have n1_ := Aside0.mk (below_step (by repeat (first | (with_reducible first | exact HB.out | apply below_alloc | apply pw_below_drewN | apply below_drew1 | refine below_set ?_ GE126.out) | exact HB.out)) hb); have n2_ := Aside0.mk (hbox); have n3_ := Aside0.mk ((by rw [hg]; exact (below_size (by repeat (first | (with_reducible first | exact HB.out | apply below_alloc | apply pw_below_drewN | apply below_drew1 | refine below_set ?_ GE126.out) | exact HB.out))) : w.heap.size ≤ gb127)); have n4_ := Aside0.mk ((by rw [hg]; exact (below_size (by repeat (first | (with_reducible first | exact HB.out | apply below_alloc | apply pw_below_drewN | apply below_drew1 | refine below_set ?_ GE126.out) | exact HB.out))) : w.heap.size ≤ gb127)); have n5_ := Aside0.mk ((by rw [hg]; exact Nat.ne_of_lt (blk_lt (g := gb126) (o := .cells #[.int .i64 a0_0, .int .i64 a0_1, .slice A0_2 l0_2.length c0_2, .float .f64 a0_3, .float .f64 a0_4, .slice A0_5 l0_5.length c0_5] 26 (0, 0)) (by (with_reducible repeat (first | refine blk_drewN ?_ _ | refine blk_drew ?_ | refine blk_alloc ?_ _)); exact BK126.out)) : gb126 ≠ gb127)); have n6_ := Aside0.mk ((by rw [hg]; exact Nat.ne_of_gt (blk_lt (g := gb126) (o := .cells #[.int .i64 a0_0, .int .i64 a0_1, .slice A0_2 l0_2.length c0_2, .float .f64 a0_3, .float .f64 a0_4, .slice A0_5 l0_5.length c0_5] 26 (0, 0)) (by (with_reducible repeat (first | refine blk_drewN ?_ _ | refine blk_drew ?_ | refine blk_alloc ?_ _)); exact BK126.out)) : gb127 ≠ gb126)); clear BK126; clear HB; have BK126 := n0_; have HB := n1_; have BK127 := n2_; have GW127 := n3_; have GE127 := n4_; have NB126_127 := n5_; have NB127_126 := n6_; clear n0_ n1_ n2_ n3_ n4_ n5_ n6_; clear hb hbox hg; have hnb60 := NB126_127.out; have hnc60 := NB127_126.out; have hcz61_0 : w59.cell? ⟨gb126, 0, none⟩ = some (.int .i64 a0_0) := (blk_cell BK126.out 0).trans rfl; have hcz61_1 : w59.cell? ⟨gb126, 1, none⟩ = some (.int .i64 a0_1) := (blk_cell BK126.out 1).trans rfl; have hcz61_2 : w59.cell? ⟨gb126, 2, none⟩ = some (.slice A0_2 l0_2.length c0_2) := (blk_cell BK126.out 2).trans rfl; have hcz61_3 : w59.cell? ⟨gb126, 3, none⟩ = some (.float .f64 a0_3) := (blk_cell BK126.out 3).trans rfl; have hcz61_4 : w59.cell? ⟨gb126, 4, none⟩ = some (.float .f64 a0_4) := (blk_cell BK126.out 4).trans rfl; have hcz61_5 : w59.cell? ⟨gb126, 5, none⟩ = some (.slice A0_5 l0_5.length c0_5) := (blk_cell BK126.out 5).trans rfl; have hfz61_0 := blk_frozen BK126.out 0; have hfz61_1 := blk_frozen BK126.out 1; have hfz61_2 := blk_frozen BK126.out 2; have hfz61_3 := blk_frozen BK126.out 3; have hfz61_4 := blk_frozen BK126.out 4; have hfz61_5 := blk_frozen BK126.out 5))
     go_ret
     exact ⟨by first | rfl | (simp [errW_none, errW_some] <;> rfl) | (simp [*, errW_none, errW_some] <;> rfl), by repeat (first | (with_reducible first | exact HB.out | apply below_alloc | apply pw_below_drewN | apply below_drew1 | refine below_set ?_ GE126.out | refine below_set ?_ GE127.out) | exact HB.out)⟩
end Go.Proofs.Ytppmcbkcohiodaa.PMeanTells
