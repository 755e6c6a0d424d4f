/- Texts of this claim, put together (wip/pack.py): PAskSizesy11. -/
import Derived.Test.YtinoabkfekomcaaK1
import Derived.Test.YtinoabkfekomcaaK9
import Derived.Test.YtinoabkfekomcaaK11
import Derived.Test.YtinoabkfekomcaaK12
namespace Go.Proofs.Ytinoabkfekomcaa.PAskSizes
open Go.RowKit Go.Proofs.YtinoabkfekomcaaW.PrintWords Go.Proofs.YtinoabkfekomcaaW.PrintLast Go.Proofs.YtinoabkfekomcaaW.PrintMore
attribute [local go_sem] read_m0 read_m1 read_m2 read_look max2_int min2_int max_two min_two max_three min_three max_four min_four   -- for this text's walks alone
set_option linter.unusedVariables false
set_option linter.unusedSimpArgs false

/-! ### gatewardenref06_Put: function 32 -/
def gatewardenref06_Put.j0 : Nat → ByteArray → Int → Int → Int → Int → Int → List Int → Option (ByteArray × Bool)
 | 0, _, _, _, _, _, _, _ => none
 | k + 1, x4, x263000, x263001, x263002, x263003, x263004, x263005 => (gatewardenref06_writes.f x263000).bind fun bt270 => (if bt270.1 = 0 then (some (x4, true)) else ((gatewardenref01_Of.f x263003).bind fun t273 => (if x4.size + t273.size ≤ 9223372036854775807 then ((gatewardenref01_PutAll.f k x263005).bind fun bt274 => (if x263000 = 5 then (if 0 < (x263005.length : Int) then ((gatewardenref01_Of.f (wrap64 (65280 * (rd x263005 0)))).bind fun t277 => (if (x4 ++ t273).size + t277.size ≤ 9223372036854775807 then (some ((x4 ++ t273) ++ t277, true)) else (none))) else (none)) else (if x263000 = 6 then (if (x4 ++ t273).size + bt274.1.size ≤ 9223372036854775807 then (some ((x4 ++ t273) ++ bt274.1, true)) else (none)) else (if x263000 = 22 then (if (x4 ++ t273).size + bt274.1.size ≤ 9223372036854775807 then (some ((x4 ++ t273) ++ bt274.1, true)) else (none)) else (if bt270.2.2 = 1 then ((gatewardenref05_Put.f k x263005).bind fun bt278 => ((gatewardenref01_Of.f x263004).bind fun t280 => (if (x4 ++ t273).size + t280.size ≤ 9223372036854775807 then ((some (([((bt278.1.size : Int)) % 256] : List Int) : List Int)).bind fun y281 => (if ((x4 ++ t273) ++ t280).size + (strOfNums y281).size ≤ 9223372036854775807 then (if (((x4 ++ t273) ++ t280) ++ (strOfNums y281)).size + bt278.1.size ≤ 9223372036854775807 then (some ((((x4 ++ t273) ++ t280) ++ (strOfNums y281)) ++ bt278.1, true)) else (none)) else (none))) else (none)))) else ((gatewardenref01_Of.f x263004).bind fun t284 => (if (x4 ++ t273).size + t284.size ≤ 9223372036854775807 then ((some (([((bt274.1.size : Int)) % 256] : List Int) : List Int)).bind fun y285 => (if ((x4 ++ t273) ++ t284).size + (strOfNums y285).size ≤ 9223372036854775807 then (if (((x4 ++ t273) ++ t284) ++ (strOfNums y285)).size + bt274.1.size ≤ 9223372036854775807 then (some ((((x4 ++ t273) ++ t284) ++ (strOfNums y285)) ++ bt274.1, true)) else (none)) else (none))) else (none)))))))) else (none))))
def gatewardenref06_Put.f (k : Nat) (a0_0 : Int) (a0_1 : Int) (a0_2 : Int) (a0_3 : Int) (a0_4 : Int) (l0_5 : List Int) : Option (ByteArray × Bool) := (gatewardenref06_Right.f k a0_0 a0_1 a0_2 a0_3 a0_4 l0_5).bind fun t263 => (if t263 = true then ((some (([(a0_0) % 256] : List Int) : List Int)).bind fun y264 => ((gatewardenref06_reads.f k a0_0).bind fun t267 => (if t267 > 0 then ((gatewardenref01_Of.f a0_1).bind fun t268 => (if (strOfNums y264).size + t268.size ≤ 9223372036854775807 then ((gatewardenref01_Of.f a0_2).bind fun t269 => (if ((strOfNums y264) ++ t268).size + t269.size ≤ 9223372036854775807 then (gatewardenref06_Put.j0 k (((strOfNums y264) ++ t268) ++ t269) a0_0 a0_1 a0_2 a0_3 a0_4 l0_5) else (none))) else (none))) else (gatewardenref06_Put.j0 k (strOfNums y264) a0_0 a0_1 a0_2 a0_3 a0_4 l0_5)))) else (some ((⟨#[]⟩ : ByteArray), false)))
theorem gatewardenref06_Put.mono_l : ∀ k, (∀ y0 y1 y2 y3 y4 y5 y6, LeO (gatewardenref06_Put.j0 k y0 y1 y2 y3 y4 y5 y6) (gatewardenref06_Put.j0 (k + 1) y0 y1 y2 y3 y4 y5 y6))
 | 0 => fun _ _ _ _ _ _ _ r h => by simp [gatewardenref06_Put.j0] at h
 | k + 1 => by
  have ih0 := gatewardenref06_Put.mono_l k
  ·intro y0 y1 y2 y3 y4 y5 y6
   unfold gatewardenref06_Put.j0
   repeat' first
   | (with_reducible exact ih0 _ _ _ _ _ _ _)
   | (with_reducible exact gatewardenref01_PutAll.mono _ _)
   | (with_reducible exact gatewardenref05_Put.mono _ _)
   | (with_reducible exact gatewardenref06_Right.mono _ _ _ _ _ _ _)
   | (with_reducible exact gatewardenref06_reads.mono _ _)
   | (with_reducible exact LeO.refl _)
   | (with_reducible exact LeO.none _)
   | (with_reducible refine LeO.ite ?_ ?_)
   | (with_reducible refine LeO.bind ?_ (fun _ => ?_))
   | exact ih0 _ _ _ _ _ _ _
   | exact gatewardenref01_PutAll.mono _ _
   | exact gatewardenref05_Put.mono _ _
   | exact gatewardenref06_Right.mono _ _ _ _ _ _ _
   | exact gatewardenref06_reads.mono _ _
   | exact LeO.none _
   | refine LeO.ite ?_ ?_
   | refine LeO.bind ?_ (fun _ => ?_)
theorem gatewardenref06_Put.mono : ∀ a0 a1 a2 a3 a4 a5 k, LeO (gatewardenref06_Put.f k a0 a1 a2 a3 a4 a5) (gatewardenref06_Put.f (k + 1) a0 a1 a2 a3 a4 a5) := by
 intro a0 a1 a2 a3 a4 a5 k
 have ih0 := gatewardenref06_Put.mono_l k
 unfold gatewardenref06_Put.f
 repeat' first
   | (with_reducible exact ih0 _ _ _ _ _ _ _)
   | (with_reducible exact gatewardenref01_PutAll.mono _ _)
   | (with_reducible exact gatewardenref05_Put.mono _ _)
   | (with_reducible exact gatewardenref06_Right.mono _ _ _ _ _ _ _)
   | (with_reducible exact gatewardenref06_reads.mono _ _)
   | (with_reducible exact LeO.refl _)
   | (with_reducible exact LeO.none _)
   | (with_reducible refine LeO.ite ?_ ?_)
   | (with_reducible refine LeO.bind ?_ (fun _ => ?_))
   | exact ih0 _ _ _ _ _ _ _
   | exact gatewardenref01_PutAll.mono _ _
   | exact gatewardenref05_Put.mono _ _
   | exact gatewardenref06_Right.mono _ _ _ _ _ _ _
   | exact gatewardenref06_reads.mono _ _
   | exact LeO.none _
   | refine LeO.ite ?_ ?_
   | refine LeO.bind ?_ (fun _ => ?_)
def gatewardenref06_Put.T5 : Bool × List (List Nat × List Nat) := (true, [([], []), ([], []), ([1], [1]), ([2], [2]), ([0, 3], [0, 3]), ([], []), ([5], [5]), ([6, 3], [6]), ([4, 7], [4, 7]), ([8, 7, 0, 1, 2, 3, 4, 5, 6, 7, 8], [0, 8])])
def gatewardenref06_Put.B5 : List Nat := [0, 0, 2, 6, 15, 0, 32, 110, 255, 511]
theorem gatewardenref06_Put.tab5 : rtab .any (opsOf Try.f32 5) = gatewardenref06_Put.T5 := by kernel_rfl
theorem gatewardenref06_Put.bits5 : waitsOk gatewardenref06_Put.T5.2 gatewardenref06_Put.B5 = true := by kernel_rfl
def gatewardenref06_Put.T19 : Bool × List (List Nat × List Nat) := (true, [([], []), ([], []), ([1], [1]), ([2], [2]), ([0, 3], [0, 3]), ([], []), ([5], [5]), ([6], [6]), ([7], [7]), ([8], [8]), ([4, 9], [4, 9]), ([], []), ([10, 11], [10, 11]), ([12, 3, 0, 1, 2, 3, 4, 5, 6, 7, 8, 9, 10, 11, 12], [12]), ([13, 0, 1, 2, 3, 4, 5, 6, 7, 8, 9, 10, 11, 12, 13], [])])
def gatewardenref06_Put.B19 : List Nat := [0, 0, 2, 6, 15, 0, 32, 96, 224, 480, 1023, 0, 4095, 8191, 16383]
theorem gatewardenref06_Put.tab19 : rtab .any (opsOf Try.f32 19) = gatewardenref06_Put.T19 := by kernel_rfl
theorem gatewardenref06_Put.bits19 : waitsOk gatewardenref06_Put.T19.2 gatewardenref06_Put.B19 = true := by kernel_rfl
set_option maxHeartbeats 8000000 in
set_option maxRecDepth 100000 in
theorem gatewardenref06_Put.calls (k : Nat) (a0_0 : Int) (a0_1 : Int) (a0_2 : Int) (a0_3 : Int) (a0_4 : Int) (A0_5 : Option Addr) (c0_5 : Nat) (l0_5 : List Int) (r1 : ByteArray) (r2 : Bool) (w : World) (hr0_5 : Kd.C (Kd.int .i64) w A0_5 l0_5.length l0_5) (hc0_5 : l0_5.length ≤ c0_5) (h : gatewardenref06_Put.f k a0_0 a0_1 a0_2 a0_3 a0_4 l0_5 = some (r1, r2)) :
  Calls Try.prog 32 #[.agg #[.int .i64 a0_0, .int .i64 a0_1, .int .i64 a0_2, .int .i64 a0_3, .int .i64 a0_4, .slice A0_5 l0_5.length c0_5]] w fun e w' => e = .returned (.tuple #[.string r1, .bool r2]) ∧ Below w.heap.size w w' := by
 have hu24 := Try.underlying24
 have HR0_5 := Aside0.mk hr0_5
 have HC0_5 := Aside0.mk hc0_5
 clear hr0_5 hc0_5
 have HB := Aside0.mk (Below.refl w.heap.size w)
 have H : ((gatewardenref06_Right.f k a0_0 a0_1 a0_2 a0_3 a0_4 l0_5).bind fun t263 => (if t263 = true then ((some (([(a0_0) % 256] : List Int) : List Int)).bind fun y264 => ((gatewardenref06_reads.f k a0_0).bind fun t267 => (if t267 > 0 then ((gatewardenref01_Of.f a0_1).bind fun t268 => (if (strOfNums y264).size + t268.size ≤ 9223372036854775807 then ((gatewardenref01_Of.f a0_2).bind fun t269 => (if ((strOfNums y264) ++ t268).size + t269.size ≤ 9223372036854775807 then (gatewardenref06_Put.j0 k (((strOfNums y264) ++ t268) ++ t269) a0_0 a0_1 a0_2 a0_3 a0_4 l0_5) else (none))) else (none))) else (gatewardenref06_Put.j0 k (strOfNums y264) a0_0 a0_1 a0_2 a0_3 a0_4 l0_5)))) else (some ((⟨#[]⟩ : ByteArray), false)))) = some (r1, r2) := h
 clear h
 replace H := Option.bind_eq_some_iff.mp H
 obtain ⟨t263, A20, H⟩ := H
 replace H : (if t263 = true then ((some (([(a0_0) % 256] : List Int) : List Int)).bind fun y264 => ((gatewardenref06_reads.f k a0_0).bind fun t267 => (if t267 > 0 then ((gatewardenref01_Of.f a0_1).bind fun t268 => (if (strOfNums y264).size + t268.size ≤ 9223372036854775807 then ((gatewardenref01_Of.f a0_2).bind fun t269 => (if ((strOfNums y264) ++ t268).size + t269.size ≤ 9223372036854775807 then (gatewardenref06_Put.j0 k (((strOfNums y264) ++ t268) ++ t269) a0_0 a0_1 a0_2 a0_3 a0_4 l0_5) else (none))) else (none))) else (gatewardenref06_Put.j0 k (strOfNums y264) a0_0 a0_1 a0_2 a0_3 a0_4 l0_5)))) else (some ((⟨#[]⟩ : ByteArray), false))) = some (r1, r2) := H
 have A2 := Aside0.mk A20
 clear A20
 by_cases c3 : t263 = true
 ·subst c3
  have H1 : ((some (([(a0_0) % 256] : List Int) : List Int)).bind fun y264 => ((gatewardenref06_reads.f k a0_0).bind fun t267 => (if t267 > 0 then ((gatewardenref01_Of.f a0_1).bind fun t268 => (if (strOfNums y264).size + t268.size ≤ 9223372036854775807 then ((gatewardenref01_Of.f a0_2).bind fun t269 => (if ((strOfNums y264) ++ t268).size + t269.size ≤ 9223372036854775807 then (gatewardenref06_Put.j0 k (((strOfNums y264) ++ t268) ++ t269) a0_0 a0_1 a0_2 a0_3 a0_4 l0_5) else (none))) else (none))) else (gatewardenref06_Put.j0 k (strOfNums y264) a0_0 a0_1 a0_2 a0_3 a0_4 l0_5)))) = some (r1, r2) := by rw [if_pos rfl] at H; exact H
  clear H
  have H := H1
  clear H1
  obtain ⟨y264, hy264⟩ : ∃ y_ : List Int, y_ = (([(a0_0) % 256] : List Int)) := ⟨_, rfl⟩
  replace H : ((gatewardenref06_reads.f k a0_0).bind fun t267 => (if t267 > 0 then ((gatewardenref01_Of.f a0_1).bind fun t268 => (if (strOfNums y264).size + t268.size ≤ 9223372036854775807 then ((gatewardenref01_Of.f a0_2).bind fun t269 => (if ((strOfNums y264) ++ t268).size + t269.size ≤ 9223372036854775807 then (gatewardenref06_Put.j0 k (((strOfNums y264) ++ t268) ++ t269) a0_0 a0_1 a0_2 a0_3 a0_4 l0_5) else (none))) else (none))) else (gatewardenref06_Put.j0 k (strOfNums y264) a0_0 a0_1 a0_2 a0_3 a0_4 l0_5))) = some (r1, r2) := by first | (rw [hy264]; with_reducible exact H) | (have H2_ := (Option.bind_some _ _).symm.trans H; rw [hy264]; with_reducible exact H2_) | (have H2_ := (Option.bind_some _ _).symm.trans H; with_reducible exact H2_) | with_reducible exact H | (rw [hy264]; exact H) | exact H
  have Ny264 := Aside0.mk hy264
  clear hy264
  replace H := Option.bind_eq_some_iff.mp H
  obtain ⟨t267, A40, H⟩ := H
  replace H : (if t267 > 0 then ((gatewardenref01_Of.f a0_1).bind fun t268 => (if (strOfNums y264).size + t268.size ≤ 9223372036854775807 then ((gatewardenref01_Of.f a0_2).bind fun t269 => (if ((strOfNums y264) ++ t268).size + t269.size ≤ 9223372036854775807 then (gatewardenref06_Put.j0 k (((strOfNums y264) ++ t268) ++ t269) a0_0 a0_1 a0_2 a0_3 a0_4 l0_5) else (none))) else (none))) else (gatewardenref06_Put.j0 k (strOfNums y264) a0_0 a0_1 a0_2 a0_3 a0_4 l0_5)) = some (r1, r2) := H
  have A4 := Aside0.mk A40
  clear A40
  have HC5 := Aside0.mk H
  clear H
  go_enter Try.func32, Try.ntmps32
  go_upto_if 21 with (first | ((with_reducible refine gate_dst (N := 1) rfl ?_); refine box_event ?hg (N := 1) ?hd (cs := #[.int .i64 a0_0, .int .i64 a0_1, .int .i64 a0_2, .int .i64 a0_3, .int .i64 a0_4, .slice A0_5 l0_5.length c0_5]) (t := 24) ?hr ?_; (case hd => rfl); (case hg => rfl); (case hr => first | (go_simp; done) | (go_simp; rfl)); intro gb262 hg w6 hbox hb; have n0_ := Aside0.mk (below_step (by repeat (first | (with_reducible first | exact HB.out | apply below_alloc | apply pw_below_drewN | apply below_drew1) | exact HB.out)) hb); have n1_ := Aside0.mk (hbox); have n2_ := Aside0.mk ((by rw [hg]; exact (below_size (by repeat (first | (with_reducible first | exact HB.out | apply below_alloc | apply pw_below_drewN | apply below_drew1) | exact HB.out))) : w.heap.size ≤ gb262)); have n3_ := Aside0.mk ((by rw [hg]; exact (below_size (by repeat (first | (with_reducible first | exact HB.out | apply below_alloc | apply pw_below_drewN | apply below_drew1) | exact HB.out))) : w.heap.size ≤ gb262)); clear HB; have HB := n0_; have BK262 := n1_; have GW262 := n2_; have GE262 := n3_; clear n0_ n1_ n2_ n3_; clear hb hbox hg; have hcz7_0 : w6.cell? ⟨gb262, 0, none⟩ = some (.int .i64 a0_0) := (blk_cell BK262.out 0).trans rfl; have hcz7_1 : w6.cell? ⟨gb262, 1, none⟩ = some (.int .i64 a0_1) := (blk_cell BK262.out 1).trans rfl; have hcz7_2 : w6.cell? ⟨gb262, 2, none⟩ = some (.int .i64 a0_2) := (blk_cell BK262.out 2).trans rfl; have hcz7_3 : w6.cell? ⟨gb262, 3, none⟩ = some (.int .i64 a0_3) := (blk_cell BK262.out 3).trans rfl; have hcz7_4 : w6.cell? ⟨gb262, 4, none⟩ = some (.int .i64 a0_4) := (blk_cell BK262.out 4).trans rfl; have hcz7_5 : w6.cell? ⟨gb262, 5, none⟩ = some (.slice A0_5 l0_5.length c0_5) := (blk_cell BK262.out 5).trans rfl; have hfz7_0 := blk_frozen BK262.out 0; have hfz7_1 := blk_frozen BK262.out 1; have hfz7_2 := blk_frozen BK262.out 2; have hfz7_3 := blk_frozen BK262.out 3; have hfz7_4 := blk_frozen BK262.out 4; have hfz7_5 := blk_frozen BK262.out 5) | ((with_reducible refine gate_callee (f := 31) rfl ?_); refine goesL_ (some 11) rfl rfl Try.func31 (by kernel_rfl) rfl #[.agg #[.int .i64 a0_0, .int .i64 a0_1, .int .i64 a0_2, .int .i64 a0_3, .int .i64 a0_4, .slice A0_5 l0_5.length c0_5]] rfl (by (try simp only [List.map_toArray, List.map_cons, List.map_nil]); first | done | rfl | (simp only [List.length_drop, List.length_take]; rfl)) ?_; (with_reducible refine (gatewardenref06_Right.calls k a0_0 a0_1 a0_2 a0_3 a0_4 _ _ l0_5 true _ ?side1 ?side2 A2.out).mono ?_); (case side1 => repeat (first | exact (Kd.C_below HR0_5.out HB.out) | (with_reducible refine Kd.C_alloc ?_ _) | (with_reducible refine Kd.C_drewN ?_ _) | (with_reducible refine Kd.C_drew ?_))); (case side2 => exact HC0_5.out); rintro e w8 ⟨rfl, hb⟩; refine ⟨_, rfl, ?_⟩; have n0_ := Aside0.mk (blk_below (g := gb262) (o := .cells #[.int .i64 a0_0, .int .i64 a0_1, .int .i64 a0_2, .int .i64 a0_3, .int .i64 a0_4, .slice A0_5 l0_5.length c0_5] 24 (0, 0)) (by (with_reducible repeat (first | refine blk_drewN ?_ _ | refine blk_drew ?_ | refine blk_alloc ?_ _)); exact BK262.out) hb); have n1_ := Aside0.mk (below_step (by repeat (first | (with_reducible first | exact HB.out | apply below_alloc | apply pw_below_drewN | apply below_drew1 | refine below_set ?_ GE262.out) | exact HB.out)) hb); clear BK262; clear HB; have BK262 := n0_; have HB := n1_; clear n0_ n1_; (try clear hb); (try clear hb2); (try clear hk); (try clear hi); have hcz9_0 : w8.cell? ⟨gb262, 0, none⟩ = some (.int .i64 a0_0) := (blk_cell BK262.out 0).trans rfl; have hcz9_1 : w8.cell? ⟨gb262, 1, none⟩ = some (.int .i64 a0_1) := (blk_cell BK262.out 1).trans rfl; have hcz9_2 : w8.cell? ⟨gb262, 2, none⟩ = some (.int .i64 a0_2) := (blk_cell BK262.out 2).trans rfl; have hcz9_3 : w8.cell? ⟨gb262, 3, none⟩ = some (.int .i64 a0_3) := (blk_cell BK262.out 3).trans rfl; have hcz9_4 : w8.cell? ⟨gb262, 4, none⟩ = some (.int .i64 a0_4) := (blk_cell BK262.out 4).trans rfl; have hcz9_5 : w8.cell? ⟨gb262, 5, none⟩ = some (.slice A0_5 l0_5.length c0_5) := (blk_cell BK262.out 5).trans rfl; have hfz9_0 := blk_frozen BK262.out 0; have hfz9_1 := blk_frozen BK262.out 1; have hfz9_2 := blk_frozen BK262.out 2; have hfz9_3 := blk_frozen BK262.out 3; have hfz9_4 := blk_frozen BK262.out 4; have hfz9_5 := blk_frozen BK262.out 5) | ((with_reducible refine gate_dst (N := 16) rfl ?_); refine Kd.R_lit (Kd.int .u8) _ 5 ?hg (N := 16) ?hd (xs := ([(a0_0) % 256] : List Int)) (inner := [.int .u8 ((a0_0) % 256)]) (ok := fun _ => True) (okp := fun _ => True) ?hr ?hp (fun _ hk => hk) trivial (Below.refl _ _) (Nat.le_refl _) (by simp) ?_; (case hd => rfl); (case hg => rfl); (case hr => first | (go_simp; done) | (go_simp; rfl)); (case hp => exact (Reps.one (show Kd.M (Kd.int .u8) _ _ _ ((a0_0) % 256) [.int .u8 ((a0_0) % 256)] from rfl) (Reps.none _ _))); intro v265 w10 ho11 hb hg_ hnew_; clear hg_ hnew_; (first | rw [← Ny264.out] at ho11 | (simp only [Int.reduceToNat] at ho11; rw [← Ny264.out] at ho11)); have n0_ := Aside0.mk (Kd.R_lower ho11 (below_size (by repeat (first | (with_reducible first | exact HB.out | apply below_alloc | apply pw_below_drewN | apply below_drew1 | refine below_set ?_ GE262.out) | exact HB.out)))); have n1_ := Aside0.mk (blk_below (g := gb262) (o := .cells #[.int .i64 a0_0, .int .i64 a0_1, .int .i64 a0_2, .int .i64 a0_3, .int .i64 a0_4, .slice A0_5 l0_5.length c0_5] 24 (0, 0)) (by (with_reducible repeat (first | refine blk_drewN ?_ _ | refine blk_drew ?_ | refine blk_alloc ?_ _)); exact BK262.out) hb); have n2_ := Aside0.mk (below_step (by repeat (first | (with_reducible first | exact HB.out | apply below_alloc | apply pw_below_drewN | apply below_drew1 | refine below_set ?_ GE262.out) | exact HB.out)) hb); clear BK262; clear HB; have HO266 := n0_; have BK262 := n1_; have HB := n2_; clear n0_ n1_ n2_; clear hb ho11; have hcv12 := own_string (P := Try.prog) Try.underlying34 Try.underlying5 Try.underlying9 (Kd.own_of_R HO266.out); have hcz13_0 : w10.cell? ⟨gb262, 0, none⟩ = some (.int .i64 a0_0) := (blk_cell BK262.out 0).trans rfl; have hcz13_1 : w10.cell? ⟨gb262, 1, none⟩ = some (.int .i64 a0_1) := (blk_cell BK262.out 1).trans rfl; have hcz13_2 : w10.cell? ⟨gb262, 2, none⟩ = some (.int .i64 a0_2) := (blk_cell BK262.out 2).trans rfl; have hcz13_3 : w10.cell? ⟨gb262, 3, none⟩ = some (.int .i64 a0_3) := (blk_cell BK262.out 3).trans rfl; have hcz13_4 : w10.cell? ⟨gb262, 4, none⟩ = some (.int .i64 a0_4) := (blk_cell BK262.out 4).trans rfl; have hcz13_5 : w10.cell? ⟨gb262, 5, none⟩ = some (.slice A0_5 l0_5.length c0_5) := (blk_cell BK262.out 5).trans rfl; have hfz13_0 := blk_frozen BK262.out 0; have hfz13_1 := blk_frozen BK262.out 1; have hfz13_2 := blk_frozen BK262.out 2; have hfz13_3 := blk_frozen BK262.out 3; have hfz13_4 := blk_frozen BK262.out 4; have hfz13_5 := blk_frozen BK262.out 5) | ((with_reducible refine gate_callee (f := 61) rfl ?_); refine goesL_ (some 20) rfl rfl Try.func61 (by kernel_rfl) rfl #[.int .i64 a0_0] rfl (by (try simp only [List.map_toArray, List.map_cons, List.map_nil]); first | done | rfl | (simp only [List.length_drop, List.length_take]; rfl)) ?_; (with_reducible refine (gatewardenref06_reads.calls k a0_0 t267 _ A4.out).mono ?_); rintro e w' ⟨rfl, ⟨nd, rfl⟩⟩; refine ⟨_, rfl, ?_⟩))
  (try simp only [Act.put, List.setIfInBounds_toArray, List.set_cons_zero, List.set_cons_succ])
  go_cut [4] (fun v4 wc => ∃ (kq : Nat) (x4_4 : ByteArray), v4 = .string x4_4 ∧ Aside0 (gatewardenref06_Put.j0 kq x4_4 a0_0 a0_1 a0_2 a0_3 a0_4 l0_5 = some (r1, r2)) ∧ Aside0 (kq ≤ k) ∧ Aside0 (wc.heap[gb262]? = some (.cells #[.int .i64 a0_0, .int .i64 a0_1, .int .i64 a0_2, .int .i64 a0_3, .int .i64 a0_4, (.slice A0_5 l0_5.length c0_5)] 24 (0, 0))) ∧ Aside0 (Below w.heap.size w wc))
  case first =>
   have H := HC5.out
   clear HC5
   by_cases c14 : t267 > 0
   ·rw [if_pos c14] at H
    have c14b0 : decide (0 < t267) = true := decide_eq_true c14
    clear c14
    (first | rw [c14b0] | (simp only [i64_w, i32_w]; rw [c14b0]) | skip)
    replace H := Option.bind_eq_some_iff.mp H
    obtain ⟨t268, A150, H⟩ := H
    replace H : (if (strOfNums y264).size + t268.size ≤ 9223372036854775807 then ((gatewardenref01_Of.f a0_2).bind fun t269 => (if ((strOfNums y264) ++ t268).size + t269.size ≤ 9223372036854775807 then (gatewardenref06_Put.j0 k (((strOfNums y264) ++ t268) ++ t269) a0_0 a0_1 a0_2 a0_3 a0_4 l0_5) else (none))) else (none)) = some (r1, r2) := H
    have A15 := Aside0.mk A150
    clear A150
    by_cases c16 : (strOfNums y264).size + t268.size ≤ 9223372036854775807
    ·rw [if_pos c16] at H
     have c16b0 := eq_true c16
     have c16b1 : decide ((strOfNums y264).size + t268.size ≤ 9223372036854775807) = true := decide_eq_true c16
     try have c16b2 : (9223372036854775807 < (strOfNums y264).size + t268.size) = False := eq_false (Nat.not_lt.2 c16)
     replace H := Option.bind_eq_some_iff.mp H
     obtain ⟨t269, A170, H⟩ := H
     replace H : (if ((strOfNums y264) ++ t268).size + t269.size ≤ 9223372036854775807 then (gatewardenref06_Put.j0 k (((strOfNums y264) ++ t268) ++ t269) a0_0 a0_1 a0_2 a0_3 a0_4 l0_5) else (none)) = some (r1, r2) := H
     have A17 := Aside0.mk A170
     clear A170
     by_cases c18 : ((strOfNums y264) ++ t268).size + t269.size ≤ 9223372036854775807
     ·rw [if_pos c18] at H
      have c18b0 := eq_true c18
      have c18b1 : decide (((strOfNums y264) ++ t268).size + t269.size ≤ 9223372036854775807) = true := decide_eq_true c18
      try have c18b2 : (9223372036854775807 < ((strOfNums y264) ++ t268).size + t269.size) = False := eq_false (Nat.not_lt.2 c18)
      (try (have c18b3 := c18b2; simp only [ByteArray.size_append] at c18b3))
      (try (have c18b4 := c18b1; simp only [ByteArray.size_append] at c18b4))
      (try (have c18b5 := c18b0; simp only [ByteArray.size_append] at c18b5))
      have H' := Aside0.mk H
      clear H
      try go_wp2
      (try (rw [drewN_self w10]; generalize hq_ : World.drewN w10 _ = w10; have n0_ := Aside0.mk (Kd.R_at hq_ HO266.out); have n1_ := Aside0.mk (blk_at hq_ BK262.out); have n2_ := Aside0.mk (below_at hq_ HB.out); clear hq_ HO266 BK262 HB; have HO266 := n0_; have BK262 := n1_; have HB := n2_; clear n0_ n1_ n2_))
      have n0_ := Aside0.mk (Kd.R_drew HO266.out)
      have n1_ := Aside0.mk (blk_drew BK262.out)
      have n2_ := Aside0.mk (below_drew1 HB.out)
      clear HO266
      clear BK262
      clear HB
      have HO266 := n0_
      have BK262 := n1_
      have HB := n2_
      clear n0_ n1_ n2_
      refine start_ (n := 10) (S := fun w' => w'.cell? ⟨gb262, 0, none⟩ = some (.int .i64 a0_0) ∧ w'.cell? ⟨gb262, 1, none⟩ = some (.int .i64 a0_1) ∧ w'.cell? ⟨gb262, 2, none⟩ = some (.int .i64 a0_2) ∧ w'.cell? ⟨gb262, 3, none⟩ = some (.int .i64 a0_3) ∧ w'.cell? ⟨gb262, 4, none⟩ = some (.int .i64 a0_4) ∧ w'.cell? ⟨gb262, 5, none⟩ = some (.slice A0_5 l0_5.length c0_5)) (ds := []) #[false, false, false, false, false, false, false, false, false, false] (by kernel_rfl) rfl rfl ⟨(blk_cell BK262.out 0).trans rfl, (blk_cell BK262.out 1).trans rfl, (blk_cell BK262.out 2).trans rfl, (blk_cell BK262.out 3).trans rfl, (blk_cell BK262.out 4).trans rfl, (blk_cell BK262.out 5).trans rfl⟩ (fun hHeld => ?_); refine with_tabW gatewardenref06_Put.tab5 gatewardenref06_Put.bits5 (fun HT_ HW_ => ?_)
      generalize w10.drew = w19 at HO266 BK262 HB hHeld ⊢
      refine pure_ (i := 0) (N := some 22) (v := ?_) (a' := ?_) #[true, false, false, false, false, false, false, false, false, false] rfl rfl (any_of HT_.out (by kernel_rfl)) (fun _ _ _ h => h) (Or.inl ⟨by rfl, ?_⟩) ?_ ?_
      rotate_left
      ·intro w'
       go_simp
       with_reducible rfl
      rotate_left
      ·simp only [Act.put, List.setIfInBounds_toArray, List.set_cons_zero, List.set_cons_succ, i64_w, i32_w]
       rfl
      refine pure_ (i := 1) (N := some 23) (v := ?_) (a' := ?_) #[true, true, false, false, false, false, false, false, false, false] rfl rfl (any_of HT_.out (by kernel_rfl)) (fun _ _ _ h => h) (Or.inl ⟨by rfl, ?_⟩) ?_ ?_
      rotate_left
      ·intro w'
       go_simp
       with_reducible rfl
      rotate_left
      ·simp only [Act.put, List.setIfInBounds_toArray, List.set_cons_zero, List.set_cons_succ, i64_w, i32_w]
       rfl
      refine pure_ (i := 5) (N := some 27) (v := ?_) (a' := ?_) #[true, true, false, false, false, true, false, false, false, false] rfl rfl (any_of HT_.out (by kernel_rfl)) (fun _ _ _ h => h) (Or.inl ⟨by rfl, ?_⟩) ?_ ?_
      rotate_left
      ·intro w'
       go_simp
       with_reducible rfl
      rotate_left
      ·simp only [Act.put, List.setIfInBounds_toArray, List.set_cons_zero, List.set_cons_succ, i64_w, i32_w]
       rfl
      refine take_ (i := 2) (N := some 24) (v := ?_) (a' := ?_) #[true, true, true, false, false, true, false, false, false, false] rfl rfl (take_ofW HT_.out HW_.out (by kernel_rfl)) (fun _ _ _ h => h) (Or.inl ⟨by rfl, ?_⟩) hHeld ?_ ?_
      rotate_left
      ·rintro w' ⟨s0, s1, s2, s3, s4, s5⟩
       go_simp
       with_reducible rfl
      rotate_left
      ·simp only [Act.put, List.setIfInBounds_toArray, List.set_cons_zero, List.set_cons_succ, i64_w, i32_w]
       rfl
      refine take_ (i := 6) (N := some 28) (v := ?_) (a' := ?_) #[true, true, true, false, false, true, true, false, false, false] rfl rfl (take_ofW HT_.out HW_.out (by kernel_rfl)) (fun _ _ _ h => h) (Or.inl ⟨by rfl, ?_⟩) hHeld ?_ ?_
      rotate_left
      ·rintro w' ⟨s0, s1, s2, s3, s4, s5⟩
       go_simp
       with_reducible rfl
      rotate_left
      ·simp only [Act.put, List.setIfInBounds_toArray, List.set_cons_zero, List.set_cons_succ, i64_w, i32_w]
       rfl
      refine one_ (i := 3) (N := some 25) #[true, true, true, true, false, true, true, false, false, false] rfl rfl (one_of HT_.out (by kernel_rfl)) (by decide) (fun K hK => ?_)
      refine goes_ Try.func62 (by kernel_rfl) rfl #[.int .i64 a0_1] (by rfl) rfl rfl (by (try simp only [List.map_toArray, List.map_cons, List.map_nil]); first | done | rfl | (simp only [List.length_drop, List.length_take]; rfl)) ?_
      with_reducible refine (gatewardenref01_Of.calls a0_1 t268 _ A15.out).mono ?_
      rintro e w20 ⟨rfl, hb⟩
      refine ⟨_, rfl, ?_⟩
      have n0_ := Aside0.mk (Kd.R_below (by (with_reducible repeat (first | apply Kd.R_alloc | apply Kd.R_drewN | apply Kd.R_drew)); exact HO266.out) hb)
      have n1_ := Aside0.mk (blk_below (g := gb262) (o := .cells #[.int .i64 a0_0, .int .i64 a0_1, .int .i64 a0_2, .int .i64 a0_3, .int .i64 a0_4, .slice A0_5 l0_5.length c0_5] 24 (0, 0)) (by (with_reducible repeat (first | refine blk_drewN ?_ _ | refine blk_drew ?_ | refine blk_alloc ?_ _)); exact BK262.out) hb)
      have n2_ := Aside0.mk (below_step (by repeat (first | (with_reducible first | exact HB.out | apply below_alloc | apply pw_below_drewN | apply below_drew1 | refine below_set ?_ GE262.out) | exact HB.out)) hb)
      clear HO266
      clear BK262
      clear HB
      have HO266 := n0_
      have BK262 := n1_
      have HB := n2_
      clear n0_ n1_ n2_
      (try clear hb)
      (try clear hb2)
      (try clear hk)
      (try clear hi)
      refine hK.out _ _ ⟨(blk_cell BK262.out 0).trans rfl, (blk_cell BK262.out 1).trans rfl, (blk_cell BK262.out 2).trans rfl, (blk_cell BK262.out 3).trans rfl, (blk_cell BK262.out 4).trans rfl, (blk_cell BK262.out 5).trans rfl⟩ (fun hHeld => ?_)
      clear hK K
      refine norm_ (a' := ?_) ?_ ?_
      rotate_left
      ·show Act.put _ (some 25) _ = _
       simp only [Act.put, List.setIfInBounds_toArray, List.set_cons_zero, List.set_cons_succ, i64_w, i32_w]
       rfl
      refine pure_ (i := 4) (N := some 26) (v := ?_) (a' := ?_) #[true, true, true, true, true, true, true, false, false, false] rfl rfl (any_of HT_.out (by kernel_rfl)) (fun _ _ _ h => h) (Or.inl ⟨by rfl, ?_⟩) ?_ ?_
      rotate_left
      ·intro w'
       go_simp
       with_reducible rfl
      rotate_left
      ·simp only [Act.put, List.setIfInBounds_toArray, List.set_cons_zero, List.set_cons_succ, i64_w, i32_w]
       rfl
      refine one_ (i := 7) (N := some 29) #[true, true, true, true, true, true, true, true, false, false] rfl rfl (one_of HT_.out (by kernel_rfl)) (by decide) (fun K hK => ?_)
      refine goes_ Try.func62 (by kernel_rfl) rfl #[.int .i64 a0_2] (by rfl) rfl rfl (by (try simp only [List.map_toArray, List.map_cons, List.map_nil]); first | done | rfl | (simp only [List.length_drop, List.length_take]; rfl)) ?_
      with_reducible refine (gatewardenref01_Of.calls a0_2 t269 _ A17.out).mono ?_
      rintro e w21 ⟨rfl, hb⟩
      refine ⟨_, rfl, ?_⟩
      have n0_ := Aside0.mk (Kd.R_below (by (with_reducible repeat (first | apply Kd.R_alloc | apply Kd.R_drewN | apply Kd.R_drew)); exact HO266.out) hb)
      have n1_ := Aside0.mk (blk_below (g := gb262) (o := .cells #[.int .i64 a0_0, .int .i64 a0_1, .int .i64 a0_2, .int .i64 a0_3, .int .i64 a0_4, .slice A0_5 l0_5.length c0_5] 24 (0, 0)) (by (with_reducible repeat (first | refine blk_drewN ?_ _ | refine blk_drew ?_ | refine blk_alloc ?_ _)); exact BK262.out) hb)
      have n2_ := Aside0.mk (below_step (by repeat (first | (with_reducible first | exact HB.out | apply below_alloc | apply pw_below_drewN | apply below_drew1 | refine below_set ?_ GE262.out) | exact HB.out)) hb)
      clear HO266
      clear BK262
      clear HB
      have HO266 := n0_
      have BK262 := n1_
      have HB := n2_
      clear n0_ n1_ n2_
      (try clear hb)
      (try clear hb2)
      (try clear hk)
      (try clear hi)
      refine hK.out _ _ ⟨(blk_cell BK262.out 0).trans rfl, (blk_cell BK262.out 1).trans rfl, (blk_cell BK262.out 2).trans rfl, (blk_cell BK262.out 3).trans rfl, (blk_cell BK262.out 4).trans rfl, (blk_cell BK262.out 5).trans rfl⟩ (fun hHeld => ?_)
      clear hK K
      refine norm_ (a' := ?_) ?_ ?_
      rotate_left
      ·show Act.put _ (some 29) _ = _
       simp only [Act.put, List.setIfInBounds_toArray, List.set_cons_zero, List.set_cons_succ, i64_w, i32_w]
       rfl
      refine pure_ (i := 8) (N := some 30) (v := ?_) (a' := ?_) #[true, true, true, true, true, true, true, true, true, false] rfl rfl (any_of HT_.out (by kernel_rfl)) (fun _ _ _ h => h) (Or.inl ⟨by rfl, ?_⟩) ?_ ?_
      rotate_left
      ·intro w'
       go_simp
       with_reducible rfl
      rotate_left
      ·simp only [Act.put, List.setIfInBounds_toArray, List.set_cons_zero, List.set_cons_succ, i64_w, i32_w]
       rfl
      refine pure_ (i := 9) (N := some 4) (v := ?_) (a' := ?_) #[true, true, true, true, true, true, true, true, true, true] rfl rfl (any_of HT_.out (by kernel_rfl)) (fun _ _ _ h => h) (Or.inl ⟨by rfl, ?_⟩) ?_ ?_
      rotate_left
      ·intro w'
       go_simp
       with_reducible rfl
      rotate_left
      ·simp only [Act.put, List.setIfInBounds_toArray, List.set_cons_zero, List.set_cons_succ, i64_w, i32_w]
       rfl
      refine done_ (done_of HT_.out (by kernel_rfl)) ?_
      try go_wp2
      go_meet
      case rel => exact ⟨_, (((strOfNums y264) ++ t268) ++ t269), (by first | rfl | (simp; done) | (simp [*]; done)), H', ⟨by first | omega | exact Nat.le_refl _⟩, ⟨by (with_reducible repeat (first | refine blk_drewN ?_ _ | refine blk_drew ?_ | refine blk_alloc ?_ _)); exact BK262.out⟩, ⟨by repeat (first | (with_reducible first | exact HB.out | apply below_alloc | apply pw_below_drewN | apply below_drew1 | refine below_set ?_ GE262.out) | exact HB.out)⟩⟩
     ·rw [if_neg c18] at H
      exact absurd H (by simp)
    ·rw [if_neg c16] at H
     exact absurd H (by simp)
   ·rw [if_neg c14] at H
    have c14b0 : decide (0 < t267) = false := decide_eq_false c14
    clear c14
    (first | rw [c14b0] | (simp only [i64_w, i32_w]; rw [c14b0]) | skip)
    have H' := Aside0.mk H
    clear H
    go_wp2
    go_meet
    case rel => exact ⟨_, (strOfNums y264), (by first | rfl | (simp; done) | (simp [*]; done)), H', ⟨by first | omega | exact Nat.le_refl _⟩, ⟨by (with_reducible repeat (first | refine blk_drewN ?_ _ | refine blk_drew ?_ | refine blk_alloc ?_ _)); exact BK262.out⟩, ⟨by repeat (first | (with_reducible first | exact HB.out | apply below_alloc | apply pw_below_drewN | apply below_drew1 | refine below_set ?_ GE262.out) | exact HB.out)⟩⟩
  case rest =>
   clear HC5
   try clear c1
   try clear hcv1
   try clear p2
   try clear c3
   try clear c6
   try clear hcv12
   try clear c14
   try clear c14b0
   try clear c16
   try clear c16b0
   try clear c16b1
   try clear c16b2
   try clear c18
   try clear c18b0
   try clear c18b1
   try clear c18b2
   try clear hcz13_0
   try clear hcz13_1
   try clear hcz13_2
   try clear hcz13_3
   try clear hcz13_4
   try clear hcz13_5
   try clear hcz7_0
   try clear hcz7_1
   try clear hcz7_2
   try clear hcz7_3
   try clear hcz7_4
   try clear hcz7_5
   try clear hcz9_0
   try clear hcz9_1
   try clear hcz9_2
   try clear hcz9_3
   try clear hcz9_4
   try clear hcz9_5
   try clear hfz13_0
   try clear hfz13_1
   try clear hfz13_2
   try clear hfz13_3
   try clear hfz13_4
   try clear hfz13_5
   try clear hfz7_0
   try clear hfz7_1
   try clear hfz7_2
   try clear hfz7_3
   try clear hfz7_4
   try clear hfz7_5
   try clear hfz9_0
   try clear hfz9_1
   try clear hfz9_2
   try clear hfz9_3
   try clear hfz9_4
   try clear hfz9_5
   obtain ⟨kq, x4_4, rfl, HA, HJ4, BK262, HB⟩ := hcut
   cases kq with
   | zero => exact absurd HA.out (by simp [gatewardenref06_Put.j0])
   | succ kj4 =>
    have H := HA.out
    clear HA
    simp only [gatewardenref06_Put.j0] at H
    replace H := Option.bind_eq_some_iff.mp H
    obtain ⟨⟨t270, t271, t272⟩, A220, H⟩ := H
    replace H : (if t270 = 0 then (some (x4_4, true)) else ((gatewardenref01_Of.f a0_3).bind fun t273 => (if x4_4.size + t273.size ≤ 9223372036854775807 then ((gatewardenref01_PutAll.f kj4 l0_5).bind fun bt274 => (if a0_0 = 5 then (if 0 < (l0_5.length : Int) then ((gatewardenref01_Of.f (wrap64 (65280 * (rd l0_5 0)))).bind fun t277 => (if (x4_4 ++ t273).size + t277.size ≤ 9223372036854775807 then (some ((x4_4 ++ t273) ++ t277, true)) else (none))) else (none)) else (if a0_0 = 6 then (if (x4_4 ++ t273).size + bt274.1.size ≤ 9223372036854775807 then (some ((x4_4 ++ t273) ++ bt274.1, true)) else (none)) else (if a0_0 = 22 then (if (x4_4 ++ t273).size + bt274.1.size ≤ 9223372036854775807 then (some ((x4_4 ++ t273) ++ bt274.1, true)) else (none)) else (if t272 = 1 then ((gatewardenref05_Put.f kj4 l0_5).bind fun bt278 => ((gatewardenref01_Of.f a0_4).bind fun t280 => (if (x4_4 ++ t273).size + t280.size ≤ 9223372036854775807 then ((some (([((bt278.1.size : Int)) % 256] : List Int) : List Int)).bind fun y281 => (if ((x4_4 ++ t273) ++ t280).size + (strOfNums y281).size ≤ 9223372036854775807 then (if (((x4_4 ++ t273) ++ t280) ++ (strOfNums y281)).size + bt278.1.size ≤ 9223372036854775807 then (some ((((x4_4 ++ t273) ++ t280) ++ (strOfNums y281)) ++ bt278.1, true)) else (none)) else (none))) else (none)))) else ((gatewardenref01_Of.f a0_4).bind fun t284 => (if (x4_4 ++ t273).size + t284.size ≤ 9223372036854775807 then ((some (([((bt274.1.size : Int)) % 256] : List Int) : List Int)).bind fun y285 => (if ((x4_4 ++ t273) ++ t284).size + (strOfNums y285).size ≤ 9223372036854775807 then (if (((x4_4 ++ t273) ++ t284) ++ (strOfNums y285)).size + bt274.1.size ≤ 9223372036854775807 then (some ((((x4_4 ++ t273) ++ t284) ++ (strOfNums y285)) ++ bt274.1, true)) else (none)) else (none))) else (none)))))))) else (none)))) = some (r1, r2) := H
    have A22 := Aside0.mk A220
    clear A220
    by_cases c23 : t270 = 0
    ·rw [if_pos c23] at H
     have c23b0 : (t270 == 0) = true := beq_iff_eq.mpr c23
     have c23b1 : (t270 != 0) = false := bne_eq_false_iff_eq.mpr c23
     clear c23
     simp only [Option.some.injEq, Prod.mk.injEq] at H
     obtain ⟨rfl, rfl⟩ := H
     have hcz24_0 : wc.cell? ⟨gb262, 0, none⟩ = some (.int .i64 a0_0) := (blk_cell BK262.out 0).trans rfl
     have hcz24_1 : wc.cell? ⟨gb262, 1, none⟩ = some (.int .i64 a0_1) := (blk_cell BK262.out 1).trans rfl
     have hcz24_2 : wc.cell? ⟨gb262, 2, none⟩ = some (.int .i64 a0_2) := (blk_cell BK262.out 2).trans rfl
     have hcz24_3 : wc.cell? ⟨gb262, 3, none⟩ = some (.int .i64 a0_3) := (blk_cell BK262.out 3).trans rfl
     have hcz24_4 : wc.cell? ⟨gb262, 4, none⟩ = some (.int .i64 a0_4) := (blk_cell BK262.out 4).trans rfl
     have hcz24_5 : wc.cell? ⟨gb262, 5, none⟩ = some (.slice A0_5 l0_5.length c0_5) := (blk_cell BK262.out 5).trans rfl
     have hfz24_0 := blk_frozen BK262.out 0
     have hfz24_1 := blk_frozen BK262.out 1
     have hfz24_2 := blk_frozen BK262.out 2
     have hfz24_3 := blk_frozen BK262.out 3
     have hfz24_4 := blk_frozen BK262.out 4
     have hfz24_5 := blk_frozen BK262.out 5
     go_wp2_with (first | ((with_reducible refine gate_callee (f := 63) rfl ?_); refine goesL_ (some 34) rfl rfl Try.func63 (by kernel_rfl) rfl #[.int .i64 a0_0] rfl (by (try simp only [List.map_toArray, List.map_cons, List.map_nil]); first | done | rfl | (simp only [List.length_drop, List.length_take]; rfl)) ?_; (with_reducible refine (gatewardenref06_writes.calls a0_0 t270 t271 t272 _ A22.out).mono ?_); rintro e w' ⟨rfl, ⟨nd, rfl⟩⟩; refine ⟨_, rfl, ?_⟩))
     go_ret2
     exact ⟨by first | rfl | (simp [errW_none, errW_some] <;> rfl) | (simp [*, errW_none, errW_some] <;> rfl), by repeat (first | (with_reducible first | exact HB.out | apply below_alloc | apply pw_below_drewN | apply below_drew1 | refine below_set ?_ GE262.out) | exact HB.out)⟩
    ·rw [if_neg c23] at H
     have c23b0 : (t270 == 0) = false := beq_eq_false_iff_ne.mpr c23
     have c23b1 : (t270 != 0) = true := bne_iff_ne.mpr c23
     replace H := Option.bind_eq_some_iff.mp H
     obtain ⟨t273, A250, H⟩ := H
     replace H : (if x4_4.size + t273.size ≤ 9223372036854775807 then ((gatewardenref01_PutAll.f kj4 l0_5).bind fun bt274 => (if a0_0 = 5 then (if 0 < (l0_5.length : Int) then ((gatewardenref01_Of.f (wrap64 (65280 * (rd l0_5 0)))).bind fun t277 => (if (x4_4 ++ t273).size + t277.size ≤ 9223372036854775807 then (some ((x4_4 ++ t273) ++ t277, true)) else (none))) else (none)) else (if a0_0 = 6 then (if (x4_4 ++ t273).size + bt274.1.size ≤ 9223372036854775807 then (some ((x4_4 ++ t273) ++ bt274.1, true)) else (none)) else (if a0_0 = 22 then (if (x4_4 ++ t273).size + bt274.1.size ≤ 9223372036854775807 then (some ((x4_4 ++ t273) ++ bt274.1, true)) else (none)) else (if t272 = 1 then ((gatewardenref05_Put.f kj4 l0_5).bind fun bt278 => ((gatewardenref01_Of.f a0_4).bind fun t280 => (if (x4_4 ++ t273).size + t280.size ≤ 9223372036854775807 then ((some (([((bt278.1.size : Int)) % 256] : List Int) : List Int)).bind fun y281 => (if ((x4_4 ++ t273) ++ t280).size + (strOfNums y281).size ≤ 9223372036854775807 then (if (((x4_4 ++ t273) ++ t280) ++ (strOfNums y281)).size + bt278.1.size ≤ 9223372036854775807 then (some ((((x4_4 ++ t273) ++ t280) ++ (strOfNums y281)) ++ bt278.1, true)) else (none)) else (none))) else (none)))) else ((gatewardenref01_Of.f a0_4).bind fun t284 => (if (x4_4 ++ t273).size + t284.size ≤ 9223372036854775807 then ((some (([((bt274.1.size : Int)) % 256] : List Int) : List Int)).bind fun y285 => (if ((x4_4 ++ t273) ++ t284).size + (strOfNums y285).size ≤ 9223372036854775807 then (if (((x4_4 ++ t273) ++ t284) ++ (strOfNums y285)).size + bt274.1.size ≤ 9223372036854775807 then (some ((((x4_4 ++ t273) ++ t284) ++ (strOfNums y285)) ++ bt274.1, true)) else (none)) else (none))) else (none)))))))) else (none)) = some (r1, r2) := H
     have A25 := Aside0.mk A250
     clear A250
     by_cases c26 : x4_4.size + t273.size ≤ 9223372036854775807
     ·rw [if_pos c26] at H
      have c26b0 := eq_true c26
      have c26b1 : decide (x4_4.size + t273.size ≤ 9223372036854775807) = true := decide_eq_true c26
      try have c26b2 : (9223372036854775807 < x4_4.size + t273.size) = False := eq_false (Nat.not_lt.2 c26)
      replace H := Option.bind_eq_some_iff.mp H
      obtain ⟨⟨t274, t275⟩, A270, H⟩ := H
      replace H : (if a0_0 = 5 then (if 0 < (l0_5.length : Int) then ((gatewardenref01_Of.f (wrap64 (65280 * (rd l0_5 0)))).bind fun t277 => (if (x4_4 ++ t273).size + t277.size ≤ 9223372036854775807 then (some ((x4_4 ++ t273) ++ t277, true)) else (none))) else (none)) else (if a0_0 = 6 then (if (x4_4 ++ t273).size + t274.size ≤ 9223372036854775807 then (some ((x4_4 ++ t273) ++ t274, true)) else (none)) else (if a0_0 = 22 then (if (x4_4 ++ t273).size + t274.size ≤ 9223372036854775807 then (some ((x4_4 ++ t273) ++ t274, true)) else (none)) else (if t272 = 1 then ((gatewardenref05_Put.f kj4 l0_5).bind fun bt278 => ((gatewardenref01_Of.f a0_4).bind fun t280 => (if (x4_4 ++ t273).size + t280.size ≤ 9223372036854775807 then ((some (([((bt278.1.size : Int)) % 256] : List Int) : List Int)).bind fun y281 => (if ((x4_4 ++ t273) ++ t280).size + (strOfNums y281).size ≤ 9223372036854775807 then (if (((x4_4 ++ t273) ++ t280) ++ (strOfNums y281)).size + bt278.1.size ≤ 9223372036854775807 then (some ((((x4_4 ++ t273) ++ t280) ++ (strOfNums y281)) ++ bt278.1, true)) else (none)) else (none))) else (none)))) else ((gatewardenref01_Of.f a0_4).bind fun t284 => (if (x4_4 ++ t273).size + t284.size ≤ 9223372036854775807 then ((some (([((t274.size : Int)) % 256] : List Int) : List Int)).bind fun y285 => (if ((x4_4 ++ t273) ++ t284).size + (strOfNums y285).size ≤ 9223372036854775807 then (if (((x4_4 ++ t273) ++ t284) ++ (strOfNums y285)).size + t274.size ≤ 9223372036854775807 then (some ((((x4_4 ++ t273) ++ t284) ++ (strOfNums y285)) ++ t274, true)) else (none)) else (none))) else (none))))))) = some (r1, r2) := H
      have A27 := Aside0.mk A270
      clear A270
      by_cases c28 : a0_0 = 5
      ·rw [if_pos c28] at H
       have c28b0 : (a0_0 == 5) = true := beq_iff_eq.mpr c28
       have c28b1 : (a0_0 != 5) = false := bne_eq_false_iff_eq.mpr c28
       clear c28
       by_cases c29 : 0 < (l0_5.length : Int)
       ·rw [if_pos c29] at H
        have c29b0 : decide (0 < (l0_5.length : Int)) = true := decide_eq_true c29
        have c29b1 : decide (0 < l0_5.length) = true := decide_eq_true (by omega)
        clear c29
        replace H := Option.bind_eq_some_iff.mp H
        obtain ⟨t277, A300, H⟩ := H
        replace H : (if (x4_4 ++ t273).size + t277.size ≤ 9223372036854775807 then (some ((x4_4 ++ t273) ++ t277, true)) else (none)) = some (r1, r2) := H
        have A30 := Aside0.mk A300
        clear A300
        by_cases c31 : (x4_4 ++ t273).size + t277.size ≤ 9223372036854775807
        ·rw [if_pos c31] at H
         have c31b0 := eq_true c31
         have c31b1 : decide ((x4_4 ++ t273).size + t277.size ≤ 9223372036854775807) = true := decide_eq_true c31
         try have c31b2 : (9223372036854775807 < (x4_4 ++ t273).size + t277.size) = False := eq_false (Nat.not_lt.2 c31)
         (try (have c31b3 := c31b2; simp only [ByteArray.size_append] at c31b3))
         (try (have c31b4 := c31b1; simp only [ByteArray.size_append] at c31b4))
         (try (have c31b5 := c31b0; simp only [ByteArray.size_append] at c31b5))
         simp only [Option.some.injEq, Prod.mk.injEq] at H
         obtain ⟨rfl, rfl⟩ := H
         have hcz32_0 : wc.cell? ⟨gb262, 0, none⟩ = some (.int .i64 a0_0) := (blk_cell BK262.out 0).trans rfl
         have hcz32_1 : wc.cell? ⟨gb262, 1, none⟩ = some (.int .i64 a0_1) := (blk_cell BK262.out 1).trans rfl
         have hcz32_2 : wc.cell? ⟨gb262, 2, none⟩ = some (.int .i64 a0_2) := (blk_cell BK262.out 2).trans rfl
         have hcz32_3 : wc.cell? ⟨gb262, 3, none⟩ = some (.int .i64 a0_3) := (blk_cell BK262.out 3).trans rfl
         have hcz32_4 : wc.cell? ⟨gb262, 4, none⟩ = some (.int .i64 a0_4) := (blk_cell BK262.out 4).trans rfl
         have hcz32_5 : wc.cell? ⟨gb262, 5, none⟩ = some (.slice A0_5 l0_5.length c0_5) := (blk_cell BK262.out 5).trans rfl
         have hfz32_0 := blk_frozen BK262.out 0
         have hfz32_1 := blk_frozen BK262.out 1
         have hfz32_2 := blk_frozen BK262.out 2
         have hfz32_3 := blk_frozen BK262.out 3
         have hfz32_4 := blk_frozen BK262.out 4
         have hfz32_5 := blk_frozen BK262.out 5
         have tk0_ := True.intro
         go_wp2_with (first | (have t_ := tk0_; clear t_; ((with_reducible refine gate_callee (f := 63) rfl ?_); refine goesL_ (some 34) rfl rfl Try.func63 (by kernel_rfl) rfl #[.int .i64 a0_0] rfl (by (try simp only [List.map_toArray, List.map_cons, List.map_nil]); first | done | rfl | (simp only [List.length_drop, List.length_take]; rfl)) ?_; (with_reducible refine (gatewardenref06_writes.calls a0_0 t270 t271 t272 _ A22.out).mono ?_); rintro e w' ⟨rfl, ⟨nd, rfl⟩⟩; refine ⟨_, rfl, ?_⟩); clear tk0_; have tk1_ := True.intro) | (have t_ := tk1_; clear t_; ((with_reducible refine gate_callee (f := 62) rfl ?_); refine goesL_ (some 44) rfl rfl Try.func62 (by kernel_rfl) rfl #[.int .i64 a0_3] rfl (by (try simp only [List.map_toArray, List.map_cons, List.map_nil]); first | done | rfl | (simp only [List.length_drop, List.length_take]; rfl)) ?_; (with_reducible refine (gatewardenref01_Of.calls a0_3 t273 _ A25.out).mono ?_); rintro e w33 ⟨rfl, hb⟩; refine ⟨_, rfl, ?_⟩; have n0_ := Aside0.mk (blk_below (g := gb262) (o := .cells #[.int .i64 a0_0, .int .i64 a0_1, .int .i64 a0_2, .int .i64 a0_3, .int .i64 a0_4, .slice A0_5 l0_5.length c0_5] 24 (0, 0)) (by (with_reducible repeat (first | refine blk_drewN ?_ _ | refine blk_drew ?_ | refine blk_alloc ?_ _)); exact BK262.out) hb); have n1_ := Aside0.mk (below_step (by repeat (first | (with_reducible first | exact HB.out | apply below_alloc | apply pw_below_drewN | apply below_drew1 | refine below_set ?_ GE262.out) | exact HB.out)) hb); clear BK262; clear HB; have BK262 := n0_; have HB := n1_; clear n0_ n1_; (try clear hb); (try clear hb2); (try clear hk); (try clear hi); have hcz34_0 : w33.cell? ⟨gb262, 0, none⟩ = some (.int .i64 a0_0) := (blk_cell BK262.out 0).trans rfl; have hcz34_1 : w33.cell? ⟨gb262, 1, none⟩ = some (.int .i64 a0_1) := (blk_cell BK262.out 1).trans rfl; have hcz34_2 : w33.cell? ⟨gb262, 2, none⟩ = some (.int .i64 a0_2) := (blk_cell BK262.out 2).trans rfl; have hcz34_3 : w33.cell? ⟨gb262, 3, none⟩ = some (.int .i64 a0_3) := (blk_cell BK262.out 3).trans rfl; have hcz34_4 : w33.cell? ⟨gb262, 4, none⟩ = some (.int .i64 a0_4) := (blk_cell BK262.out 4).trans rfl; have hcz34_5 : w33.cell? ⟨gb262, 5, none⟩ = some (.slice A0_5 l0_5.length c0_5) := (blk_cell BK262.out 5).trans rfl; have hfz34_0 := blk_frozen BK262.out 0; have hfz34_1 := blk_frozen BK262.out 1; have hfz34_2 := blk_frozen BK262.out 2; have hfz34_3 := blk_frozen BK262.out 3; have hfz34_4 := blk_frozen BK262.out 4; have hfz34_5 := blk_frozen BK262.out 5); clear tk1_; have tk2_ := True.intro) | (have t_ := tk2_; clear t_; ((with_reducible refine gate_callee (f := 55) rfl ?_); refine goesL_ (some 49) rfl rfl Try.func55 (by kernel_rfl) rfl #[.slice A0_5 l0_5.length c0_5] rfl (by (try simp only [List.map_toArray, List.map_cons, List.map_nil]); first | done | rfl | (simp only [List.length_drop, List.length_take]; rfl)) ?_; (with_reducible refine (gatewardenref01_PutAll.calls kj4 _ _ l0_5 t274 t275 _ ?side1 ?side2 A27.out).mono ?_); (case side1 => repeat (first | exact (Kd.C_below HR0_5.out HB.out) | (with_reducible refine Kd.C_alloc ?_ _) | (with_reducible refine Kd.C_drewN ?_ _) | (with_reducible refine Kd.C_drew ?_))); (case side2 => exact HC0_5.out); rintro e w35 ⟨rfl, hb⟩; refine ⟨_, rfl, ?_⟩; have n0_ := Aside0.mk (blk_below (g := gb262) (o := .cells #[.int .i64 a0_0, .int .i64 a0_1, .int .i64 a0_2, .int .i64 a0_3, .int .i64 a0_4, .slice A0_5 l0_5.length c0_5] 24 (0, 0)) (by (with_reducible repeat (first | refine blk_drewN ?_ _ | refine blk_drew ?_ | refine blk_alloc ?_ _)); exact BK262.out) hb); have n1_ := Aside0.mk (below_step (by repeat (first | (with_reducible first | exact HB.out | apply below_alloc | apply pw_below_drewN | apply below_drew1 | refine below_set ?_ GE262.out) | exact HB.out)) hb); clear BK262; clear HB; have BK262 := n0_; have HB := n1_; clear n0_ n1_; (try clear hb); (try clear hb2); (try clear hk); (try clear hi); have hcz36_0 : w35.cell? ⟨gb262, 0, none⟩ = some (.int .i64 a0_0) := (blk_cell BK262.out 0).trans rfl; have hcz36_1 : w35.cell? ⟨gb262, 1, none⟩ = some (.int .i64 a0_1) := (blk_cell BK262.out 1).trans rfl; have hcz36_2 : w35.cell? ⟨gb262, 2, none⟩ = some (.int .i64 a0_2) := (blk_cell BK262.out 2).trans rfl; have hcz36_3 : w35.cell? ⟨gb262, 3, none⟩ = some (.int .i64 a0_3) := (blk_cell BK262.out 3).trans rfl; have hcz36_4 : w35.cell? ⟨gb262, 4, none⟩ = some (.int .i64 a0_4) := (blk_cell BK262.out 4).trans rfl; have hcz36_5 : w35.cell? ⟨gb262, 5, none⟩ = some (.slice A0_5 l0_5.length c0_5) := (blk_cell BK262.out 5).trans rfl; have hfz36_0 := blk_frozen BK262.out 0; have hfz36_1 := blk_frozen BK262.out 1; have hfz36_2 := blk_frozen BK262.out 2; have hfz36_3 := blk_frozen BK262.out 3; have hfz36_4 := blk_frozen BK262.out 4; have hfz36_5 := blk_frozen BK262.out 5; have p276 : 0 ≤ (0 : Int) := (by omega); have q276 : 0 < (l0_5.length : Int) := of_decide_eq_true (by first | (with_reducible assumption) | assumption); obtain ⟨ad276, e276, hx276_0⟩ := Kd.at_int HR0_5.out 0 p276 q276; cases e276; have qi276 : (0 < l0_5.length) = True := eq_true (by omega); (try rw [show ((0 : Int)).toNat = 0 from rfl] at hx276_0); (try rw [Addr.add_zero'] at hx276_0); replace hx276_0 := (HB.out.cell (World.block_lt_of_cell? w _ hx276_0)).trans hx276_0; replace p276 := eq_true p276; replace q276 := eq_true q276); clear tk2_; have tk3_ := True.intro) | (have t_ := tk3_; clear t_; ((with_reducible refine gate_callee (f := 62) rfl ?_); refine goesL_ (some 62) rfl rfl Try.func62 (by kernel_rfl) rfl #[.int .i64 (wrap64 (65280 * (rd l0_5 0)))] rfl (by (try simp only [List.map_toArray, List.map_cons, List.map_nil]); first | done | rfl | (simp only [List.length_drop, List.length_take]; rfl)) ?_; (with_reducible refine (gatewardenref01_Of.calls (wrap64 (65280 * (rd l0_5 0))) t277 _ A30.out).mono ?_); rintro e w37 ⟨rfl, hb⟩; refine ⟨_, rfl, ?_⟩; have n0_ := Aside0.mk (blk_below (g := gb262) (o := .cells #[.int .i64 a0_0, .int .i64 a0_1, .int .i64 a0_2, .int .i64 a0_3, .int .i64 a0_4, .slice (some ad276) l0_5.length c0_5] 24 (0, 0)) (by (with_reducible repeat (first | refine blk_drewN ?_ _ | refine blk_drew ?_ | refine blk_alloc ?_ _)); exact BK262.out) hb); have n1_ := Aside0.mk (below_step (by repeat (first | (with_reducible first | exact HB.out | apply below_alloc | apply pw_below_drewN | apply below_drew1 | refine below_set ?_ GE262.out) | exact HB.out)) hb); clear BK262; clear HB; have BK262 := n0_; have HB := n1_; clear n0_ n1_; (try clear hb); (try clear hb2); (try clear hk); (try clear hi)); clear tk3_; have tk4_ := True.intro))
         go_ret2
         exact ⟨by first | rfl | (simp [errW_none, errW_some] <;> rfl) | (simp [*, errW_none, errW_some] <;> rfl), by repeat (first | (with_reducible first | exact HB.out | apply below_alloc | apply pw_below_drewN | apply below_drew1 | refine below_set ?_ GE262.out) | exact HB.out)⟩
        ·rw [if_neg c31] at H
         exact absurd H (by simp)
       ·rw [if_neg c29] at H
        exact absurd H (by simp)
      ·rw [if_neg c28] at H
       have c28b0 : (a0_0 == 5) = false := beq_eq_false_iff_ne.mpr c28
       have c28b1 : (a0_0 != 5) = true := bne_iff_ne.mpr c28
       by_cases c38 : a0_0 = 6
       ·rw [if_pos c38] at H
        have c38b0 : (a0_0 == 6) = true := beq_iff_eq.mpr c38
        have c38b1 : (a0_0 != 6) = false := bne_eq_false_iff_eq.mpr c38
        clear c38
        by_cases c39 : (x4_4 ++ t273).size + t274.size ≤ 9223372036854775807
        ·rw [if_pos c39] at H
         have c39b0 := eq_true c39
         have c39b1 : decide ((x4_4 ++ t273).size + t274.size ≤ 9223372036854775807) = true := decide_eq_true c39
         try have c39b2 : (9223372036854775807 < (x4_4 ++ t273).size + t274.size) = False := eq_false (Nat.not_lt.2 c39)
         (try (have c39b3 := c39b2; simp only [ByteArray.size_append] at c39b3))
         (try (have c39b4 := c39b1; simp only [ByteArray.size_append] at c39b4))
         (try (have c39b5 := c39b0; simp only [ByteArray.size_append] at c39b5))
         simp only [Option.some.injEq, Prod.mk.injEq] at H
         obtain ⟨rfl, rfl⟩ := H
         have hcz40_0 : wc.cell? ⟨gb262, 0, none⟩ = some (.int .i64 a0_0) := (blk_cell BK262.out 0).trans rfl
         have hcz40_1 : wc.cell? ⟨gb262, 1, none⟩ = some (.int .i64 a0_1) := (blk_cell BK262.out 1).trans rfl
         have hcz40_2 : wc.cell? ⟨gb262, 2, none⟩ = some (.int .i64 a0_2) := (blk_cell BK262.out 2).trans rfl
         have hcz40_3 : wc.cell? ⟨gb262, 3, none⟩ = some (.int .i64 a0_3) := (blk_cell BK262.out 3).trans rfl
         have hcz40_4 : wc.cell? ⟨gb262, 4, none⟩ = some (.int .i64 a0_4) := (blk_cell BK262.out 4).trans rfl
         have hcz40_5 : wc.cell? ⟨gb262, 5, none⟩ = some (.slice A0_5 l0_5.length c0_5) := (blk_cell BK262.out 5).trans rfl
         have hfz40_0 := blk_frozen BK262.out 0
         have hfz40_1 := blk_frozen BK262.out 1
         have hfz40_2 := blk_frozen BK262.out 2
         have hfz40_3 := blk_frozen BK262.out 3
         have hfz40_4 := blk_frozen BK262.out 4
         have hfz40_5 := blk_frozen BK262.out 5
         go_wp2_with (first | ((with_reducible refine gate_callee (f := 63) rfl ?_); refine goesL_ (some 34) rfl rfl Try.func63 (by kernel_rfl) rfl #[.int .i64 a0_0] rfl (by (try simp only [List.map_toArray, List.map_cons, List.map_nil]); first | done | rfl | (simp only [List.length_drop, List.length_take]; rfl)) ?_; (with_reducible refine (gatewardenref06_writes.calls a0_0 t270 t271 t272 _ A22.out).mono ?_); rintro e w' ⟨rfl, ⟨nd, rfl⟩⟩; refine ⟨_, rfl, ?_⟩) | ((with_reducible refine gate_callee (f := 62) rfl ?_); refine goesL_ (some 44) rfl rfl Try.func62 (by kernel_rfl) rfl #[.int .i64 a0_3] rfl (by (try simp only [List.map_toArray, List.map_cons, List.map_nil]); first | done | rfl | (simp only [List.length_drop, List.length_take]; rfl)) ?_; (with_reducible refine (gatewardenref01_Of.calls a0_3 t273 _ A25.out).mono ?_); rintro e w41 ⟨rfl, hb⟩; refine ⟨_, rfl, ?_⟩; have n0_ := Aside0.mk (blk_below (g := gb262) (o := .cells #[.int .i64 a0_0, .int .i64 a0_1, .int .i64 a0_2, .int .i64 a0_3, .int .i64 a0_4, .slice A0_5 l0_5.length c0_5] 24 (0, 0)) (by (with_reducible repeat (first | refine blk_drewN ?_ _ | refine blk_drew ?_ | refine blk_alloc ?_ _)); exact BK262.out) hb); have n1_ := Aside0.mk (below_step (by repeat (first | (with_reducible first | exact HB.out | apply below_alloc | apply pw_below_drewN | apply below_drew1 | refine below_set ?_ GE262.out) | exact HB.out)) hb); clear BK262; clear HB; have BK262 := n0_; have HB := n1_; clear n0_ n1_; (try clear hb); (try clear hb2); (try clear hk); (try clear hi); have hcz42_0 : w41.cell? ⟨gb262, 0, none⟩ = some (.int .i64 a0_0) := (blk_cell BK262.out 0).trans rfl; have hcz42_1 : w41.cell? ⟨gb262, 1, none⟩ = some (.int .i64 a0_1) := (blk_cell BK262.out 1).trans rfl; have hcz42_2 : w41.cell? ⟨gb262, 2, none⟩ = some (.int .i64 a0_2) := (blk_cell BK262.out 2).trans rfl; have hcz42_3 : w41.cell? ⟨gb262, 3, none⟩ = some (.int .i64 a0_3) := (blk_cell BK262.out 3).trans rfl; have hcz42_4 : w41.cell? ⟨gb262, 4, none⟩ = some (.int .i64 a0_4) := (blk_cell BK262.out 4).trans rfl; have hcz42_5 : w41.cell? ⟨gb262, 5, none⟩ = some (.slice A0_5 l0_5.length c0_5) := (blk_cell BK262.out 5).trans rfl; have hfz42_0 := blk_frozen BK262.out 0; have hfz42_1 := blk_frozen BK262.out 1; have hfz42_2 := blk_frozen BK262.out 2; have hfz42_3 := blk_frozen BK262.out 3; have hfz42_4 := blk_frozen BK262.out 4; have hfz42_5 := blk_frozen BK262.out 5) | ((with_reducible refine gate_callee (f := 55) rfl ?_); refine goesL_ (some 49) rfl rfl Try.func55 (by kernel_rfl) rfl #[.slice A0_5 l0_5.length c0_5] rfl (by (try simp only [List.map_toArray, List.map_cons, List.map_nil]); first | done | rfl | (simp only [List.length_drop, List.length_take]; rfl)) ?_; (with_reducible refine (gatewardenref01_PutAll.calls kj4 _ _ l0_5 t274 t275 _ ?side1 ?side2 A27.out).mono ?_); (case side1 => repeat (first | exact (Kd.C_below HR0_5.out HB.out) | (with_reducible refine Kd.C_alloc ?_ _) | (with_reducible refine Kd.C_drewN ?_ _) | (with_reducible refine Kd.C_drew ?_))); (case side2 => exact HC0_5.out); rintro e w43 ⟨rfl, hb⟩; refine ⟨_, rfl, ?_⟩; have n0_ := Aside0.mk (blk_below (g := gb262) (o := .cells #[.int .i64 a0_0, .int .i64 a0_1, .int .i64 a0_2, .int .i64 a0_3, .int .i64 a0_4, .slice A0_5 l0_5.length c0_5] 24 (0, 0)) (by (with_reducible repeat (first | refine blk_drewN ?_ _ | refine blk_drew ?_ | refine blk_alloc ?_ _)); exact BK262.out) hb); have n1_ := Aside0.mk (below_step (by repeat (first | (with_reducible first | exact HB.out | apply below_alloc | apply pw_below_drewN | apply below_drew1 | refine below_set ?_ GE262.out) | exact HB.out)) hb); clear BK262; clear HB; have BK262 := n0_; have HB := n1_; clear n0_ n1_; (try clear hb); (try clear hb2); (try clear hk); (try clear hi); have hcz44_0 : w43.cell? ⟨gb262, 0, none⟩ = some (.int .i64 a0_0) := (blk_cell BK262.out 0).trans rfl; have hcz44_1 : w43.cell? ⟨gb262, 1, none⟩ = some (.int .i64 a0_1) := (blk_cell BK262.out 1).trans rfl; have hcz44_2 : w43.cell? ⟨gb262, 2, none⟩ = some (.int .i64 a0_2) := (blk_cell BK262.out 2).trans rfl; have hcz44_3 : w43.cell? ⟨gb262, 3, none⟩ = some (.int .i64 a0_3) := (blk_cell BK262.out 3).trans rfl; have hcz44_4 : w43.cell? ⟨gb262, 4, none⟩ = some (.int .i64 a0_4) := (blk_cell BK262.out 4).trans rfl; have hcz44_5 : w43.cell? ⟨gb262, 5, none⟩ = some (.slice A0_5 l0_5.length c0_5) := (blk_cell BK262.out 5).trans rfl; have hfz44_0 := blk_frozen BK262.out 0; have hfz44_1 := blk_frozen BK262.out 1; have hfz44_2 := blk_frozen BK262.out 2; have hfz44_3 := blk_frozen BK262.out 3; have hfz44_4 := blk_frozen BK262.out 4; have hfz44_5 := blk_frozen BK262.out 5))
         go_ret2
         exact ⟨by first | rfl | (simp [errW_none, errW_some] <;> rfl) | (simp [*, errW_none, errW_some] <;> rfl), by repeat (first | (with_reducible first | exact HB.out | apply below_alloc | apply pw_below_drewN | apply below_drew1 | refine below_set ?_ GE262.out) | exact HB.out)⟩
        ·rw [if_neg c39] at H
         exact absurd H (by simp)
       ·rw [if_neg c38] at H
        have c38b0 : (a0_0 == 6) = false := beq_eq_false_iff_ne.mpr c38
        have c38b1 : (a0_0 != 6) = true := bne_iff_ne.mpr c38
        by_cases c45 : a0_0 = 22
        ·rw [if_pos c45] at H
         have c45b0 : (a0_0 == 22) = true := beq_iff_eq.mpr c45
         have c45b1 : (a0_0 != 22) = false := bne_eq_false_iff_eq.mpr c45
         clear c45
         by_cases c46 : (x4_4 ++ t273).size + t274.size ≤ 9223372036854775807
         ·rw [if_pos c46] at H
          have c46b0 := eq_true c46
          have c46b1 : decide ((x4_4 ++ t273).size + t274.size ≤ 9223372036854775807) = true := decide_eq_true c46
          try have c46b2 : (9223372036854775807 < (x4_4 ++ t273).size + t274.size) = False := eq_false (Nat.not_lt.2 c46)
          (try (have c46b3 := c46b2; simp only [ByteArray.size_append] at c46b3))
          (try (have c46b4 := c46b1; simp only [ByteArray.size_append] at c46b4))
          (try (have c46b5 := c46b0; simp only [ByteArray.size_append] at c46b5))
          simp only [Option.some.injEq, Prod.mk.injEq] at H
          obtain ⟨rfl, rfl⟩ := H
          have hcz47_0 : wc.cell? ⟨gb262, 0, none⟩ = some (.int .i64 a0_0) := (blk_cell BK262.out 0).trans rfl
          have hcz47_1 : wc.cell? ⟨gb262, 1, none⟩ = some (.int .i64 a0_1) := (blk_cell BK262.out 1).trans rfl
          have hcz47_2 : wc.cell? ⟨gb262, 2, none⟩ = some (.int .i64 a0_2) := (blk_cell BK262.out 2).trans rfl
          have hcz47_3 : wc.cell? ⟨gb262, 3, none⟩ = some (.int .i64 a0_3) := (blk_cell BK262.out 3).trans rfl
          have hcz47_4 : wc.cell? ⟨gb262, 4, none⟩ = some (.int .i64 a0_4) := (blk_cell BK262.out 4).trans rfl
          have hcz47_5 : wc.cell? ⟨gb262, 5, none⟩ = some (.slice A0_5 l0_5.length c0_5) := (blk_cell BK262.out 5).trans rfl
          have hfz47_0 := blk_frozen BK262.out 0
          have hfz47_1 := blk_frozen BK262.out 1
          have hfz47_2 := blk_frozen BK262.out 2
          have hfz47_3 := blk_frozen BK262.out 3
          have hfz47_4 := blk_frozen BK262.out 4
          have hfz47_5 := blk_frozen BK262.out 5
          go_wp2_with (first | ((with_reducible refine gate_callee (f := 63) rfl ?_); refine goesL_ (some 34) rfl rfl Try.func63 (by kernel_rfl) rfl #[.int .i64 a0_0] rfl (by (try simp only [List.map_toArray, List.map_cons, List.map_nil]); first | done | rfl | (simp only [List.length_drop, List.length_take]; rfl)) ?_; (with_reducible refine (gatewardenref06_writes.calls a0_0 t270 t271 t272 _ A22.out).mono ?_); rintro e w' ⟨rfl, ⟨nd, rfl⟩⟩; refine ⟨_, rfl, ?_⟩) | ((with_reducible refine gate_callee (f := 62) rfl ?_); refine goesL_ (some 44) rfl rfl Try.func62 (by kernel_rfl) rfl #[.int .i64 a0_3] rfl (by (try simp only [List.map_toArray, List.map_cons, List.map_nil]); first | done | rfl | (simp only [List.length_drop, List.length_take]; rfl)) ?_; (with_reducible refine (gatewardenref01_Of.calls a0_3 t273 _ A25.out).mono ?_); rintro e w48 ⟨rfl, hb⟩; refine ⟨_, rfl, ?_⟩; have n0_ := Aside0.mk (blk_below (g := gb262) (o := .cells #[.int .i64 a0_0, .int .i64 a0_1, .int .i64 a0_2, .int .i64 a0_3, .int .i64 a0_4, .slice A0_5 l0_5.length c0_5] 24 (0, 0)) (by (with_reducible repeat (first | refine blk_drewN ?_ _ | refine blk_drew ?_ | refine blk_alloc ?_ _)); exact BK262.out) hb); have n1_ := Aside0.mk (below_step (by repeat (first | (with_reducible first | exact HB.out | apply below_alloc | apply pw_below_drewN | apply below_drew1 | refine below_set ?_ GE262.out) | exact HB.out)) hb); clear BK262; clear HB; have BK262 := n0_; have HB := n1_; clear n0_ n1_; (try clear hb); (try clear hb2); (try clear hk); (try clear hi); have hcz49_0 : w48.cell? ⟨gb262, 0, none⟩ = some (.int .i64 a0_0) := (blk_cell BK262.out 0).trans rfl; have hcz49_1 : w48.cell? ⟨gb262, 1, none⟩ = some (.int .i64 a0_1) := (blk_cell BK262.out 1).trans rfl; have hcz49_2 : w48.cell? ⟨gb262, 2, none⟩ = some (.int .i64 a0_2) := (blk_cell BK262.out 2).trans rfl; have hcz49_3 : w48.cell? ⟨gb262, 3, none⟩ = some (.int .i64 a0_3) := (blk_cell BK262.out 3).trans rfl; have hcz49_4 : w48.cell? ⟨gb262, 4, none⟩ = some (.int .i64 a0_4) := (blk_cell BK262.out 4).trans rfl; have hcz49_5 : w48.cell? ⟨gb262, 5, none⟩ = some (.slice A0_5 l0_5.length c0_5) := (blk_cell BK262.out 5).trans rfl; have hfz49_0 := blk_frozen BK262.out 0; have hfz49_1 := blk_frozen BK262.out 1; have hfz49_2 := blk_frozen BK262.out 2; have hfz49_3 := blk_frozen BK262.out 3; have hfz49_4 := blk_frozen BK262.out 4; have hfz49_5 := blk_frozen BK262.out 5) | ((with_reducible refine gate_callee (f := 55) rfl ?_); refine goesL_ (some 49) rfl rfl Try.func55 (by kernel_rfl) rfl #[.slice A0_5 l0_5.length c0_5] rfl (by (try simp only [List.map_toArray, List.map_cons, List.map_nil]); first | done | rfl | (simp only [List.length_drop, List.length_take]; rfl)) ?_; (with_reducible refine (gatewardenref01_PutAll.calls kj4 _ _ l0_5 t274 t275 _ ?side1 ?side2 A27.out).mono ?_); (case side1 => repeat (first | exact (Kd.C_below HR0_5.out HB.out) | (with_reducible refine Kd.C_alloc ?_ _) | (with_reducible refine Kd.C_drewN ?_ _) | (with_reducible refine Kd.C_drew ?_))); (case side2 => exact HC0_5.out); rintro e w50 ⟨rfl, hb⟩; refine ⟨_, rfl, ?_⟩; have n0_ := Aside0.mk (blk_below (g := gb262) (o := .cells #[.int .i64 a0_0, .int .i64 a0_1, .int .i64 a0_2, .int .i64 a0_3, .int .i64 a0_4, .slice A0_5 l0_5.length c0_5] 24 (0, 0)) (by (with_reducible repeat (first | refine blk_drewN ?_ _ | refine blk_drew ?_ | refine blk_alloc ?_ _)); exact BK262.out) hb); have n1_ := Aside0.mk (below_step (by repeat (first | (with_reducible first | exact HB.out | apply below_alloc | apply pw_below_drewN | apply below_drew1 | refine below_set ?_ GE262.out) | exact HB.out)) hb); clear BK262; clear HB; have BK262 := n0_; have HB := n1_; clear n0_ n1_; (try clear hb); (try clear hb2); (try clear hk); (try clear hi); have hcz51_0 : w50.cell? ⟨gb262, 0, none⟩ = some (.int .i64 a0_0) := (blk_cell BK262.out 0).trans rfl; have hcz51_1 : w50.cell? ⟨gb262, 1, none⟩ = some (.int .i64 a0_1) := (blk_cell BK262.out 1).trans rfl; have hcz51_2 : w50.cell? ⟨gb262, 2, none⟩ = some (.int .i64 a0_2) := (blk_cell BK262.out 2).trans rfl; have hcz51_3 : w50.cell? ⟨gb262, 3, none⟩ = some (.int .i64 a0_3) := (blk_cell BK262.out 3).trans rfl; have hcz51_4 : w50.cell? ⟨gb262, 4, none⟩ = some (.int .i64 a0_4) := (blk_cell BK262.out 4).trans rfl; have hcz51_5 : w50.cell? ⟨gb262, 5, none⟩ = some (.slice A0_5 l0_5.length c0_5) := (blk_cell BK262.out 5).trans rfl; have hfz51_0 := blk_frozen BK262.out 0; have hfz51_1 := blk_frozen BK262.out 1; have hfz51_2 := blk_frozen BK262.out 2; have hfz51_3 := blk_frozen BK262.out 3; have hfz51_4 := blk_frozen BK262.out 4; have hfz51_5 := blk_frozen BK262.out 5))
          go_ret2
          exact ⟨by first | rfl | (simp [errW_none, errW_some] <;> rfl) | (simp [*, errW_none, errW_some] <;> rfl), by repeat (first | (with_reducible first | exact HB.out | apply below_alloc | apply pw_below_drewN | apply below_drew1 | refine below_set ?_ GE262.out) | exact HB.out)⟩
         ·rw [if_neg c46] at H
          exact absurd H (by simp)
        ·rw [if_neg c45] at H
         have c45b0 : (a0_0 == 22) = false := beq_eq_false_iff_ne.mpr c45
         have c45b1 : (a0_0 != 22) = true := bne_iff_ne.mpr c45
         by_cases c52 : t272 = 1
         ·rw [if_pos c52] at H
          have c52b0 : (t272 == 1) = true := beq_iff_eq.mpr c52
          have c52b1 : (t272 != 1) = false := bne_eq_false_iff_eq.mpr c52
          clear c52
          replace H := Option.bind_eq_some_iff.mp H
          obtain ⟨⟨t278, t279⟩, A530, H⟩ := H
          replace H : ((gatewardenref01_Of.f a0_4).bind fun t280 => (if (x4_4 ++ t273).size + t280.size ≤ 9223372036854775807 then ((some (([((t278.size : Int)) % 256] : List Int) : List Int)).bind fun y281 => (if ((x4_4 ++ t273) ++ t280).size + (strOfNums y281).size ≤ 9223372036854775807 then (if (((x4_4 ++ t273) ++ t280) ++ (strOfNums y281)).size + t278.size ≤ 9223372036854775807 then (some ((((x4_4 ++ t273) ++ t280) ++ (strOfNums y281)) ++ t278, true)) else (none)) else (none))) else (none))) = some (r1, r2) := H
          have A53 := Aside0.mk A530
          clear A530
          replace H := Option.bind_eq_some_iff.mp H
          obtain ⟨t280, A540, H⟩ := H
          replace H : (if (x4_4 ++ t273).size + t280.size ≤ 9223372036854775807 then ((some (([((t278.size : Int)) % 256] : List Int) : List Int)).bind fun y281 => (if ((x4_4 ++ t273) ++ t280).size + (strOfNums y281).size ≤ 9223372036854775807 then (if (((x4_4 ++ t273) ++ t280) ++ (strOfNums y281)).size + t278.size ≤ 9223372036854775807 then (some ((((x4_4 ++ t273) ++ t280) ++ (strOfNums y281)) ++ t278, true)) else (none)) else (none))) else (none)) = some (r1, r2) := H
          have A54 := Aside0.mk A540
          clear A540
          by_cases c55 : (x4_4 ++ t273).size + t280.size ≤ 9223372036854775807
          ·rw [if_pos c55] at H
           have c55b0 := eq_true c55
           have c55b1 : decide ((x4_4 ++ t273).size + t280.size ≤ 9223372036854775807) = true := decide_eq_true c55
           try have c55b2 : (9223372036854775807 < (x4_4 ++ t273).size + t280.size) = False := eq_false (Nat.not_lt.2 c55)
           (try (have c55b3 := c55b2; simp only [ByteArray.size_append] at c55b3))
           (try (have c55b4 := c55b1; simp only [ByteArray.size_append] at c55b4))
           (try (have c55b5 := c55b0; simp only [ByteArray.size_append] at c55b5))
           obtain ⟨y281, hy281⟩ : ∃ y_ : List Int, y_ = (([((t278.size : Int)) % 256] : List Int)) := ⟨_, rfl⟩
           replace H : (if ((x4_4 ++ t273) ++ t280).size + (strOfNums y281).size ≤ 9223372036854775807 then (if (((x4_4 ++ t273) ++ t280) ++ (strOfNums y281)).size + t278.size ≤ 9223372036854775807 then (some ((((x4_4 ++ t273) ++ t280) ++ (strOfNums y281)) ++ t278, true)) else (none)) else (none)) = some (r1, r2) := by first | (rw [hy281]; with_reducible exact H) | (have H2_ := (Option.bind_some _ _).symm.trans H; rw [hy281]; with_reducible exact H2_) | (have H2_ := (Option.bind_some _ _).symm.trans H; with_reducible exact H2_) | with_reducible exact H | (rw [hy281]; exact H) | exact H
           have Ny281 := Aside0.mk hy281
           clear hy281
           by_cases c56 : ((x4_4 ++ t273) ++ t280).size + (strOfNums y281).size ≤ 9223372036854775807
           ·rw [if_pos c56] at H
            have c56b0 := eq_true c56
            have c56b1 : decide (((x4_4 ++ t273) ++ t280).size + (strOfNums y281).size ≤ 9223372036854775807) = true := decide_eq_true c56
            try have c56b2 : (9223372036854775807 < ((x4_4 ++ t273) ++ t280).size + (strOfNums y281).size) = False := eq_false (Nat.not_lt.2 c56)
            (try (have c56b3 := c56b2; simp only [ByteArray.size_append] at c56b3))
            (try (have c56b4 := c56b1; simp only [ByteArray.size_append] at c56b4))
            (try (have c56b5 := c56b0; simp only [ByteArray.size_append] at c56b5))
            by_cases c57 : (((x4_4 ++ t273) ++ t280) ++ (strOfNums y281)).size + t278.size ≤ 9223372036854775807
            ·rw [if_pos c57] at H
             have c57b0 := eq_true c57
             have c57b1 : decide ((((x4_4 ++ t273) ++ t280) ++ (strOfNums y281)).size + t278.size ≤ 9223372036854775807) = true := decide_eq_true c57
             try have c57b2 : (9223372036854775807 < (((x4_4 ++ t273) ++ t280) ++ (strOfNums y281)).size + t278.size) = False := eq_false (Nat.not_lt.2 c57)
             (try (have c57b3 := c57b2; simp only [ByteArray.size_append] at c57b3))
             (try (have c57b4 := c57b1; simp only [ByteArray.size_append] at c57b4))
             (try (have c57b5 := c57b0; simp only [ByteArray.size_append] at c57b5))
             simp only [Option.some.injEq, Prod.mk.injEq] at H
             obtain ⟨rfl, rfl⟩ := H
             have hcz58_0 : wc.cell? ⟨gb262, 0, none⟩ = some (.int .i64 a0_0) := (blk_cell BK262.out 0).trans rfl
             have hcz58_1 : wc.cell? ⟨gb262, 1, none⟩ = some (.int .i64 a0_1) := (blk_cell BK262.out 1).trans rfl
             have hcz58_2 : wc.cell? ⟨gb262, 2, none⟩ = some (.int .i64 a0_2) := (blk_cell BK262.out 2).trans rfl
             have hcz58_3 : wc.cell? ⟨gb262, 3, none⟩ = some (.int .i64 a0_3) := (blk_cell BK262.out 3).trans rfl
             have hcz58_4 : wc.cell? ⟨gb262, 4, none⟩ = some (.int .i64 a0_4) := (blk_cell BK262.out 4).trans rfl
             have hcz58_5 : wc.cell? ⟨gb262, 5, none⟩ = some (.slice A0_5 l0_5.length c0_5) := (blk_cell BK262.out 5).trans rfl
             have hfz58_0 := blk_frozen BK262.out 0
             have hfz58_1 := blk_frozen BK262.out 1
             have hfz58_2 := blk_frozen BK262.out 2
             have hfz58_3 := blk_frozen BK262.out 3
             have hfz58_4 := blk_frozen BK262.out 4
             have hfz58_5 := blk_frozen BK262.out 5
             try go_wp2_with (first | ((with_reducible refine gate_callee (f := 63) rfl ?_); refine goesL_ (some 34) rfl rfl Try.func63 (by kernel_rfl) rfl #[.int .i64 a0_0] rfl (by (try simp only [List.map_toArray, List.map_cons, List.map_nil]); first | done | rfl | (simp only [List.length_drop, List.length_take]; rfl)) ?_; (with_reducible refine (gatewardenref06_writes.calls a0_0 t270 t271 t272 _ A22.out).mono ?_); rintro e w' ⟨rfl, ⟨nd, rfl⟩⟩; refine ⟨_, rfl, ?_⟩) | ((with_reducible refine gate_callee (f := 62) rfl ?_); refine goesL_ (some 44) rfl rfl Try.func62 (by kernel_rfl) rfl #[.int .i64 a0_3] rfl (by (try simp only [List.map_toArray, List.map_cons, List.map_nil]); first | done | rfl | (simp only [List.length_drop, List.length_take]; rfl)) ?_; (with_reducible refine (gatewardenref01_Of.calls a0_3 t273 _ A25.out).mono ?_); rintro e w59 ⟨rfl, hb⟩; refine ⟨_, rfl, ?_⟩; have n0_ := Aside0.mk (blk_below (g := gb262) (o := .cells #[.int .i64 a0_0, .int .i64 a0_1, .int .i64 a0_2, .int .i64 a0_3, .int .i64 a0_4, .slice A0_5 l0_5.length c0_5] 24 (0, 0)) (by (with_reducible repeat (first | refine blk_drewN ?_ _ | refine blk_drew ?_ | refine blk_alloc ?_ _)); exact BK262.out) hb); have n1_ := Aside0.mk (below_step (by repeat (first | (with_reducible first | exact HB.out | apply below_alloc | apply pw_below_drewN | apply below_drew1 | refine below_set ?_ GE262.out) | exact HB.out)) hb); clear BK262; clear HB; have BK262 := n0_; have HB := n1_; clear n0_ n1_; (try clear hb); (try clear hb2); (try clear hk); (try clear hi); have hcz60_0 : w59.cell? ⟨gb262, 0, none⟩ = some (.int .i64 a0_0) := (blk_cell BK262.out 0).trans rfl; have hcz60_1 : w59.cell? ⟨gb262, 1, none⟩ = some (.int .i64 a0_1) := (blk_cell BK262.out 1).trans rfl; have hcz60_2 : w59.cell? ⟨gb262, 2, none⟩ = some (.int .i64 a0_2) := (blk_cell BK262.out 2).trans rfl; have hcz60_3 : w59.cell? ⟨gb262, 3, none⟩ = some (.int .i64 a0_3) := (blk_cell BK262.out 3).trans rfl; have hcz60_4 : w59.cell? ⟨gb262, 4, none⟩ = some (.int .i64 a0_4) := (blk_cell BK262.out 4).trans rfl; have hcz60_5 : w59.cell? ⟨gb262, 5, none⟩ = some (.slice A0_5 l0_5.length c0_5) := (blk_cell BK262.out 5).trans rfl; have hfz60_0 := blk_frozen BK262.out 0; have hfz60_1 := blk_frozen BK262.out 1; have hfz60_2 := blk_frozen BK262.out 2; have hfz60_3 := blk_frozen BK262.out 3; have hfz60_4 := blk_frozen BK262.out 4; have hfz60_5 := blk_frozen BK262.out 5) | ((with_reducible refine gate_callee (f := 55) rfl ?_); refine goesL_ (some 49) rfl rfl Try.func55 (by kernel_rfl) rfl #[.slice A0_5 l0_5.length c0_5] rfl (by (try simp only [List.map_toArray, List.map_cons, List.map_nil]); first | done | rfl | (simp only [List.length_drop, List.length_take]; rfl)) ?_; (with_reducible refine (gatewardenref01_PutAll.calls kj4 _ _ l0_5 t274 t275 _ ?side1 ?side2 A27.out).mono ?_); (case side1 => repeat (first | exact (Kd.C_below HR0_5.out HB.out) | (with_reducible refine Kd.C_alloc ?_ _) | (with_reducible refine Kd.C_drewN ?_ _) | (with_reducible refine Kd.C_drew ?_))); (case side2 => exact HC0_5.out); rintro e w61 ⟨rfl, hb⟩; refine ⟨_, rfl, ?_⟩; have n0_ := Aside0.mk (blk_below (g := gb262) (o := .cells #[.int .i64 a0_0, .int .i64 a0_1, .int .i64 a0_2, .int .i64 a0_3, .int .i64 a0_4, .slice A0_5 l0_5.length c0_5] 24 (0, 0)) (by (with_reducible repeat (first | refine blk_drewN ?_ _ | refine blk_drew ?_ | refine blk_alloc ?_ _)); exact BK262.out) hb); have n1_ := Aside0.mk (below_step (by repeat (first | (with_reducible first | exact HB.out | apply below_alloc | apply pw_below_drewN | apply below_drew1 | refine below_set ?_ GE262.out) | exact HB.out)) hb); clear BK262; clear HB; have BK262 := n0_; have HB := n1_; clear n0_ n1_; (try clear hb); (try clear hb2); (try clear hk); (try clear hi); have hcz62_0 : w61.cell? ⟨gb262, 0, none⟩ = some (.int .i64 a0_0) := (blk_cell BK262.out 0).trans rfl; have hcz62_1 : w61.cell? ⟨gb262, 1, none⟩ = some (.int .i64 a0_1) := (blk_cell BK262.out 1).trans rfl; have hcz62_2 : w61.cell? ⟨gb262, 2, none⟩ = some (.int .i64 a0_2) := (blk_cell BK262.out 2).trans rfl; have hcz62_3 : w61.cell? ⟨gb262, 3, none⟩ = some (.int .i64 a0_3) := (blk_cell BK262.out 3).trans rfl; have hcz62_4 : w61.cell? ⟨gb262, 4, none⟩ = some (.int .i64 a0_4) := (blk_cell BK262.out 4).trans rfl; have hcz62_5 : w61.cell? ⟨gb262, 5, none⟩ = some (.slice A0_5 l0_5.length c0_5) := (blk_cell BK262.out 5).trans rfl; have hfz62_0 := blk_frozen BK262.out 0; have hfz62_1 := blk_frozen BK262.out 1; have hfz62_2 := blk_frozen BK262.out 2; have hfz62_3 := blk_frozen BK262.out 3; have hfz62_4 := blk_frozen BK262.out 4; have hfz62_5 := blk_frozen BK262.out 5) | ((with_reducible refine gate_callee (f := 56) rfl ?_); refine goesL_ (some 75) rfl rfl Try.func56 (by kernel_rfl) rfl #[.slice A0_5 l0_5.length c0_5] rfl (by (try simp only [List.map_toArray, List.map_cons, List.map_nil]); first | done | rfl | (simp only [List.length_drop, List.length_take]; rfl)) ?_; (with_reducible refine (gatewardenref05_Put.calls kj4 _ _ l0_5 t278 t279 _ ?side1 ?side2 A53.out).mono ?_); (case side1 => repeat (first | exact (Kd.C_below HR0_5.out HB.out) | (with_reducible refine Kd.C_alloc ?_ _) | (with_reducible refine Kd.C_drewN ?_ _) | (with_reducible refine Kd.C_drew ?_))); (case side2 => exact HC0_5.out); rintro e w63 ⟨rfl, hb⟩; refine ⟨_, rfl, ?_⟩; have n0_ := Aside0.mk (blk_below (g := gb262) (o := .cells #[.int .i64 a0_0, .int .i64 a0_1, .int .i64 a0_2, .int .i64 a0_3, .int .i64 a0_4, .slice A0_5 l0_5.length c0_5] 24 (0, 0)) (by (with_reducible repeat (first | refine blk_drewN ?_ _ | refine blk_drew ?_ | refine blk_alloc ?_ _)); exact BK262.out) hb); have n1_ := Aside0.mk (below_step (by repeat (first | (with_reducible first | exact HB.out | apply below_alloc | apply pw_below_drewN | apply below_drew1 | refine below_set ?_ GE262.out) | exact HB.out)) hb); clear BK262; clear HB; have BK262 := n0_; have HB := n1_; clear n0_ n1_; (try clear hb); (try clear hb2); (try clear hk); (try clear hi)))
             (try (rw [drewN_self w63]; generalize hq_ : World.drewN w63 _ = w63; have n0_ := Aside0.mk (blk_at hq_ BK262.out); have n1_ := Aside0.mk (below_at hq_ HB.out); clear hq_ BK262 HB; have BK262 := n0_; have HB := n1_; clear n0_ n1_))
             have n0_ := Aside0.mk (blk_drew BK262.out)
             have n1_ := Aside0.mk (below_drew1 HB.out)
             clear BK262
             clear HB
             have BK262 := n0_
             have HB := n1_
             clear n0_ n1_
             refine start_ (n := 15) (S := fun w' => w'.cell? ⟨gb262, 0, none⟩ = some (.int .i64 a0_0) ∧ w'.cell? ⟨gb262, 1, none⟩ = some (.int .i64 a0_1) ∧ w'.cell? ⟨gb262, 2, none⟩ = some (.int .i64 a0_2) ∧ w'.cell? ⟨gb262, 3, none⟩ = some (.int .i64 a0_3) ∧ w'.cell? ⟨gb262, 4, none⟩ = some (.int .i64 a0_4) ∧ w'.cell? ⟨gb262, 5, none⟩ = some (.slice A0_5 l0_5.length c0_5)) (ds := []) #[false, false, false, false, false, false, false, false, false, false, false, false, false, false, false] (by kernel_rfl) rfl rfl ⟨(blk_cell BK262.out 0).trans rfl, (blk_cell BK262.out 1).trans rfl, (blk_cell BK262.out 2).trans rfl, (blk_cell BK262.out 3).trans rfl, (blk_cell BK262.out 4).trans rfl, (blk_cell BK262.out 5).trans rfl⟩ (fun hHeld => ?_); refine with_tabW gatewardenref06_Put.tab19 gatewardenref06_Put.bits19 (fun HT_ HW_ => ?_)
             generalize w63.drew = w64 at BK262 HB hHeld ⊢
             refine pure_ (i := 0) (N := some 78) (v := ?_) (a' := ?_) #[true, false, false, false, false, false, false, false, false, false, false, false, false, false, false] rfl rfl (any_of HT_.out (by kernel_rfl)) (fun _ _ _ h => h) (Or.inl ⟨by rfl, ?_⟩) ?_ ?_
             rotate_left
             ·intro w'
              go_simp
              with_reducible rfl
             rotate_left
             ·simp only [Act.put, List.setIfInBounds_toArray, List.set_cons_zero, List.set_cons_succ, i64_w, i32_w]
              rfl
             refine pure_ (i := 1) (N := some 79) (v := ?_) (a' := ?_) #[true, true, false, false, false, false, false, false, false, false, false, false, false, false, false] rfl rfl (any_of HT_.out (by kernel_rfl)) (fun _ _ _ h => h) (Or.inl ⟨by rfl, ?_⟩) ?_ ?_
             rotate_left
             ·intro w'
              go_simp
              with_reducible rfl
             rotate_left
             ·simp only [Act.put, List.setIfInBounds_toArray, List.set_cons_zero, List.set_cons_succ, i64_w, i32_w]
              rfl
             refine pure_ (i := 5) (N := some 83) (v := ?_) (a' := ?_) #[true, true, false, false, false, true, false, false, false, false, false, false, false, false, false] rfl rfl (any_of HT_.out (by kernel_rfl)) (fun _ _ _ h => h) (Or.inl ⟨by rfl, ?_⟩) ?_ ?_
             rotate_left
             ·intro w'
              go_simp
              with_reducible rfl
             rotate_left
             ·simp only [Act.put, List.setIfInBounds_toArray, List.set_cons_zero, List.set_cons_succ, i64_w, i32_w]
              rfl
             refine pure_ (i := 6) (N := some 84) (v := ?_) (a' := ?_) #[true, true, false, false, false, true, true, false, false, false, false, false, false, false, false] rfl rfl (any_of HT_.out (by kernel_rfl)) (fun _ _ _ h => h) (Or.inl ⟨by rfl, ?_⟩) ?_ ?_
             rotate_left
             ·intro w'
              go_simp
              with_reducible rfl
             rotate_left
             ·simp only [Act.put, List.setIfInBounds_toArray, List.set_cons_zero, List.set_cons_succ, i64_w, i32_w]
              rfl
             refine pure_ (i := 7) (N := some 85) (v := ?_) (a' := ?_) #[true, true, false, false, false, true, true, true, false, false, false, false, false, false, false] rfl rfl (any_of HT_.out (by kernel_rfl)) (fun _ _ _ h => h) (Or.inl ⟨by rfl, ?_⟩) ?_ ?_
             rotate_left
             ·intro w'
              go_simp
              with_reducible rfl
             rotate_left
             ·simp only [Act.put, List.setIfInBounds_toArray, List.set_cons_zero, List.set_cons_succ, i64_w, i32_w]
              rfl
             refine pure_ (i := 11) (N := some 89) (v := ?_) (a' := ?_) #[true, true, false, false, false, true, true, true, false, false, false, true, false, false, false] rfl rfl (any_of HT_.out (by kernel_rfl)) (fun _ _ _ h => h) (Or.inl ⟨by rfl, ?_⟩) ?_ ?_
             rotate_left
             ·intro w'
              go_simp
              with_reducible rfl
             rotate_left
             ·simp only [Act.put, List.setIfInBounds_toArray, List.set_cons_zero, List.set_cons_succ, i64_w, i32_w]
              rfl
             refine take_ (i := 2) (N := some 80) (v := ?_) (a' := ?_) #[true, true, true, false, false, true, true, true, false, false, false, true, false, false, false] rfl rfl (take_ofW HT_.out HW_.out (by kernel_rfl)) (fun _ _ _ h => h) (Or.inl ⟨by rfl, ?_⟩) hHeld ?_ ?_
             rotate_left
             ·rintro w' ⟨s0, s1, s2, s3, s4, s5⟩
              go_simp
              with_reducible rfl
             rotate_left
             ·simp only [Act.put, List.setIfInBounds_toArray, List.set_cons_zero, List.set_cons_succ, i64_w, i32_w]
              rfl
             refine join_ (σ := Value) 4 #[true, true, true, true, true, true, true, true, true, true, false, true, false, false, false] (fun s_ => [(81, .string t280), (86, s_), (87, .string (strOfNums y281)), (82, .string ((x4_4 ++ t273) ++ t280))]) (fun s_ w' => (w'.cell? ⟨gb262, 0, none⟩ = some (.int .i64 a0_0) ∧ w'.cell? ⟨gb262, 1, none⟩ = some (.int .i64 a0_1) ∧ w'.cell? ⟨gb262, 2, none⟩ = some (.int .i64 a0_2) ∧ w'.cell? ⟨gb262, 3, none⟩ = some (.int .i64 a0_3) ∧ w'.cell? ⟨gb262, 4, none⟩ = some (.int .i64 a0_4) ∧ w'.cell? ⟨gb262, 5, none⟩ = some (.slice A0_5 l0_5.length c0_5)) ∧ (Kd.R (Kd.int .u8) 5 w' w.heap.size (fun _ => True) s_ y281) ∧ (w'.heap[gb262]? = some (.cells #[.int .i64 a0_0, .int .i64 a0_1, .int .i64 a0_2, .int .i64 a0_3, .int .i64 a0_4, .slice A0_5 l0_5.length c0_5] 24 (0, 0))) ∧ (Below w.heap.size w w')) ?_ ?_
             rotate_left
             ·intro hCont
              refine two_ (i := 3) (j := 8) (Ni := some 81) (Nj := some 86) #[true, true, true, true, false, true, true, true, false, false, false, true, false, false, false] #[true, true, true, false, false, true, true, true, true, false, false, true, false, false, false] rfl rfl rfl rfl (two_of HT_.out (by kernel_rfl)) (by decide) (by decide) (fun K hK => ?_) (fun K hK => ?_)
              ·skip
               refine goes_ Try.func62 (by kernel_rfl) rfl #[.int .i64 a0_4] (by rfl) rfl rfl (by (try simp only [List.map_toArray, List.map_cons, List.map_nil]); first | done | rfl | (simp only [List.length_drop, List.length_take]; rfl)) ?_
               with_reducible refine (gatewardenref01_Of.calls a0_4 t280 _ A54.out).mono ?_
               rintro e w65 ⟨rfl, hb⟩
               refine ⟨_, rfl, ?_⟩
               have n0_ := Aside0.mk (blk_below (g := gb262) (o := .cells #[.int .i64 a0_0, .int .i64 a0_1, .int .i64 a0_2, .int .i64 a0_3, .int .i64 a0_4, .slice A0_5 l0_5.length c0_5] 24 (0, 0)) (by (with_reducible repeat (first | refine blk_drewN ?_ _ | refine blk_drew ?_ | refine blk_alloc ?_ _)); exact BK262.out) hb)
               have n1_ := Aside0.mk (below_step (by repeat (first | (with_reducible first | exact HB.out | apply below_alloc | apply pw_below_drewN | apply below_drew1 | refine below_set ?_ GE262.out) | exact HB.out)) hb)
               clear BK262
               clear HB
               have BK262 := n0_
               have HB := n1_
               clear n0_ n1_
               (try clear hb)
               (try clear hb2)
               (try clear hk)
               (try clear hi)
               refine hK.out _ _ ⟨(blk_cell BK262.out 0).trans rfl, (blk_cell BK262.out 1).trans rfl, (blk_cell BK262.out 2).trans rfl, (blk_cell BK262.out 3).trans rfl, (blk_cell BK262.out 4).trans rfl, (blk_cell BK262.out 5).trans rfl⟩ (fun hHeld => ?_)
               clear hK K
               refine norm_ (a' := ?_) ?_ ?_
               rotate_left
               ·show Act.put _ (some 81) _ = _
                simp only [Act.put, List.setIfInBounds_toArray, List.set_cons_zero, List.set_cons_succ, i64_w, i32_w]
                rfl
               refine pure_ (i := 4) (N := some 82) (v := ?_) (a' := ?_) #[true, true, true, true, true, true, true, true, false, false, false, true, false, false, false] rfl rfl (any_of HT_.out (by kernel_rfl)) (fun _ _ _ h => h) (Or.inl ⟨by rfl, ?_⟩) ?_ ?_
               rotate_left
               ·intro w'
                go_simp
                with_reducible rfl
               rotate_left
               ·simp only [Act.put, List.setIfInBounds_toArray, List.set_cons_zero, List.set_cons_succ, i64_w, i32_w]
                rfl
               refine one_ (i := 8) (N := some 86) #[true, true, true, true, true, true, true, true, true, false, false, true, false, false, false] rfl rfl (one_of HT_.out (by kernel_rfl)) (by decide) (fun K hK => ?_)
               refine Kd.R_lit_step (Kd.int .u8) _ 5 ?hg (N := 86) ?hd (xs := ([((t278.size : Int)) % 256] : List Int)) (inner := [.int .u8 (((t278.size : Int)) % 256)]) (ok := fun _ => True) (okp := fun _ => True) ?hr ?hp (fun _ hk => hk) trivial (Below.refl _ _) (Nat.le_refl _) (by simp) ?_; (case hd => rfl); (case hg => rfl); (case hr => first | (go_simp; done) | (go_simp; rfl)); (case hp => exact (Reps.one (show Kd.M (Kd.int .u8) _ _ _ (((t278.size : Int)) % 256) [.int .u8 (((t278.size : Int)) % 256)] from rfl) (Reps.none _ _)))
               intro v282 w66 ho67 hb hg_ hnew_
               clear hg_ hnew_
               (first | rw [← Ny281.out] at ho67 | (simp only [Int.reduceToNat] at ho67; rw [← Ny281.out] at ho67))
               have n0_ := Aside0.mk (Kd.R_lower ho67 (below_size (by repeat (first | (with_reducible first | exact HB.out | apply below_alloc | apply pw_below_drewN | apply below_drew1 | refine below_set ?_ GE262.out) | exact HB.out))))
               have n1_ := Aside0.mk (blk_below (g := gb262) (o := .cells #[.int .i64 a0_0, .int .i64 a0_1, .int .i64 a0_2, .int .i64 a0_3, .int .i64 a0_4, .slice A0_5 l0_5.length c0_5] 24 (0, 0)) (by (with_reducible repeat (first | refine blk_drewN ?_ _ | refine blk_drew ?_ | refine blk_alloc ?_ _)); exact BK262.out) hb)
               have n2_ := Aside0.mk (below_step (by repeat (first | (with_reducible first | exact HB.out | apply below_alloc | apply pw_below_drewN | apply below_drew1 | refine below_set ?_ GE262.out) | exact HB.out)) hb)
               clear BK262
               clear HB
               have HO283 := n0_
               have BK262 := n1_
               have HB := n2_
               clear n0_ n1_ n2_
               clear hb ho67
               refine hK.out _ _ ⟨(blk_cell BK262.out 0).trans rfl, (blk_cell BK262.out 1).trans rfl, (blk_cell BK262.out 2).trans rfl, (blk_cell BK262.out 3).trans rfl, (blk_cell BK262.out 4).trans rfl, (blk_cell BK262.out 5).trans rfl⟩ (fun hHeld => ?_)
               clear hK K
               refine norm_ (a' := ?_) ?_ ?_
               rotate_left
               ·show Act.put _ (some 86) _ = _
                simp only [Act.put, List.setIfInBounds_toArray, List.set_cons_zero, List.set_cons_succ, i64_w, i32_w]
                rfl
               refine one_ (i := 9) (N := some 87) #[true, true, true, true, true, true, true, true, true, true, false, true, false, false, false] rfl rfl (one_of HT_.out (by kernel_rfl)) (by decide) (fun K hK => ?_)
               have hcv68 := own_string (P := Try.prog) Try.underlying34 Try.underlying5 Try.underlying9 (Kd.own_of_R HO283.out)
               refine value_ (w1 := ?_) (v := ?_) (by rfl) rfl ?_ ?_
               rotate_left 2
               ·go_simp
                constructor
                ·rfl
                ·rfl
               clear hcv68
               refine hK.out _ _ ⟨(blk_cell BK262.out 0).trans rfl, (blk_cell BK262.out 1).trans rfl, (blk_cell BK262.out 2).trans rfl, (blk_cell BK262.out 3).trans rfl, (blk_cell BK262.out 4).trans rfl, (blk_cell BK262.out 5).trans rfl⟩ (fun hHeld => ?_)
               clear hK K
               refine norm_ (a' := ?_) ?_ ?_
               rotate_left
               ·show Act.put _ (some 87) _ = _
                simp only [Act.put, List.setIfInBounds_toArray, List.set_cons_zero, List.set_cons_succ, i64_w, i32_w]
                rfl
               exact norm_ (by simp only [putAll, Act.put, List.setIfInBounds_toArray, List.set_cons_zero, List.set_cons_succ]) (hCont (v282) _ ⟨hHeld, (by (with_reducible repeat (first | apply Kd.R_alloc | apply Kd.R_drewN | apply Kd.R_drew)); exact HO283.out), (by (with_reducible repeat (first | refine blk_drewN ?_ _ | refine blk_drew ?_ | refine blk_alloc ?_ _)); exact BK262.out), (by repeat (first | (with_reducible first | exact HB.out | apply below_alloc | apply pw_below_drewN | apply below_drew1 | refine below_set ?_ GE262.out) | exact HB.out))⟩)
              ·skip
               refine Kd.R_lit_step (Kd.int .u8) _ 5 ?hg (N := 86) ?hd (xs := ([((t278.size : Int)) % 256] : List Int)) (inner := [.int .u8 (((t278.size : Int)) % 256)]) (ok := fun _ => True) (okp := fun _ => True) ?hr ?hp (fun _ hk => hk) trivial (Below.refl _ _) (Nat.le_refl _) (by simp) ?_; (case hd => rfl); (case hg => rfl); (case hr => first | (go_simp; done) | (go_simp; rfl)); (case hp => exact (Reps.one (show Kd.M (Kd.int .u8) _ _ _ (((t278.size : Int)) % 256) [.int .u8 (((t278.size : Int)) % 256)] from rfl) (Reps.none _ _)))
               intro v282 w65 ho66 hb hg_ hnew_
               clear hg_ hnew_
               (first | rw [← Ny281.out] at ho66 | (simp only [Int.reduceToNat] at ho66; rw [← Ny281.out] at ho66))
               have n0_ := Aside0.mk (Kd.R_lower ho66 (below_size (by repeat (first | (with_reducible first | exact HB.out | apply below_alloc | apply pw_below_drewN | apply below_drew1 | refine below_set ?_ GE262.out) | exact HB.out))))
               have n1_ := Aside0.mk (blk_below (g := gb262) (o := .cells #[.int .i64 a0_0, .int .i64 a0_1, .int .i64 a0_2, .int .i64 a0_3, .int .i64 a0_4, .slice A0_5 l0_5.length c0_5] 24 (0, 0)) (by (with_reducible repeat (first | refine blk_drewN ?_ _ | refine blk_drew ?_ | refine blk_alloc ?_ _)); exact BK262.out) hb)
               have n2_ := Aside0.mk (below_step (by repeat (first | (with_reducible first | exact HB.out | apply below_alloc | apply pw_below_drewN | apply below_drew1 | refine below_set ?_ GE262.out) | exact HB.out)) hb)
               clear BK262
               clear HB
               have HO283 := n0_
               have BK262 := n1_
               have HB := n2_
               clear n0_ n1_ n2_
               clear hb ho66
               refine hK.out _ _ ⟨(blk_cell BK262.out 0).trans rfl, (blk_cell BK262.out 1).trans rfl, (blk_cell BK262.out 2).trans rfl, (blk_cell BK262.out 3).trans rfl, (blk_cell BK262.out 4).trans rfl, (blk_cell BK262.out 5).trans rfl⟩ (fun hHeld => ?_)
               clear hK K
               refine norm_ (a' := ?_) ?_ ?_
               rotate_left
               ·show Act.put _ (some 86) _ = _
                simp only [Act.put, List.setIfInBounds_toArray, List.set_cons_zero, List.set_cons_succ, i64_w, i32_w]
                rfl
               refine two_ (i := 3) (j := 9) (Ni := some 81) (Nj := some 87) #[true, true, true, true, false, true, true, true, true, false, false, true, false, false, false] #[true, true, true, false, false, true, true, true, true, true, false, true, false, false, false] rfl rfl rfl rfl (two_of HT_.out (by kernel_rfl)) (by decide) (by decide) (fun K hK => ?_) (fun K hK => ?_)
               ·skip
                refine goes_ Try.func62 (by kernel_rfl) rfl #[.int .i64 a0_4] (by rfl) rfl rfl (by (try simp only [List.map_toArray, List.map_cons, List.map_nil]); first | done | rfl | (simp only [List.length_drop, List.length_take]; rfl)) ?_
                with_reducible refine (gatewardenref01_Of.calls a0_4 t280 _ A54.out).mono ?_
                rintro e w67 ⟨rfl, hb⟩
                refine ⟨_, rfl, ?_⟩
                have n0_ := Aside0.mk (Kd.R_below (by (with_reducible repeat (first | apply Kd.R_alloc | apply Kd.R_drewN | apply Kd.R_drew)); exact HO283.out) hb)
                have n1_ := Aside0.mk (blk_below (g := gb262) (o := .cells #[.int .i64 a0_0, .int .i64 a0_1, .int .i64 a0_2, .int .i64 a0_3, .int .i64 a0_4, .slice A0_5 l0_5.length c0_5] 24 (0, 0)) (by (with_reducible repeat (first | refine blk_drewN ?_ _ | refine blk_drew ?_ | refine blk_alloc ?_ _)); exact BK262.out) hb)
                have n2_ := Aside0.mk (below_step (by repeat (first | (with_reducible first | exact HB.out | apply below_alloc | apply pw_below_drewN | apply below_drew1 | refine below_set ?_ GE262.out) | exact HB.out)) hb)
                clear HO283
                clear BK262
                clear HB
                have HO283 := n0_
                have BK262 := n1_
                have HB := n2_
                clear n0_ n1_ n2_
                (try clear hb)
                (try clear hb2)
                (try clear hk)
                (try clear hi)
                refine hK.out _ _ ⟨(blk_cell BK262.out 0).trans rfl, (blk_cell BK262.out 1).trans rfl, (blk_cell BK262.out 2).trans rfl, (blk_cell BK262.out 3).trans rfl, (blk_cell BK262.out 4).trans rfl, (blk_cell BK262.out 5).trans rfl⟩ (fun hHeld => ?_)
                clear hK K
                refine norm_ (a' := ?_) ?_ ?_
                rotate_left
                ·show Act.put _ (some 81) _ = _
                 simp only [Act.put, List.setIfInBounds_toArray, List.set_cons_zero, List.set_cons_succ, i64_w, i32_w]
                 rfl
                refine pure_ (i := 4) (N := some 82) (v := ?_) (a' := ?_) #[true, true, true, true, true, true, true, true, true, false, false, true, false, false, false] rfl rfl (any_of HT_.out (by kernel_rfl)) (fun _ _ _ h => h) (Or.inl ⟨by rfl, ?_⟩) ?_ ?_
                rotate_left
                ·intro w'
                 go_simp
                 with_reducible rfl
                rotate_left
                ·simp only [Act.put, List.setIfInBounds_toArray, List.set_cons_zero, List.set_cons_succ, i64_w, i32_w]
                 rfl
                refine one_ (i := 9) (N := some 87) #[true, true, true, true, true, true, true, true, true, true, false, true, false, false, false] rfl rfl (one_of HT_.out (by kernel_rfl)) (by decide) (fun K hK => ?_)
                have hcv68 := own_string (P := Try.prog) Try.underlying34 Try.underlying5 Try.underlying9 (Kd.own_of_R HO283.out)
                refine value_ (w1 := ?_) (v := ?_) (by rfl) rfl ?_ ?_
                rotate_left 2
                ·go_simp
                 constructor
                 ·rfl
                 ·rfl
                clear hcv68
                refine hK.out _ _ ⟨(blk_cell BK262.out 0).trans rfl, (blk_cell BK262.out 1).trans rfl, (blk_cell BK262.out 2).trans rfl, (blk_cell BK262.out 3).trans rfl, (blk_cell BK262.out 4).trans rfl, (blk_cell BK262.out 5).trans rfl⟩ (fun hHeld => ?_)
                clear hK K
                refine norm_ (a' := ?_) ?_ ?_
                rotate_left
                ·show Act.put _ (some 87) _ = _
                 simp only [Act.put, List.setIfInBounds_toArray, List.set_cons_zero, List.set_cons_succ, i64_w, i32_w]
                 rfl
                exact norm_ (by simp only [putAll, Act.put, List.setIfInBounds_toArray, List.set_cons_zero, List.set_cons_succ]) (hCont (v282) _ ⟨hHeld, (by (with_reducible repeat (first | apply Kd.R_alloc | apply Kd.R_drewN | apply Kd.R_drew)); exact HO283.out), (by (with_reducible repeat (first | refine blk_drewN ?_ _ | refine blk_drew ?_ | refine blk_alloc ?_ _)); exact BK262.out), (by repeat (first | (with_reducible first | exact HB.out | apply below_alloc | apply pw_below_drewN | apply below_drew1 | refine below_set ?_ GE262.out) | exact HB.out))⟩)
               ·skip
                have hcv67 := own_string (P := Try.prog) Try.underlying34 Try.underlying5 Try.underlying9 (Kd.own_of_R HO283.out)
                refine value_ (w1 := ?_) (v := ?_) (by rfl) rfl ?_ ?_
                rotate_left 2
                ·go_simp
                 constructor
                 ·rfl
                 ·rfl
                clear hcv67
                refine hK.out _ _ ⟨(blk_cell BK262.out 0).trans rfl, (blk_cell BK262.out 1).trans rfl, (blk_cell BK262.out 2).trans rfl, (blk_cell BK262.out 3).trans rfl, (blk_cell BK262.out 4).trans rfl, (blk_cell BK262.out 5).trans rfl⟩ (fun hHeld => ?_)
                clear hK K
                refine norm_ (a' := ?_) ?_ ?_
                rotate_left
                ·show Act.put _ (some 87) _ = _
                 simp only [Act.put, List.setIfInBounds_toArray, List.set_cons_zero, List.set_cons_succ, i64_w, i32_w]
                 rfl
                refine one_ (i := 3) (N := some 81) #[true, true, true, true, false, true, true, true, true, true, false, true, false, false, false] rfl rfl (one_of HT_.out (by kernel_rfl)) (by decide) (fun K hK => ?_)
                refine goes_ Try.func62 (by kernel_rfl) rfl #[.int .i64 a0_4] (by rfl) rfl rfl (by (try simp only [List.map_toArray, List.map_cons, List.map_nil]); first | done | rfl | (simp only [List.length_drop, List.length_take]; rfl)) ?_
                with_reducible refine (gatewardenref01_Of.calls a0_4 t280 _ A54.out).mono ?_
                rintro e w68 ⟨rfl, hb⟩
                refine ⟨_, rfl, ?_⟩
                have n0_ := Aside0.mk (Kd.R_below (by (with_reducible repeat (first | apply Kd.R_alloc | apply Kd.R_drewN | apply Kd.R_drew)); exact HO283.out) hb)
                have n1_ := Aside0.mk (blk_below (g := gb262) (o := .cells #[.int .i64 a0_0, .int .i64 a0_1, .int .i64 a0_2, .int .i64 a0_3, .int .i64 a0_4, .slice A0_5 l0_5.length c0_5] 24 (0, 0)) (by (with_reducible repeat (first | refine blk_drewN ?_ _ | refine blk_drew ?_ | refine blk_alloc ?_ _)); exact BK262.out) hb)
                have n2_ := Aside0.mk (below_step (by repeat (first | (with_reducible first | exact HB.out | apply below_alloc | apply pw_below_drewN | apply below_drew1 | refine below_set ?_ GE262.out) | exact HB.out)) hb)
                clear HO283
                clear BK262
                clear HB
                have HO283 := n0_
                have BK262 := n1_
                have HB := n2_
                clear n0_ n1_ n2_
                (try clear hb)
                (try clear hb2)
                (try clear hk)
                (try clear hi)
                refine hK.out _ _ ⟨(blk_cell BK262.out 0).trans rfl, (blk_cell BK262.out 1).trans rfl, (blk_cell BK262.out 2).trans rfl, (blk_cell BK262.out 3).trans rfl, (blk_cell BK262.out 4).trans rfl, (blk_cell BK262.out 5).trans rfl⟩ (fun hHeld => ?_)
                clear hK K
                refine norm_ (a' := ?_) ?_ ?_
                rotate_left
                ·show Act.put _ (some 81) _ = _
                 simp only [Act.put, List.setIfInBounds_toArray, List.set_cons_zero, List.set_cons_succ, i64_w, i32_w]
                 rfl
                refine pure_ (i := 4) (N := some 82) (v := ?_) (a' := ?_) #[true, true, true, true, true, true, true, true, true, true, false, true, false, false, false] rfl rfl (any_of HT_.out (by kernel_rfl)) (fun _ _ _ h => h) (Or.inl ⟨by rfl, ?_⟩) ?_ ?_
                rotate_left
                ·intro w'
                 go_simp
                 with_reducible rfl
                rotate_left
                ·simp only [Act.put, List.setIfInBounds_toArray, List.set_cons_zero, List.set_cons_succ, i64_w, i32_w]
                 rfl
                exact norm_ (by simp only [putAll, Act.put, List.setIfInBounds_toArray, List.set_cons_zero, List.set_cons_succ]) (hCont (v282) _ ⟨hHeld, (by (with_reducible repeat (first | apply Kd.R_alloc | apply Kd.R_drewN | apply Kd.R_drew)); exact HO283.out), (by (with_reducible repeat (first | refine blk_drewN ?_ _ | refine blk_drew ?_ | refine blk_alloc ?_ _)); exact BK262.out), (by repeat (first | (with_reducible first | exact HB.out | apply below_alloc | apply pw_below_drewN | apply below_drew1 | refine below_set ?_ GE262.out) | exact HB.out))⟩)
             rintro v282 w69 ⟨hS_, h0_, h1_, h2_⟩
             have n0_ : Aside0 (Kd.R (Kd.int .u8) 5 w69 w.heap.size (fun _ => True) v282 y281) := ⟨h0_⟩
             have n1_ : Aside0 (w69.heap[gb262]? = some (.cells #[.int .i64 a0_0, .int .i64 a0_1, .int .i64 a0_2, .int .i64 a0_3, .int .i64 a0_4, .slice A0_5 l0_5.length c0_5] 24 (0, 0))) := ⟨h1_⟩
             have n2_ : Aside0 (Below w.heap.size w w69) := ⟨h2_⟩
             clear BK262
             clear HB
             clear h0_ h1_ h2_
             have HO283 := n0_
             have BK262 := n1_
             have HB := n2_
             clear n0_ n1_ n2_
             have hHeld : w69.cell? ⟨gb262, 0, none⟩ = some (.int .i64 a0_0) ∧ w69.cell? ⟨gb262, 1, none⟩ = some (.int .i64 a0_1) ∧ w69.cell? ⟨gb262, 2, none⟩ = some (.int .i64 a0_2) ∧ w69.cell? ⟨gb262, 3, none⟩ = some (.int .i64 a0_3) ∧ w69.cell? ⟨gb262, 4, none⟩ = some (.int .i64 a0_4) ∧ w69.cell? ⟨gb262, 5, none⟩ = some (.slice A0_5 l0_5.length c0_5) := hS_
             refine norm_ (a' := ?_) ?_ ?_
             rotate_left
             ·simp only [putAll, Act.put, List.setIfInBounds_toArray, List.set_cons_zero, List.set_cons_succ]
              rfl
             refine pure_ (i := 10) (N := some 88) (v := ?_) (a' := ?_) #[true, true, true, true, true, true, true, true, true, true, true, true, false, false, false] rfl rfl (any_of HT_.out (by kernel_rfl)) (fun _ _ _ h => h) (Or.inl ⟨by rfl, ?_⟩) ?_ ?_
             rotate_left
             ·intro w'
              go_simp
              with_reducible rfl
             rotate_left
             ·simp only [Act.put, List.setIfInBounds_toArray, List.set_cons_zero, List.set_cons_succ, i64_w, i32_w]
              rfl
             refine pure_ (i := 12) (N := some 90) (v := ?_) (a' := ?_) #[true, true, true, true, true, true, true, true, true, true, true, true, true, false, false] rfl rfl (any_of HT_.out (by kernel_rfl)) (fun _ _ _ h => h) (Or.inl ⟨by rfl, ?_⟩) ?_ ?_
             rotate_left
             ·intro w'
              go_simp
              with_reducible rfl
             rotate_left
             ·simp only [Act.put, List.setIfInBounds_toArray, List.set_cons_zero, List.set_cons_succ, i64_w, i32_w]
              rfl
             refine pure_ (i := 13) (N := some 2) (v := ?_) (a' := ?_) #[true, true, true, true, true, true, true, true, true, true, true, true, true, true, false] rfl rfl (any_of HT_.out (by kernel_rfl)) (fun _ _ _ h => h) (Or.inl ⟨by rfl, ?_⟩) ?_ ?_
             rotate_left
             ·intro w'
              go_simp
              with_reducible rfl
             rotate_left
             ·simp only [Act.put, List.setIfInBounds_toArray, List.set_cons_zero, List.set_cons_succ, i64_w, i32_w]
              rfl
             refine pure_ (i := 14) (N := some 3) (v := ?_) (a' := ?_) #[true, true, true, true, true, true, true, true, true, true, true, true, true, true, true] rfl rfl (any_of HT_.out (by kernel_rfl)) (fun _ _ _ h => h) (Or.inl ⟨by rfl, ?_⟩) ?_ ?_
             rotate_left
             ·intro w'
              go_simp
              with_reducible rfl
             rotate_left
             ·simp only [Act.put, List.setIfInBounds_toArray, List.set_cons_zero, List.set_cons_succ, i64_w, i32_w]
              rfl
             refine done_ (done_of HT_.out (by kernel_rfl)) ?_
             try go_wp2
             go_ret2
             exact ⟨by first | rfl | (simp [errW_none, errW_some] <;> rfl) | (simp [*, errW_none, errW_some] <;> rfl), by repeat (first | (with_reducible first | exact HB.out | apply below_alloc | apply pw_below_drewN | apply below_drew1 | refine below_set ?_ GE262.out) | exact HB.out)⟩
            ·rw [if_neg c57] at H
             exact absurd H (by simp)
           ·rw [if_neg c56] at H
            exact absurd H (by simp)
          ·rw [if_neg c55] at H
           exact absurd H (by simp)
         ·rw [if_neg c52] at H
          have c52b0 : (t272 == 1) = false := beq_eq_false_iff_ne.mpr c52
          have c52b1 : (t272 != 1) = true := bne_iff_ne.mpr c52
          replace H := Option.bind_eq_some_iff.mp H
          obtain ⟨t284, A700, H⟩ := H
          replace H : (if (x4_4 ++ t273).size + t284.size ≤ 9223372036854775807 then ((some (([((t274.size : Int)) % 256] : List Int) : List Int)).bind fun y285 => (if ((x4_4 ++ t273) ++ t284).size + (strOfNums y285).size ≤ 9223372036854775807 then (if (((x4_4 ++ t273) ++ t284) ++ (strOfNums y285)).size + t274.size ≤ 9223372036854775807 then (some ((((x4_4 ++ t273) ++ t284) ++ (strOfNums y285)) ++ t274, true)) else (none)) else (none))) else (none)) = some (r1, r2) := H
          have A70 := Aside0.mk A700
          clear A700
          by_cases c71 : (x4_4 ++ t273).size + t284.size ≤ 9223372036854775807
          ·rw [if_pos c71] at H
           have c71b0 := eq_true c71
           have c71b1 : decide ((x4_4 ++ t273).size + t284.size ≤ 9223372036854775807) = true := decide_eq_true c71
           try have c71b2 : (9223372036854775807 < (x4_4 ++ t273).size + t284.size) = False := eq_false (Nat.not_lt.2 c71)
           (try (have c71b3 := c71b2; simp only [ByteArray.size_append] at c71b3))
           (try (have c71b4 := c71b1; simp only [ByteArray.size_append] at c71b4))
           (try (have c71b5 := c71b0; simp only [ByteArray.size_append] at c71b5))
           obtain ⟨y285, hy285⟩ : ∃ y_ : List Int, y_ = (([((t274.size : Int)) % 256] : List Int)) := ⟨_, rfl⟩
           replace H : (if ((x4_4 ++ t273) ++ t284).size + (strOfNums y285).size ≤ 9223372036854775807 then (if (((x4_4 ++ t273) ++ t284) ++ (strOfNums y285)).size + t274.size ≤ 9223372036854775807 then (some ((((x4_4 ++ t273) ++ t284) ++ (strOfNums y285)) ++ t274, true)) else (none)) else (none)) = some (r1, r2) := by first | (rw [hy285]; with_reducible exact H) | (have H2_ := (Option.bind_some _ _).symm.trans H; rw [hy285]; with_reducible exact H2_) | (have H2_ := (Option.bind_some _ _).symm.trans H; with_reducible exact H2_) | with_reducible exact H | (rw [hy285]; exact H) | exact H
           have Ny285 := Aside0.mk hy285
           clear hy285
           by_cases c72 : ((x4_4 ++ t273) ++ t284).size + (strOfNums y285).size ≤ 9223372036854775807
           ·rw [if_pos c72] at H
            have c72b0 := eq_true c72
            have c72b1 : decide (((x4_4 ++ t273) ++ t284).size + (strOfNums y285).size ≤ 9223372036854775807) = true := decide_eq_true c72
            try have c72b2 : (9223372036854775807 < ((x4_4 ++ t273) ++ t284).size + (strOfNums y285).size) = False := eq_false (Nat.not_lt.2 c72)
            (try (have c72b3 := c72b2; simp only [ByteArray.size_append] at c72b3))
            (try (have c72b4 := c72b1; simp only [ByteArray.size_append] at c72b4))
            (try (have c72b5 := c72b0; simp only [ByteArray.size_append] at c72b5))
            by_cases c73 : (((x4_4 ++ t273) ++ t284) ++ (strOfNums y285)).size + t274.size ≤ 9223372036854775807
            ·rw [if_pos c73] at H
             have c73b0 := eq_true c73
             have c73b1 : decide ((((x4_4 ++ t273) ++ t284) ++ (strOfNums y285)).size + t274.size ≤ 9223372036854775807) = true := decide_eq_true c73
             try have c73b2 : (9223372036854775807 < (((x4_4 ++ t273) ++ t284) ++ (strOfNums y285)).size + t274.size) = False := eq_false (Nat.not_lt.2 c73)
             (try (have c73b3 := c73b2; simp only [ByteArray.size_append] at c73b3))
             (try (have c73b4 := c73b1; simp only [ByteArray.size_append] at c73b4))
             (try (have c73b5 := c73b0; simp only [ByteArray.size_append] at c73b5))
             simp only [Option.some.injEq, Prod.mk.injEq] at H
             obtain ⟨rfl, rfl⟩ := H
             have hcz74_0 : wc.cell? ⟨gb262, 0, none⟩ = some (.int .i64 a0_0) := (blk_cell BK262.out 0).trans rfl
             have hcz74_1 : wc.cell? ⟨gb262, 1, none⟩ = some (.int .i64 a0_1) := (blk_cell BK262.out 1).trans rfl
             have hcz74_2 : wc.cell? ⟨gb262, 2, none⟩ = some (.int .i64 a0_2) := (blk_cell BK262.out 2).trans rfl
             have hcz74_3 : wc.cell? ⟨gb262, 3, none⟩ = some (.int .i64 a0_3) := (blk_cell BK262.out 3).trans rfl
             have hcz74_4 : wc.cell? ⟨gb262, 4, none⟩ = some (.int .i64 a0_4) := (blk_cell BK262.out 4).trans rfl
             have hcz74_5 : wc.cell? ⟨gb262, 5, none⟩ = some (.slice A0_5 l0_5.length c0_5) := (blk_cell BK262.out 5).trans rfl
             have hfz74_0 := blk_frozen BK262.out 0
             have hfz74_1 := blk_frozen BK262.out 1
             have hfz74_2 := blk_frozen BK262.out 2
             have hfz74_3 := blk_frozen BK262.out 3
             have hfz74_4 := blk_frozen BK262.out 4
             have hfz74_5 := blk_frozen BK262.out 5
             try go_wp2_with (first | ((with_reducible refine gate_callee (f := 63) rfl ?_); refine goesL_ (some 34) rfl rfl Try.func63 (by kernel_rfl) rfl #[.int .i64 a0_0] rfl (by (try simp only [List.map_toArray, List.map_cons, List.map_nil]); first | done | rfl | (simp only [List.length_drop, List.length_take]; rfl)) ?_; (with_reducible refine (gatewardenref06_writes.calls a0_0 t270 t271 t272 _ A22.out).mono ?_); rintro e w' ⟨rfl, ⟨nd, rfl⟩⟩; refine ⟨_, rfl, ?_⟩) | ((with_reducible refine gate_callee (f := 62) rfl ?_); refine goesL_ (some 44) rfl rfl Try.func62 (by kernel_rfl) rfl #[.int .i64 a0_3] rfl (by (try simp only [List.map_toArray, List.map_cons, List.map_nil]); first | done | rfl | (simp only [List.length_drop, List.length_take]; rfl)) ?_; (with_reducible refine (gatewardenref01_Of.calls a0_3 t273 _ A25.out).mono ?_); rintro e w75 ⟨rfl, hb⟩; refine ⟨_, rfl, ?_⟩; have n0_ := Aside0.mk (blk_below (g := gb262) (o := .cells #[.int .i64 a0_0, .int .i64 a0_1, .int .i64 a0_2, .int .i64 a0_3, .int .i64 a0_4, .slice A0_5 l0_5.length c0_5] 24 (0, 0)) (by (with_reducible repeat (first | refine blk_drewN ?_ _ | refine blk_drew ?_ | refine blk_alloc ?_ _)); exact BK262.out) hb); have n1_ := Aside0.mk (below_step (by repeat (first | (with_reducible first | exact HB.out | apply below_alloc | apply pw_below_drewN | apply below_drew1 | refine below_set ?_ GE262.out) | exact HB.out)) hb); clear BK262; clear HB; have BK262 := n0_; have HB := n1_; clear n0_ n1_; (try clear hb); (try clear hb2); (try clear hk); (try clear hi); have hcz76_0 : w75.cell? ⟨gb262, 0, none⟩ = some (.int .i64 a0_0) := (blk_cell BK262.out 0).trans rfl; have hcz76_1 : w75.cell? ⟨gb262, 1, none⟩ = some (.int .i64 a0_1) := (blk_cell BK262.out 1).trans rfl; have hcz76_2 : w75.cell? ⟨gb262, 2, none⟩ = some (.int .i64 a0_2) := (blk_cell BK262.out 2).trans rfl; have hcz76_3 : w75.cell? ⟨gb262, 3, none⟩ = some (.int .i64 a0_3) := (blk_cell BK262.out 3).trans rfl; have hcz76_4 : w75.cell? ⟨gb262, 4, none⟩ = some (.int .i64 a0_4) := (blk_cell BK262.out 4).trans rfl; have hcz76_5 : w75.cell? ⟨gb262, 5, none⟩ = some (.slice A0_5 l0_5.length c0_5) := (blk_cell BK262.out 5).trans rfl; have hfz76_0 := blk_frozen BK262.out 0; have hfz76_1 := blk_frozen BK262.out 1; have hfz76_2 := blk_frozen BK262.out 2; have hfz76_3 := blk_frozen BK262.out 3; have hfz76_4 := blk_frozen BK262.out 4; have hfz76_5 := blk_frozen BK262.out 5) | ((with_reducible refine gate_callee (f := 55) rfl ?_); refine goesL_ (some 49) rfl rfl Try.func55 (by kernel_rfl) rfl #[.slice A0_5 l0_5.length c0_5] rfl (by (try simp only [List.map_toArray, List.map_cons, List.map_nil]); first | done | rfl | (simp only [List.length_drop, List.length_take]; rfl)) ?_; (with_reducible refine (gatewardenref01_PutAll.calls kj4 _ _ l0_5 t274 t275 _ ?side1 ?side2 A27.out).mono ?_); (case side1 => repeat (first | exact (Kd.C_below HR0_5.out HB.out) | (with_reducible refine Kd.C_alloc ?_ _) | (with_reducible refine Kd.C_drewN ?_ _) | (with_reducible refine Kd.C_drew ?_))); (case side2 => exact HC0_5.out); rintro e w77 ⟨rfl, hb⟩; refine ⟨_, rfl, ?_⟩; have n0_ := Aside0.mk (blk_below (g := gb262) (o := .cells #[.int .i64 a0_0, .int .i64 a0_1, .int .i64 a0_2, .int .i64 a0_3, .int .i64 a0_4, .slice A0_5 l0_5.length c0_5] 24 (0, 0)) (by (with_reducible repeat (first | refine blk_drewN ?_ _ | refine blk_drew ?_ | refine blk_alloc ?_ _)); exact BK262.out) hb); have n1_ := Aside0.mk (below_step (by repeat (first | (with_reducible first | exact HB.out | apply below_alloc | apply pw_below_drewN | apply below_drew1 | refine below_set ?_ GE262.out) | exact HB.out)) hb); clear BK262; clear HB; have BK262 := n0_; have HB := n1_; clear n0_ n1_; (try clear hb); (try clear hb2); (try clear hk); (try clear hi); have hcz78_0 : w77.cell? ⟨gb262, 0, none⟩ = some (.int .i64 a0_0) := (blk_cell BK262.out 0).trans rfl; have hcz78_1 : w77.cell? ⟨gb262, 1, none⟩ = some (.int .i64 a0_1) := (blk_cell BK262.out 1).trans rfl; have hcz78_2 : w77.cell? ⟨gb262, 2, none⟩ = some (.int .i64 a0_2) := (blk_cell BK262.out 2).trans rfl; have hcz78_3 : w77.cell? ⟨gb262, 3, none⟩ = some (.int .i64 a0_3) := (blk_cell BK262.out 3).trans rfl; have hcz78_4 : w77.cell? ⟨gb262, 4, none⟩ = some (.int .i64 a0_4) := (blk_cell BK262.out 4).trans rfl; have hcz78_5 : w77.cell? ⟨gb262, 5, none⟩ = some (.slice A0_5 l0_5.length c0_5) := (blk_cell BK262.out 5).trans rfl; have hfz78_0 := blk_frozen BK262.out 0; have hfz78_1 := blk_frozen BK262.out 1; have hfz78_2 := blk_frozen BK262.out 2; have hfz78_3 := blk_frozen BK262.out 3; have hfz78_4 := blk_frozen BK262.out 4; have hfz78_5 := blk_frozen BK262.out 5))
             (try (rw [drewN_self w77]; generalize hq_ : World.drewN w77 _ = w77; have n0_ := Aside0.mk (blk_at hq_ BK262.out); have n1_ := Aside0.mk (below_at hq_ HB.out); clear hq_ BK262 HB; have BK262 := n0_; have HB := n1_; clear n0_ n1_))
             have n0_ := Aside0.mk (blk_drew BK262.out)
             have n1_ := Aside0.mk (below_drew1 HB.out)
             clear BK262
             clear HB
             have BK262 := n0_
             have HB := n1_
             clear n0_ n1_
             refine start_ (n := 15) (S := fun w' => w'.cell? ⟨gb262, 0, none⟩ = some (.int .i64 a0_0) ∧ w'.cell? ⟨gb262, 1, none⟩ = some (.int .i64 a0_1) ∧ w'.cell? ⟨gb262, 2, none⟩ = some (.int .i64 a0_2) ∧ w'.cell? ⟨gb262, 3, none⟩ = some (.int .i64 a0_3) ∧ w'.cell? ⟨gb262, 4, none⟩ = some (.int .i64 a0_4) ∧ w'.cell? ⟨gb262, 5, none⟩ = some (.slice A0_5 l0_5.length c0_5)) (ds := []) #[false, false, false, false, false, false, false, false, false, false, false, false, false, false, false] (by kernel_rfl) rfl rfl ⟨(blk_cell BK262.out 0).trans rfl, (blk_cell BK262.out 1).trans rfl, (blk_cell BK262.out 2).trans rfl, (blk_cell BK262.out 3).trans rfl, (blk_cell BK262.out 4).trans rfl, (blk_cell BK262.out 5).trans rfl⟩ (fun hHeld => ?_); refine with_tabW gatewardenref06_Put.tab19 gatewardenref06_Put.bits19 (fun HT_ HW_ => ?_)
             generalize w77.drew = w79 at BK262 HB hHeld ⊢
             refine pure_ (i := 0) (N := some 78) (v := ?_) (a' := ?_) #[true, false, false, false, false, false, false, false, false, false, false, false, false, false, false] rfl rfl (any_of HT_.out (by kernel_rfl)) (fun _ _ _ h => h) (Or.inl ⟨by rfl, ?_⟩) ?_ ?_
             rotate_left
             ·intro w'
              go_simp
              with_reducible rfl
             rotate_left
             ·simp only [Act.put, List.setIfInBounds_toArray, List.set_cons_zero, List.set_cons_succ, i64_w, i32_w]
              rfl
             refine pure_ (i := 1) (N := some 79) (v := ?_) (a' := ?_) #[true, true, false, false, false, false, false, false, false, false, false, false, false, false, false] rfl rfl (any_of HT_.out (by kernel_rfl)) (fun _ _ _ h => h) (Or.inl ⟨by rfl, ?_⟩) ?_ ?_
             rotate_left
             ·intro w'
              go_simp
              with_reducible rfl
             rotate_left
             ·simp only [Act.put, List.setIfInBounds_toArray, List.set_cons_zero, List.set_cons_succ, i64_w, i32_w]
              rfl
             refine pure_ (i := 5) (N := some 83) (v := ?_) (a' := ?_) #[true, true, false, false, false, true, false, false, false, false, false, false, false, false, false] rfl rfl (any_of HT_.out (by kernel_rfl)) (fun _ _ _ h => h) (Or.inl ⟨by rfl, ?_⟩) ?_ ?_
             rotate_left
             ·intro w'
              go_simp
              with_reducible rfl
             rotate_left
             ·simp only [Act.put, List.setIfInBounds_toArray, List.set_cons_zero, List.set_cons_succ, i64_w, i32_w]
              rfl
             refine pure_ (i := 6) (N := some 84) (v := ?_) (a' := ?_) #[true, true, false, false, false, true, true, false, false, false, false, false, false, false, false] rfl rfl (any_of HT_.out (by kernel_rfl)) (fun _ _ _ h => h) (Or.inl ⟨by rfl, ?_⟩) ?_ ?_
             rotate_left
             ·intro w'
              go_simp
              with_reducible rfl
             rotate_left
             ·simp only [Act.put, List.setIfInBounds_toArray, List.set_cons_zero, List.set_cons_succ, i64_w, i32_w]
              rfl
             refine pure_ (i := 7) (N := some 85) (v := ?_) (a' := ?_) #[true, true, false, false, false, true, true, true, false, false, false, false, false, false, false] rfl rfl (any_of HT_.out (by kernel_rfl)) (fun _ _ _ h => h) (Or.inl ⟨by rfl, ?_⟩) ?_ ?_
             rotate_left
             ·intro w'
              go_simp
              with_reducible rfl
             rotate_left
             ·simp only [Act.put, List.setIfInBounds_toArray, List.set_cons_zero, List.set_cons_succ, i64_w, i32_w]
              rfl
             refine pure_ (i := 11) (N := some 89) (v := ?_) (a' := ?_) #[true, true, false, false, false, true, true, true, false, false, false, true, false, false, false] rfl rfl (any_of HT_.out (by kernel_rfl)) (fun _ _ _ h => h) (Or.inl ⟨by rfl, ?_⟩) ?_ ?_
             rotate_left
             ·intro w'
              go_simp
              with_reducible rfl
             rotate_left
             ·simp only [Act.put, List.setIfInBounds_toArray, List.set_cons_zero, List.set_cons_succ, i64_w, i32_w]
              rfl
             refine take_ (i := 2) (N := some 80) (v := ?_) (a' := ?_) #[true, true, true, false, false, true, true, true, false, false, false, true, false, false, false] rfl rfl (take_ofW HT_.out HW_.out (by kernel_rfl)) (fun _ _ _ h => h) (Or.inl ⟨by rfl, ?_⟩) hHeld ?_ ?_
             rotate_left
             ·rintro w' ⟨s0, s1, s2, s3, s4, s5⟩
              go_simp
              with_reducible rfl
             rotate_left
             ·simp only [Act.put, List.setIfInBounds_toArray, List.set_cons_zero, List.set_cons_succ, i64_w, i32_w]
              rfl
             refine join_ (σ := Value) 4 #[true, true, true, true, true, true, true, true, true, true, false, true, false, false, false] (fun s_ => [(81, .string t284), (86, s_), (87, .string (strOfNums y285)), (82, .string ((x4_4 ++ t273) ++ t284))]) (fun s_ w' => (w'.cell? ⟨gb262, 0, none⟩ = some (.int .i64 a0_0) ∧ w'.cell? ⟨gb262, 1, none⟩ = some (.int .i64 a0_1) ∧ w'.cell? ⟨gb262, 2, none⟩ = some (.int .i64 a0_2) ∧ w'.cell? ⟨gb262, 3, none⟩ = some (.int .i64 a0_3) ∧ w'.cell? ⟨gb262, 4, none⟩ = some (.int .i64 a0_4) ∧ w'.cell? ⟨gb262, 5, none⟩ = some (.slice A0_5 l0_5.length c0_5)) ∧ (Kd.R (Kd.int .u8) 5 w' w.heap.size (fun _ => True) s_ y285) ∧ (w'.heap[gb262]? = some (.cells #[.int .i64 a0_0, .int .i64 a0_1, .int .i64 a0_2, .int .i64 a0_3, .int .i64 a0_4, .slice A0_5 l0_5.length c0_5] 24 (0, 0))) ∧ (Below w.heap.size w w')) ?_ ?_
             rotate_left
             ·intro hCont
              refine two_ (i := 3) (j := 8) (Ni := some 81) (Nj := some 86) #[true, true, true, true, false, true, true, true, false, false, false, true, false, false, false] #[true, true, true, false, false, true, true, true, true, false, false, true, false, false, false] rfl rfl rfl rfl (two_of HT_.out (by kernel_rfl)) (by decide) (by decide) (fun K hK => ?_) (fun K hK => ?_)
              ·skip
               refine goes_ Try.func62 (by kernel_rfl) rfl #[.int .i64 a0_4] (by rfl) rfl rfl (by (try simp only [List.map_toArray, List.map_cons, List.map_nil]); first | done | rfl | (simp only [List.length_drop, List.length_take]; rfl)) ?_
               with_reducible refine (gatewardenref01_Of.calls a0_4 t284 _ A70.out).mono ?_
               rintro e w80 ⟨rfl, hb⟩
               refine ⟨_, rfl, ?_⟩
               have n0_ := Aside0.mk (blk_below (g := gb262) (o := .cells #[.int .i64 a0_0, .int .i64 a0_1, .int .i64 a0_2, .int .i64 a0_3, .int .i64 a0_4, .slice A0_5 l0_5.length c0_5] 24 (0, 0)) (by (with_reducible repeat (first | refine blk_drewN ?_ _ | refine blk_drew ?_ | refine blk_alloc ?_ _)); exact BK262.out) hb)
               have n1_ := Aside0.mk (below_step (by repeat (first | (with_reducible first | exact HB.out | apply below_alloc | apply pw_below_drewN | apply below_drew1 | refine below_set ?_ GE262.out) | exact HB.out)) hb)
               clear BK262
               clear HB
               have BK262 := n0_
               have HB := n1_
               clear n0_ n1_
               (try clear hb)
               (try clear hb2)
               (try clear hk)
               (try clear hi)
               refine hK.out _ _ ⟨(blk_cell BK262.out 0).trans rfl, (blk_cell BK262.out 1).trans rfl, (blk_cell BK262.out 2).trans rfl, (blk_cell BK262.out 3).trans rfl, (blk_cell BK262.out 4).trans rfl, (blk_cell BK262.out 5).trans rfl⟩ (fun hHeld => ?_)
               clear hK K
               refine norm_ (a' := ?_) ?_ ?_
               rotate_left
               ·show Act.put _ (some 81) _ = _
                simp only [Act.put, List.setIfInBounds_toArray, List.set_cons_zero, List.set_cons_succ, i64_w, i32_w]
                rfl
               refine pure_ (i := 4) (N := some 82) (v := ?_) (a' := ?_) #[true, true, true, true, true, true, true, true, false, false, false, true, false, false, false] rfl rfl (any_of HT_.out (by kernel_rfl)) (fun _ _ _ h => h) (Or.inl ⟨by rfl, ?_⟩) ?_ ?_
               rotate_left
               ·intro w'
                go_simp
                with_reducible rfl
               rotate_left
               ·simp only [Act.put, List.setIfInBounds_toArray, List.set_cons_zero, List.set_cons_succ, i64_w, i32_w]
                rfl
               refine one_ (i := 8) (N := some 86) #[true, true, true, true, true, true, true, true, true, false, false, true, false, false, false] rfl rfl (one_of HT_.out (by kernel_rfl)) (by decide) (fun K hK => ?_)
               refine Kd.R_lit_step (Kd.int .u8) _ 5 ?hg (N := 86) ?hd (xs := ([((t274.size : Int)) % 256] : List Int)) (inner := [.int .u8 (((t274.size : Int)) % 256)]) (ok := fun _ => True) (okp := fun _ => True) ?hr ?hp (fun _ hk => hk) trivial (Below.refl _ _) (Nat.le_refl _) (by simp) ?_; (case hd => rfl); (case hg => rfl); (case hr => first | (go_simp; done) | (go_simp; rfl)); (case hp => exact (Reps.one (show Kd.M (Kd.int .u8) _ _ _ (((t274.size : Int)) % 256) [.int .u8 (((t274.size : Int)) % 256)] from rfl) (Reps.none _ _)))
               intro v286 w81 ho82 hb hg_ hnew_
               clear hg_ hnew_
               (first | rw [← Ny285.out] at ho82 | (simp only [Int.reduceToNat] at ho82; rw [← Ny285.out] at ho82))
               have n0_ := Aside0.mk (Kd.R_lower ho82 (below_size (by repeat (first | (with_reducible first | exact HB.out | apply below_alloc | apply pw_below_drewN | apply below_drew1 | refine below_set ?_ GE262.out) | exact HB.out))))
               have n1_ := Aside0.mk (blk_below (g := gb262) (o := .cells #[.int .i64 a0_0, .int .i64 a0_1, .int .i64 a0_2, .int .i64 a0_3, .int .i64 a0_4, .slice A0_5 l0_5.length c0_5] 24 (0, 0)) (by (with_reducible repeat (first | refine blk_drewN ?_ _ | refine blk_drew ?_ | refine blk_alloc ?_ _)); exact BK262.out) hb)
               have n2_ := Aside0.mk (below_step (by repeat (first | (with_reducible first | exact HB.out | apply below_alloc | apply pw_below_drewN | apply below_drew1 | refine below_set ?_ GE262.out) | exact HB.out)) hb)
               clear BK262
               clear HB
               have HO287 := n0_
               have BK262 := n1_
               have HB := n2_
               clear n0_ n1_ n2_
               clear hb ho82
               refine hK.out _ _ ⟨(blk_cell BK262.out 0).trans rfl, (blk_cell BK262.out 1).trans rfl, (blk_cell BK262.out 2).trans rfl, (blk_cell BK262.out 3).trans rfl, (blk_cell BK262.out 4).trans rfl, (blk_cell BK262.out 5).trans rfl⟩ (fun hHeld => ?_)
               clear hK K
               refine norm_ (a' := ?_) ?_ ?_
               rotate_left
               ·show Act.put _ (some 86) _ = _
                simp only [Act.put, List.setIfInBounds_toArray, List.set_cons_zero, List.set_cons_succ, i64_w, i32_w]
                rfl
               refine one_ (i := 9) (N := some 87) #[true, true, true, true, true, true, true, true, true, true, false, true, false, false, false] rfl rfl (one_of HT_.out (by kernel_rfl)) (by decide) (fun K hK => ?_)
               have hcv83 := own_string (P := Try.prog) Try.underlying34 Try.underlying5 Try.underlying9 (Kd.own_of_R HO287.out)
               refine value_ (w1 := ?_) (v := ?_) (by rfl) rfl ?_ ?_
               rotate_left 2
               ·go_simp
                constructor
                ·rfl
                ·rfl
               clear hcv83
               refine hK.out _ _ ⟨(blk_cell BK262.out 0).trans rfl, (blk_cell BK262.out 1).trans rfl, (blk_cell BK262.out 2).trans rfl, (blk_cell BK262.out 3).trans rfl, (blk_cell BK262.out 4).trans rfl, (blk_cell BK262.out 5).trans rfl⟩ (fun hHeld => ?_)
               clear hK K
               refine norm_ (a' := ?_) ?_ ?_
               rotate_left
               ·show Act.put _ (some 87) _ = _
                simp only [Act.put, List.setIfInBounds_toArray, List.set_cons_zero, List.set_cons_succ, i64_w, i32_w]
                rfl
               exact norm_ (by simp only [putAll, Act.put, List.setIfInBounds_toArray, List.set_cons_zero, List.set_cons_succ]) (hCont (v286) _ ⟨hHeld, (by (with_reducible repeat (first | apply Kd.R_alloc | apply Kd.R_drewN | apply Kd.R_drew)); exact HO287.out), (by (with_reducible repeat (first | refine blk_drewN ?_ _ | refine blk_drew ?_ | refine blk_alloc ?_ _)); exact BK262.out), (by repeat (first | (with_reducible first | exact HB.out | apply below_alloc | apply pw_below_drewN | apply below_drew1 | refine below_set ?_ GE262.out) | exact HB.out))⟩)
              ·skip
               refine Kd.R_lit_step (Kd.int .u8) _ 5 ?hg (N := 86) ?hd (xs := ([((t274.size : Int)) % 256] : List Int)) (inner := [.int .u8 (((t274.size : Int)) % 256)]) (ok := fun _ => True) (okp := fun _ => True) ?hr ?hp (fun _ hk => hk) trivial (Below.refl _ _) (Nat.le_refl _) (by simp) ?_; (case hd => rfl); (case hg => rfl); (case hr => first | (go_simp; done) | (go_simp; rfl)); (case hp => exact (Reps.one (show Kd.M (Kd.int .u8) _ _ _ (((t274.size : Int)) % 256) [.int .u8 (((t274.size : Int)) % 256)] from rfl) (Reps.none _ _)))
               intro v286 w80 ho81 hb hg_ hnew_
               clear hg_ hnew_
               (first | rw [← Ny285.out] at ho81 | (simp only [Int.reduceToNat] at ho81; rw [← Ny285.out] at ho81))
               have n0_ := Aside0.mk (Kd.R_lower ho81 (below_size (by repeat (first | (with_reducible first | exact HB.out | apply below_alloc | apply pw_below_drewN | apply below_drew1 | refine below_set ?_ GE262.out) | exact HB.out))))
               have n1_ := Aside0.mk (blk_below (g := gb262) (o := .cells #[.int .i64 a0_0, .int .i64 a0_1, .int .i64 a0_2, .int .i64 a0_3, .int .i64 a0_4, .slice A0_5 l0_5.length c0_5] 24 (0, 0)) (by (with_reducible repeat (first | refine blk_drewN ?_ _ | refine blk_drew ?_ | refine blk_alloc ?_ _)); exact BK262.out) hb)
               have n2_ := Aside0.mk (below_step (by repeat (first | (with_reducible first | exact HB.out | apply below_alloc | apply pw_below_drewN | apply below_drew1 | refine below_set ?_ GE262.out) | exact HB.out)) hb)
               clear BK262
               clear HB
               have HO287 := n0_
               have BK262 := n1_
               have HB := n2_
               clear n0_ n1_ n2_
               clear hb ho81
               refine hK.out _ _ ⟨(blk_cell BK262.out 0).trans rfl, (blk_cell BK262.out 1).trans rfl, (blk_cell BK262.out 2).trans rfl, (blk_cell BK262.out 3).trans rfl, (blk_cell BK262.out 4).trans rfl, (blk_cell BK262.out 5).trans rfl⟩ (fun hHeld => ?_)
               clear hK K
               refine norm_ (a' := ?_) ?_ ?_
               rotate_left
               ·show Act.put _ (some 86) _ = _
                simp only [Act.put, List.setIfInBounds_toArray, List.set_cons_zero, List.set_cons_succ, i64_w, i32_w]
                rfl
               refine two_ (i := 3) (j := 9) (Ni := some 81) (Nj := some 87) #[true, true, true, true, false, true, true, true, true, false, false, true, false, false, false] #[true, true, true, false, false, true, true, true, true, true, false, true, false, false, false] rfl rfl rfl rfl (two_of HT_.out (by kernel_rfl)) (by decide) (by decide) (fun K hK => ?_) (fun K hK => ?_)
               ·skip
                refine goes_ Try.func62 (by kernel_rfl) rfl #[.int .i64 a0_4] (by rfl) rfl rfl (by (try simp only [List.map_toArray, List.map_cons, List.map_nil]); first | done | rfl | (simp only [List.length_drop, List.length_take]; rfl)) ?_
                with_reducible refine (gatewardenref01_Of.calls a0_4 t284 _ A70.out).mono ?_
                rintro e w82 ⟨rfl, hb⟩
                refine ⟨_, rfl, ?_⟩
                have n0_ := Aside0.mk (Kd.R_below (by (with_reducible repeat (first | apply Kd.R_alloc | apply Kd.R_drewN | apply Kd.R_drew)); exact HO287.out) hb)
                have n1_ := Aside0.mk (blk_below (g := gb262) (o := .cells #[.int .i64 a0_0, .int .i64 a0_1, .int .i64 a0_2, .int .i64 a0_3, .int .i64 a0_4, .slice A0_5 l0_5.length c0_5] 24 (0, 0)) (by (with_reducible repeat (first | refine blk_drewN ?_ _ | refine blk_drew ?_ | refine blk_alloc ?_ _)); exact BK262.out) hb)
                have n2_ := Aside0.mk (below_step (by repeat (first | (with_reducible first | exact HB.out | apply below_alloc | apply pw_below_drewN | apply below_drew1 | refine below_set ?_ GE262.out) | exact HB.out)) hb)
                clear HO287
                clear BK262
                clear HB
                have HO287 := n0_
                have BK262 := n1_
                have HB := n2_
                clear n0_ n1_ n2_
                (try clear hb)
                (try clear hb2)
                (try clear hk)
                (try clear hi)
                refine hK.out _ _ ⟨(blk_cell BK262.out 0).trans rfl, (blk_cell BK262.out 1).trans rfl, (blk_cell BK262.out 2).trans rfl, (blk_cell BK262.out 3).trans rfl, (blk_cell BK262.out 4).trans rfl, (blk_cell BK262.out 5).trans rfl⟩ (fun hHeld => ?_)
                clear hK K
                refine norm_ (a' := ?_) ?_ ?_
                rotate_left
                ·show Act.put _ (some 81) _ = _
                 simp only [Act.put, List.setIfInBounds_toArray, List.set_cons_zero, List.set_cons_succ, i64_w, i32_w]
                 rfl
                refine pure_ (i := 4) (N := some 82) (v := ?_) (a' := ?_) #[true, true, true, true, true, true, true, true, true, false, false, true, false, false, false] rfl rfl (any_of HT_.out (by kernel_rfl)) (fun _ _ _ h => h) (Or.inl ⟨by rfl, ?_⟩) ?_ ?_
                rotate_left
                ·intro w'
                 go_simp
                 with_reducible rfl
                rotate_left
                ·simp only [Act.put, List.setIfInBounds_toArray, List.set_cons_zero, List.set_cons_succ, i64_w, i32_w]
                 rfl
                refine one_ (i := 9) (N := some 87) #[true, true, true, true, true, true, true, true, true, true, false, true, false, false, false] rfl rfl (one_of HT_.out (by kernel_rfl)) (by decide) (fun K hK => ?_)
                have hcv83 := own_string (P := Try.prog) Try.underlying34 Try.underlying5 Try.underlying9 (Kd.own_of_R HO287.out)
                refine value_ (w1 := ?_) (v := ?_) (by rfl) rfl ?_ ?_
                rotate_left 2
                ·go_simp
                 constructor
                 ·rfl
                 ·rfl
                clear hcv83
                refine hK.out _ _ ⟨(blk_cell BK262.out 0).trans rfl, (blk_cell BK262.out 1).trans rfl, (blk_cell BK262.out 2).trans rfl, (blk_cell BK262.out 3).trans rfl, (blk_cell BK262.out 4).trans rfl, (blk_cell BK262.out 5).trans rfl⟩ (fun hHeld => ?_)
                clear hK K
                refine norm_ (a' := ?_) ?_ ?_
                rotate_left
                ·show Act.put _ (some 87) _ = _
                 simp only [Act.put, List.setIfInBounds_toArray, List.set_cons_zero, List.set_cons_succ, i64_w, i32_w]
                 rfl
                exact norm_ (by simp only [putAll, Act.put, List.setIfInBounds_toArray, List.set_cons_zero, List.set_cons_succ]) (hCont (v286) _ ⟨hHeld, (by (with_reducible repeat (first | apply Kd.R_alloc | apply Kd.R_drewN | apply Kd.R_drew)); exact HO287.out), (by (with_reducible repeat (first | refine blk_drewN ?_ _ | refine blk_drew ?_ | refine blk_alloc ?_ _)); exact BK262.out), (by repeat (first | (with_reducible first | exact HB.out | apply below_alloc | apply pw_below_drewN | apply below_drew1 | refine below_set ?_ GE262.out) | exact HB.out))⟩)
               ·skip
                have hcv82 := own_string (P := Try.prog) Try.underlying34 Try.underlying5 Try.underlying9 (Kd.own_of_R HO287.out)
                refine value_ (w1 := ?_) (v := ?_) (by rfl) rfl ?_ ?_
                rotate_left 2
                ·go_simp
                 constructor
                 ·rfl
                 ·rfl
                clear hcv82
                refine hK.out _ _ ⟨(blk_cell BK262.out 0).trans rfl, (blk_cell BK262.out 1).trans rfl, (blk_cell BK262.out 2).trans rfl, (blk_cell BK262.out 3).trans rfl, (blk_cell BK262.out 4).trans rfl, (blk_cell BK262.out 5).trans rfl⟩ (fun hHeld => ?_)
                clear hK K
                refine norm_ (a' := ?_) ?_ ?_
                rotate_left
                ·show Act.put _ (some 87) _ = _
                 simp only [Act.put, List.setIfInBounds_toArray, List.set_cons_zero, List.set_cons_succ, i64_w, i32_w]
                 rfl
                refine one_ (i := 3) (N := some 81) #[true, true, true, true, false, true, true, true, true, true, false, true, false, false, false] rfl rfl (one_of HT_.out (by kernel_rfl)) (by decide) (fun K hK => ?_)
                refine goes_ Try.func62 (by kernel_rfl) rfl #[.int .i64 a0_4] (by rfl) rfl rfl (by (try simp only [List.map_toArray, List.map_cons, List.map_nil]); first | done | rfl | (simp only [List.length_drop, List.length_take]; rfl)) ?_
                with_reducible refine (gatewardenref01_Of.calls a0_4 t284 _ A70.out).mono ?_
                rintro e w83 ⟨rfl, hb⟩
                refine ⟨_, rfl, ?_⟩
                have n0_ := Aside0.mk (Kd.R_below (by (with_reducible repeat (first | apply Kd.R_alloc | apply Kd.R_drewN | apply Kd.R_drew)); exact HO287.out) hb)
                have n1_ := Aside0.mk (blk_below (g := gb262) (o := .cells #[.int .i64 a0_0, .int .i64 a0_1, .int .i64 a0_2, .int .i64 a0_3, .int .i64 a0_4, .slice A0_5 l0_5.length c0_5] 24 (0, 0)) (by (with_reducible repeat (first | refine blk_drewN ?_ _ | refine blk_drew ?_ | refine blk_alloc ?_ _)); exact BK262.out) hb)
                have n2_ := Aside0.mk (below_step (by repeat (first | (with_reducible first | exact HB.out | apply below_alloc | apply pw_below_drewN | apply below_drew1 | refine below_set ?_ GE262.out) | exact HB.out)) hb)
                clear HO287
                clear BK262
                clear HB
                have HO287 := n0_
                have BK262 := n1_
                have HB := n2_
                clear n0_ n1_ n2_
                (try clear hb)
                (try clear hb2)
                (try clear hk)
                (try clear hi)
                refine hK.out _ _ ⟨(blk_cell BK262.out 0).trans rfl, (blk_cell BK262.out 1).trans rfl, (blk_cell BK262.out 2).trans rfl, (blk_cell BK262.out 3).trans rfl, (blk_cell BK262.out 4).trans rfl, (blk_cell BK262.out 5).trans rfl⟩ (fun hHeld => ?_)
                clear hK K
                refine norm_ (a' := ?_) ?_ ?_
                rotate_left
                ·show Act.put _ (some 81) _ = _
                 simp only [Act.put, List.setIfInBounds_toArray, List.set_cons_zero, List.set_cons_succ, i64_w, i32_w]
                 rfl
                refine pure_ (i := 4) (N := some 82) (v := ?_) (a' := ?_) #[true, true, true, true, true, true, true, true, true, true, false, true, false, false, false] rfl rfl (any_of HT_.out (by kernel_rfl)) (fun _ _ _ h => h) (Or.inl ⟨by rfl, ?_⟩) ?_ ?_
                rotate_left
                ·intro w'
                 go_simp
                 with_reducible rfl
                rotate_left
                ·simp only [Act.put, List.setIfInBounds_toArray, List.set_cons_zero, List.set_cons_succ, i64_w, i32_w]
                 rfl
                exact norm_ (by simp only [putAll, Act.put, List.setIfInBounds_toArray, List.set_cons_zero, List.set_cons_succ]) (hCont (v286) _ ⟨hHeld, (by (with_reducible repeat (first | apply Kd.R_alloc | apply Kd.R_drewN | apply Kd.R_drew)); exact HO287.out), (by (with_reducible repeat (first | refine blk_drewN ?_ _ | refine blk_drew ?_ | refine blk_alloc ?_ _)); exact BK262.out), (by repeat (first | (with_reducible first | exact HB.out | apply below_alloc | apply pw_below_drewN | apply below_drew1 | refine below_set ?_ GE262.out) | exact HB.out))⟩)
             rintro v286 w84 ⟨hS_, h0_, h1_, h2_⟩
             have n0_ : Aside0 (Kd.R (Kd.int .u8) 5 w84 w.heap.size (fun _ => True) v286 y285) := ⟨h0_⟩
             have n1_ : Aside0 (w84.heap[gb262]? = some (.cells #[.int .i64 a0_0, .int .i64 a0_1, .int .i64 a0_2, .int .i64 a0_3, .int .i64 a0_4, .slice A0_5 l0_5.length c0_5] 24 (0, 0))) := ⟨h1_⟩
             have n2_ : Aside0 (Below w.heap.size w w84) := ⟨h2_⟩
             clear BK262
             clear HB
             clear h0_ h1_ h2_
             have HO287 := n0_
             have BK262 := n1_
             have HB := n2_
             clear n0_ n1_ n2_
             have hHeld : w84.cell? ⟨gb262, 0, none⟩ = some (.int .i64 a0_0) ∧ w84.cell? ⟨gb262, 1, none⟩ = some (.int .i64 a0_1) ∧ w84.cell? ⟨gb262, 2, none⟩ = some (.int .i64 a0_2) ∧ w84.cell? ⟨gb262, 3, none⟩ = some (.int .i64 a0_3) ∧ w84.cell? ⟨gb262, 4, none⟩ = some (.int .i64 a0_4) ∧ w84.cell? ⟨gb262, 5, none⟩ = some (.slice A0_5 l0_5.length c0_5) := hS_
             refine norm_ (a' := ?_) ?_ ?_
             rotate_left
             ·simp only [putAll, Act.put, List.setIfInBounds_toArray, List.set_cons_zero, List.set_cons_succ]
              rfl
             refine pure_ (i := 10) (N := some 88) (v := ?_) (a' := ?_) #[true, true, true, true, true, true, true, true, true, true, true, true, false, false, false] rfl rfl (any_of HT_.out (by kernel_rfl)) (fun _ _ _ h => h) (Or.inl ⟨by rfl, ?_⟩) ?_ ?_
             rotate_left
             ·intro w'
              go_simp
              with_reducible rfl
             rotate_left
             ·simp only [Act.put, List.setIfInBounds_toArray, List.set_cons_zero, List.set_cons_succ, i64_w, i32_w]
              rfl
             refine pure_ (i := 12) (N := some 90) (v := ?_) (a' := ?_) #[true, true, true, true, true, true, true, true, true, true, true, true, true, false, false] rfl rfl (any_of HT_.out (by kernel_rfl)) (fun _ _ _ h => h) (Or.inl ⟨by rfl, ?_⟩) ?_ ?_
             rotate_left
             ·intro w'
              go_simp
              with_reducible rfl
             rotate_left
             ·simp only [Act.put, List.setIfInBounds_toArray, List.set_cons_zero, List.set_cons_succ, i64_w, i32_w]
              rfl
             refine pure_ (i := 13) (N := some 2) (v := ?_) (a' := ?_) #[true, true, true, true, true, true, true, true, true, true, true, true, true, true, false] rfl rfl (any_of HT_.out (by kernel_rfl)) (fun _ _ _ h => h) (Or.inl ⟨by rfl, ?_⟩) ?_ ?_
             rotate_left
             ·intro w'
              go_simp
              with_reducible rfl
             rotate_left
             ·simp only [Act.put, List.setIfInBounds_toArray, List.set_cons_zero, List.set_cons_succ, i64_w, i32_w]
              rfl
             refine pure_ (i := 14) (N := some 3) (v := ?_) (a' := ?_) #[true, true, true, true, true, true, true, true, true, true, true, true, true, true, true] rfl rfl (any_of HT_.out (by kernel_rfl)) (fun _ _ _ h => h) (Or.inl ⟨by rfl, ?_⟩) ?_ ?_
             rotate_left
             ·intro w'
              go_simp
              with_reducible rfl
             rotate_left
             ·simp only [Act.put, List.setIfInBounds_toArray, List.set_cons_zero, List.set_cons_succ, i64_w, i32_w]
              rfl
             refine done_ (done_of HT_.out (by kernel_rfl)) ?_
             try go_wp2
             go_ret2
             exact ⟨by first | rfl | (simp [errW_none, errW_some] <;> rfl) | (simp [*, errW_none, errW_some] <;> rfl), by repeat (first | (with_reducible first | exact HB.out | apply below_alloc | apply pw_below_drewN | apply below_drew1 | refine below_set ?_ GE262.out) | exact HB.out)⟩
            ·rw [if_neg c73] at H
             exact absurd H (by simp)
           ·rw [if_neg c72] at H
            exact absurd H (by simp)
          ·rw [if_neg c71] at H
           exact absurd H (by simp)
     ·rw [if_neg c26] at H
      exact absurd H (by simp)
 ·replace c3 := Bool.eq_false_iff.mpr c3
  subst c3
  have H1 : (some ((⟨#[]⟩ : ByteArray), false)) = some (r1, r2) := by rw [if_neg (show ¬ (false = true) by decide)] at H; exact H
  clear H
  have H := H1
  clear H1
  simp only [Option.some.injEq, Prod.mk.injEq] at H
  obtain ⟨rfl, rfl⟩ := H
  go_enter Try.func32, Try.ntmps32
  go_wp2_with (first | ((with_reducible refine gate_dst (N := 1) rfl ?_); refine box_event ?hg (N := 1) ?hd (cs := #[.int .i64 a0_0, .int .i64 a0_1, .int .i64 a0_2, .int .i64 a0_3, .int .i64 a0_4, .slice A0_5 l0_5.length c0_5]) (t := 24) ?hr ?_; (case hd => rfl); (case hg => rfl); (case hr => first | (go_simp; done) | (go_simp; rfl)); intro gb262 hg w85 hbox hb; have n0_ := Aside0.mk (below_step (by repeat (first | (with_reducible first | exact HB.out | apply below_alloc | apply pw_below_drewN | apply below_drew1) | exact HB.out)) hb); have n1_ := Aside0.mk (hbox); have n2_ := Aside0.mk ((by rw [hg]; exact (below_size (by repeat (first | (with_reducible first | exact HB.out | apply below_alloc | apply pw_below_drewN | apply below_drew1) | exact HB.out))) : w.heap.size ≤ gb262)); have n3_ := Aside0.mk ((by rw [hg]; exact (below_size (by repeat (first | (with_reducible first | exact HB.out | apply below_alloc | apply pw_below_drewN | apply below_drew1) | exact HB.out))) : w.heap.size ≤ gb262)); clear HB; have HB := n0_; have BK262 := n1_; have GW262 := n2_; have GE262 := n3_; clear n0_ n1_ n2_ n3_; clear hb hbox hg; have hcz86_0 : w85.cell? ⟨gb262, 0, none⟩ = some (.int .i64 a0_0) := (blk_cell BK262.out 0).trans rfl; have hcz86_1 : w85.cell? ⟨gb262, 1, none⟩ = some (.int .i64 a0_1) := (blk_cell BK262.out 1).trans rfl; have hcz86_2 : w85.cell? ⟨gb262, 2, none⟩ = some (.int .i64 a0_2) := (blk_cell BK262.out 2).trans rfl; have hcz86_3 : w85.cell? ⟨gb262, 3, none⟩ = some (.int .i64 a0_3) := (blk_cell BK262.out 3).trans rfl; have hcz86_4 : w85.cell? ⟨gb262, 4, none⟩ = some (.int .i64 a0_4) := (blk_cell BK262.out 4).trans rfl; have hcz86_5 : w85.cell? ⟨gb262, 5, none⟩ = some (.slice A0_5 l0_5.length c0_5) := (blk_cell BK262.out 5).trans rfl; have hfz86_0 := blk_frozen BK262.out 0; have hfz86_1 := blk_frozen BK262.out 1; have hfz86_2 := blk_frozen BK262.out 2; have hfz86_3 := blk_frozen BK262.out 3; have hfz86_4 := blk_frozen BK262.out 4; have hfz86_5 := blk_frozen BK262.out 5) | ((with_reducible refine gate_callee (f := 31) rfl ?_); refine goesL_ (some 11) rfl rfl Try.func31 (by kernel_rfl) rfl #[.agg #[.int .i64 a0_0, .int .i64 a0_1, .int .i64 a0_2, .int .i64 a0_3, .int .i64 a0_4, .slice A0_5 l0_5.length c0_5]] rfl (by (try simp only [List.map_toArray, List.map_cons, List.map_nil]); first | done | rfl | (simp only [List.length_drop, List.length_take]; rfl)) ?_; (with_reducible refine (gatewardenref06_Right.calls k a0_0 a0_1 a0_2 a0_3 a0_4 _ _ l0_5 false _ ?side1 ?side2 A2.out).mono ?_); (case side1 => repeat (first | exact (Kd.C_below HR0_5.out HB.out) | (with_reducible refine Kd.C_alloc ?_ _) | (with_reducible refine Kd.C_drewN ?_ _) | (with_reducible refine Kd.C_drew ?_))); (case side2 => exact HC0_5.out); rintro e w87 ⟨rfl, hb⟩; refine ⟨_, rfl, ?_⟩; have n0_ := Aside0.mk (blk_below (g := gb262) (o := .cells #[.int .i64 a0_0, .int .i64 a0_1, .int .i64 a0_2, .int .i64 a0_3, .int .i64 a0_4, .slice A0_5 l0_5.length c0_5] 24 (0, 0)) (by (with_reducible repeat (first | refine blk_drewN ?_ _ | refine blk_drew ?_ | refine blk_alloc ?_ _)); exact BK262.out) hb); have n1_ := Aside0.mk (below_step (by repeat (first | (with_reducible first | exact HB.out | apply below_alloc | apply pw_below_drewN | apply below_drew1 | refine below_set ?_ GE262.out) | exact HB.out)) hb); clear BK262; clear HB; have BK262 := n0_; have HB := n1_; clear n0_ n1_; (try clear hb); (try clear hb2); (try clear hk); (try clear hi)))
  go_ret2
  exact ⟨by first | rfl | (simp [errW_none, errW_some] <;> rfl) | (simp [*, errW_none, errW_some] <;> rfl), by repeat (first | (with_reducible first | exact HB.out | apply below_alloc | apply pw_below_drewN | apply below_drew1 | refine below_set ?_ GE262.out) | exact HB.out)⟩

end Go.Proofs.Ytinoabkfekomcaa.PAskSizes
