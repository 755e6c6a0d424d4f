/- Texts of this claim, put together (wip/pack.py): MeanAtom. -/
import Derived.Test.YtppmcbkcohiodaaK20
namespace Go.Proofs.Ytppmcbkcohiodaa.PMeanTells
open Go.RowKit Go.Proofs.YtppmcbkcohiodaaW.PrintWords Go.Proofs.YtppmcbkcohiodaaW.PrintLast Go.Proofs.YtppmcbkcohiodaaW.PrintMore
attribute [local go_sem] max2_int min2_int max_two min_two max_three min_three max_four min_four   -- for this text's walks alone
set_option linter.unusedVariables false
set_option linter.unusedSimpArgs false

/-! ### gatewardenref11_atom: function 29 -/
mutual
def gatewardenref11_atom.j0 : Nat → Bool → Int → Int → List (S55) → Nat → Nat → List (S26) → Option (Bool)
 | 0, _, _, _, _, _, _, _ => none
 | k + 1, x17, x108000, x108001, x108002, x108003, x108004, x108005 => if x17 = true then (some false) else (if x108001 = 6 then (if (x108002.length : Int) = 0 then ((gatewardenref11_bound.f x108003).bind fun t108 => (if t108 = true then ((gatewardenref11_bound.f x108004).bind fun t109 => (some t109)) else (some false))) else (some false)) else (gatewardenref11_atom.l0 k 0 x108000 x108001 x108002 x108003 x108004 x108005))
def gatewardenref11_atom.l0 : Nat → Int → Int → Int → List (S55) → Nat → Nat → List (S26) → Option (Bool)
 | 0, _, _, _, _, _, _, _ => none
 | k + 1, x3, x108000, x108001, x108002, x108003, x108004, x108005 => if x3 < (x108002.length : Int) then (if 0 ≤ x3 then ((gatewardenref11_num.f ((rd_T55 x108002 x3).f0)).bind fun t113 => (if t113 = true then ((gatewardenref11_num.f ((rd_T55 x108002 x3).f1)).bind fun t115 => (if t115 = true then (gatewardenref11_atom.l0 k (wrap64 (x3 + 1)) x108000 x108001 x108002 x108003 x108004 x108005) else (some false))) else (some false))) else (none)) else (if (x108002.length : Int) > 0 then ((gatewardenref11_plain.f x108003).bind fun t110 => (if t110 = true then ((gatewardenref11_plain.f x108004).bind fun t111 => (some t111)) else (some false))) else (some false))
end
def gatewardenref11_atom.f (k : Nat) (a0_0 : Int) (a0_1 : Int) (l0_2 : List (S55)) (a0_3 : Nat) (a0_4 : Nat) (l0_5 : List (S26)) : Option (Bool) := if (l0_5.length : Int) > 0 then (gatewardenref11_atom.j0 k true a0_0 a0_1 l0_2 a0_3 a0_4 l0_5) else (if a0_1 < 1 then (gatewardenref11_atom.j0 k true a0_0 a0_1 l0_2 a0_3 a0_4 l0_5) else (gatewardenref11_atom.j0 k (decide (a0_1 > 6)) a0_0 a0_1 l0_2 a0_3 a0_4 l0_5))
theorem gatewardenref11_atom.mono_l : ∀ k, (∀ y0 y1 y2 y3 y4 y5 y6, LeO (gatewardenref11_atom.j0 k y0 y1 y2 y3 y4 y5 y6) (gatewardenref11_atom.j0 (k + 1) y0 y1 y2 y3 y4 y5 y6)) ∧ (∀ y0 y1 y2 y3 y4 y5 y6, LeO (gatewardenref11_atom.l0 k y0 y1 y2 y3 y4 y5 y6) (gatewardenref11_atom.l0 (k + 1) y0 y1 y2 y3 y4 y5 y6))
 | 0 => ⟨fun _ _ _ _ _ _ _ r h => by simp [gatewardenref11_atom.j0] at h, fun _ _ _ _ _ _ _ r h => by simp [gatewardenref11_atom.l0] at h⟩
 | k + 1 => by
  obtain ⟨ih0, ih1⟩ := gatewardenref11_atom.mono_l k
  refine ⟨?_, ?_⟩
  ·intro y0 y1 y2 y3 y4 y5 y6
   unfold gatewardenref11_atom.j0
   repeat' first
   | (with_reducible exact ih0 _ _ _ _ _ _ _)
   | (with_reducible exact ih1 _ _ _ _ _ _ _)
   | (with_reducible exact LeO.refl _)
   | (with_reducible exact LeO.none _)
   | (with_reducible refine LeO.ite ?_ ?_)
   | (with_reducible refine LeO.bind ?_ (fun _ => ?_))
   | exact ih0 _ _ _ _ _ _ _
   | exact ih1 _ _ _ _ _ _ _
   | exact LeO.none _
   | refine LeO.ite ?_ ?_
   | refine LeO.bind ?_ (fun _ => ?_)
  ·intro y0 y1 y2 y3 y4 y5 y6
   unfold gatewardenref11_atom.l0
   repeat' first
   | (with_reducible exact ih0 _ _ _ _ _ _ _)
   | (with_reducible exact ih1 _ _ _ _ _ _ _)
   | (with_reducible exact LeO.refl _)
   | (with_reducible exact LeO.none _)
   | (with_reducible refine LeO.ite ?_ ?_)
   | (with_reducible refine LeO.bind ?_ (fun _ => ?_))
   | exact ih0 _ _ _ _ _ _ _
   | exact ih1 _ _ _ _ _ _ _
   | exact LeO.none _
   | refine LeO.ite ?_ ?_
   | refine LeO.bind ?_ (fun _ => ?_)
theorem gatewardenref11_atom.mono : ∀ a0 a1 a2 a3 a4 a5 k, LeO (gatewardenref11_atom.f k a0 a1 a2 a3 a4 a5) (gatewardenref11_atom.f (k + 1) a0 a1 a2 a3 a4 a5) := by
 intro a0 a1 a2 a3 a4 a5 k
 obtain ⟨ih0, ih1⟩ := gatewardenref11_atom.mono_l k
 unfold gatewardenref11_atom.f
 repeat' first
   | (with_reducible exact ih0 _ _ _ _ _ _ _)
   | (with_reducible exact ih1 _ _ _ _ _ _ _)
   | (with_reducible exact LeO.refl _)
   | (with_reducible exact LeO.none _)
   | (with_reducible refine LeO.ite ?_ ?_)
   | (with_reducible refine LeO.bind ?_ (fun _ => ?_))
   | exact ih0 _ _ _ _ _ _ _
   | exact ih1 _ _ _ _ _ _ _
   | exact LeO.none _
   | refine LeO.ite ?_ ?_
   | refine LeO.bind ?_ (fun _ => ?_)
set_option maxHeartbeats 8000000 in
set_option maxRecDepth 100000 in
theorem gatewardenref11_atom.calls (k : Nat) (a0_0 : Int) (a0_1 : Int) (A0_2 : Option Addr) (c0_2 : Nat) (l0_2 : List (S55)) (a0_3 : Nat) (a0_4 : Nat) (A0_5 : Option Addr) (c0_5 : Nat) (l0_5 : List (S26)) (r : Bool) (w : World) (hr0_2 : Kd.C k55 w A0_2 l0_2.length l0_2) (hc0_2 : l0_2.length ≤ c0_2) (hr0_5 : Kd.C k26 w A0_5 l0_5.length l0_5) (hc0_5 : l0_5.length ≤ c0_5) (h : gatewardenref11_atom.f k a0_0 a0_1 l0_2 a0_3 a0_4 l0_5 = some r) :
  Calls Try.prog 29 #[.agg #[.int .i64 a0_0, .int .i64 a0_1, .slice A0_2 l0_2.length c0_2, .float .f64 a0_3, .float .f64 a0_4, .slice A0_5 l0_5.length c0_5]] w fun e w' => e = .returned (.bool r) ∧ Below w.heap.size w w' := by
 have hu26 := Try.underlying26
 have HR0_2 := Aside0.mk hr0_2
 have HC0_2 := Aside0.mk hc0_2
 clear hr0_2 hc0_2
 have HR0_5 := Aside0.mk hr0_5
 have HC0_5 := Aside0.mk hc0_5
 clear hr0_5 hc0_5
 have HB := Aside0.mk (Below.refl w.heap.size w)
 have H : (if (l0_5.length : Int) > 0 then (gatewardenref11_atom.j0 k true a0_0 a0_1 l0_2 a0_3 a0_4 l0_5) else (if a0_1 < 1 then (gatewardenref11_atom.j0 k true a0_0 a0_1 l0_2 a0_3 a0_4 l0_5) else (gatewardenref11_atom.j0 k (decide (a0_1 > 6)) a0_0 a0_1 l0_2 a0_3 a0_4 l0_5))) = some r := h
 clear h
 have HC2 := Aside0.mk H
 clear H
 go_enter Try.func29, Try.ntmps29
 go_upto_region 1 with (first | ((with_reducible refine gate_dst (N := 1) rfl ?_); refine box_event ?hg (N := 1) ?hd (cs := #[.int .i64 a0_0, .int .i64 a0_1, .slice A0_2 l0_2.length c0_2, .float .f64 a0_3, .float .f64 a0_4, .slice A0_5 l0_5.length c0_5]) (t := 26) ?hr ?_; (case hd => rfl); (case hg => rfl); (case hr => first | (go_simp; done) | (go_simp; rfl)); intro gb107 hg w3 hbox hb; have n0_ := Aside0.mk (below_step (by repeat (first | (with_reducible first | exact HB.out | apply below_alloc | apply pw_below_drewN | apply below_drew1) | exact HB.out)) hb); have n1_ := Aside0.mk (hbox); have n2_ := Aside0.mk ((by rw [hg]; exact (below_size (by repeat (first | (with_reducible first | exact HB.out | apply below_alloc | apply pw_below_drewN | apply below_drew1) | exact HB.out))) : w.heap.size ≤ gb107)); have n3_ := Aside0.mk ((by rw [hg]; exact (below_size (by repeat (first | (with_reducible first | exact HB.out | apply below_alloc | apply pw_below_drewN | apply below_drew1) | exact HB.out))) : w.heap.size ≤ gb107)); clear HB; have HB := n0_; have BK107 := n1_; have GW107 := n2_; have GE107 := n3_; clear n0_ n1_ n2_ n3_; clear hb hbox hg))
 (try simp only [Act.put, List.setIfInBounds_toArray, List.set_cons_zero, List.set_cons_succ])
 go_cut [17] (fun v17 wc => ∃ (kq : Nat) (x17_1 : Bool), v17 = .bool x17_1 ∧ Aside0 (gatewardenref11_atom.j0 kq x17_1 a0_0 a0_1 l0_2 a0_3 a0_4 l0_5 = some r) ∧ Aside0 (kq ≤ k) ∧ Aside0 (wc.heap[gb107]? = some (.cells #[.int .i64 a0_0, .int .i64 a0_1, (.slice A0_2 l0_2.length c0_2), .float .f64 a0_3, .float .f64 a0_4, (.slice A0_5 l0_5.length c0_5)] 26 (0, 0))) ∧ Aside0 (Below w.heap.size w wc))
 case first =>
  have H := HC2.out
  clear HC2
  by_cases c4 : (l0_5.length : Int) > 0
  ·rw [if_pos c4] at H
   have c4b0 : decide (0 < (l0_5.length : Int)) = true := decide_eq_true c4
   have c4b1 : decide (0 < l0_5.length) = true := decide_eq_true (by omega)
   clear c4
   (first | rw [c4b0] | (simp only [i64_w, i32_w]; rw [c4b0]) | skip)
   have H' := Aside0.mk H
   clear H
   have hcz5_0 : w3.cell? ⟨gb107, 0, none⟩ = some (.int .i64 a0_0) := (blk_cell BK107.out 0).trans rfl
   have hcz5_1 : w3.cell? ⟨gb107, 1, none⟩ = some (.int .i64 a0_1) := (blk_cell BK107.out 1).trans rfl
   have hcz5_2 : w3.cell? ⟨gb107, 2, none⟩ = some (.slice A0_2 l0_2.length c0_2) := (blk_cell BK107.out 2).trans rfl
   have hcz5_3 : w3.cell? ⟨gb107, 3, none⟩ = some (.float .f64 a0_3) := (blk_cell BK107.out 3).trans rfl
   have hcz5_4 : w3.cell? ⟨gb107, 4, none⟩ = some (.float .f64 a0_4) := (blk_cell BK107.out 4).trans rfl
   have hcz5_5 : w3.cell? ⟨gb107, 5, none⟩ = some (.slice A0_5 l0_5.length c0_5) := (blk_cell BK107.out 5).trans rfl
   have hfz5_0 := blk_frozen BK107.out 0
   have hfz5_1 := blk_frozen BK107.out 1
   have hfz5_2 := blk_frozen BK107.out 2
   have hfz5_3 := blk_frozen BK107.out 3
   have hfz5_4 := blk_frozen BK107.out 4
   have hfz5_5 := blk_frozen BK107.out 5
   go_wp2
   go_meet
   case rel => exact ⟨_, (true), (by first | rfl | (simp; done) | (simp [*]; done)), H', ⟨by first | omega | exact Nat.le_refl _⟩, ⟨by (with_reducible repeat (first | refine blk_drewN ?_ _ | refine blk_drew ?_ | refine blk_alloc ?_ _)); exact BK107.out⟩, ⟨by repeat (first | (with_reducible first | exact HB.out | apply below_alloc | apply pw_below_drewN | apply below_drew1 | refine below_set ?_ GE107.out) | exact HB.out)⟩⟩
  ·rw [if_neg c4] at H
   have c4b0 : decide (0 < (l0_5.length : Int)) = false := decide_eq_false c4
   have c4b1 : decide (0 < l0_5.length) = false := decide_eq_false (by omega)
   clear c4
   (first | rw [c4b0] | (simp only [i64_w, i32_w]; rw [c4b0]) | skip)
   by_cases c6 : a0_1 < 1
   ·rw [if_pos c6] at H
    have c6b0 : decide (a0_1 < 1) = true := decide_eq_true c6
    clear c6
    have H' := Aside0.mk H
    clear H
    have hcz7_0 : w3.cell? ⟨gb107, 0, none⟩ = some (.int .i64 a0_0) := (blk_cell BK107.out 0).trans rfl
    have hcz7_1 : w3.cell? ⟨gb107, 1, none⟩ = some (.int .i64 a0_1) := (blk_cell BK107.out 1).trans rfl
    have hcz7_2 : w3.cell? ⟨gb107, 2, none⟩ = some (.slice A0_2 l0_2.length c0_2) := (blk_cell BK107.out 2).trans rfl
    have hcz7_3 : w3.cell? ⟨gb107, 3, none⟩ = some (.float .f64 a0_3) := (blk_cell BK107.out 3).trans rfl
    have hcz7_4 : w3.cell? ⟨gb107, 4, none⟩ = some (.float .f64 a0_4) := (blk_cell BK107.out 4).trans rfl
    have hcz7_5 : w3.cell? ⟨gb107, 5, none⟩ = some (.slice A0_5 l0_5.length c0_5) := (blk_cell BK107.out 5).trans rfl
    have hfz7_0 := blk_frozen BK107.out 0
    have hfz7_1 := blk_frozen BK107.out 1
    have hfz7_2 := blk_frozen BK107.out 2
    have hfz7_3 := blk_frozen BK107.out 3
    have hfz7_4 := blk_frozen BK107.out 4
    have hfz7_5 := blk_frozen BK107.out 5
    go_wp2
    go_meet
    case rel => exact ⟨_, (true), (by first | rfl | (simp; done) | (simp [*]; done)), H', ⟨by first | omega | exact Nat.le_refl _⟩, ⟨by (with_reducible repeat (first | refine blk_drewN ?_ _ | refine blk_drew ?_ | refine blk_alloc ?_ _)); exact BK107.out⟩, ⟨by repeat (first | (with_reducible first | exact HB.out | apply below_alloc | apply pw_below_drewN | apply below_drew1 | refine below_set ?_ GE107.out) | exact HB.out)⟩⟩
   ·rw [if_neg c6] at H
    have c6b0 : decide (a0_1 < 1) = false := decide_eq_false c6
    clear c6
    have H' := Aside0.mk H
    clear H
    have hcz8_0 : w3.cell? ⟨gb107, 0, none⟩ = some (.int .i64 a0_0) := (blk_cell BK107.out 0).trans rfl
    have hcz8_1 : w3.cell? ⟨gb107, 1, none⟩ = some (.int .i64 a0_1) := (blk_cell BK107.out 1).trans rfl
    have hcz8_2 : w3.cell? ⟨gb107, 2, none⟩ = some (.slice A0_2 l0_2.length c0_2) := (blk_cell BK107.out 2).trans rfl
    have hcz8_3 : w3.cell? ⟨gb107, 3, none⟩ = some (.float .f64 a0_3) := (blk_cell BK107.out 3).trans rfl
    have hcz8_4 : w3.cell? ⟨gb107, 4, none⟩ = some (.float .f64 a0_4) := (blk_cell BK107.out 4).trans rfl
    have hcz8_5 : w3.cell? ⟨gb107, 5, none⟩ = some (.slice A0_5 l0_5.length c0_5) := (blk_cell BK107.out 5).trans rfl
    have hfz8_0 := blk_frozen BK107.out 0
    have hfz8_1 := blk_frozen BK107.out 1
    have hfz8_2 := blk_frozen BK107.out 2
    have hfz8_3 := blk_frozen BK107.out 3
    have hfz8_4 := blk_frozen BK107.out 4
    have hfz8_5 := blk_frozen BK107.out 5
    go_wp2
    go_meet
    case rel => exact ⟨_, (decide (a0_1 > 6)), (by first | rfl | (simp; done) | (simp [*]; done)), H', ⟨by first | omega | exact Nat.le_refl _⟩, ⟨by (with_reducible repeat (first | refine blk_drewN ?_ _ | refine blk_drew ?_ | refine blk_alloc ?_ _)); exact BK107.out⟩, ⟨by repeat (first | (with_reducible first | exact HB.out | apply below_alloc | apply pw_below_drewN | apply below_drew1 | refine below_set ?_ GE107.out) | exact HB.out)⟩⟩
 case rest =>
  clear HC2
  try clear c2
  try clear p2
  try clear c4
  try clear c4b0
  try clear c4b1
  try clear c6
  try clear c6b0
  try clear hcz5_0
  try clear hcz5_1
  try clear hcz5_2
  try clear hcz5_3
  try clear hcz5_4
  try clear hcz5_5
  try clear hcz7_0
  try clear hcz7_1
  try clear hcz7_2
  try clear hcz7_3
  try clear hcz7_4
  try clear hcz7_5
  try clear hcz8_0
  try clear hcz8_1
  try clear hcz8_2
  try clear hcz8_3
  try clear hcz8_4
  try clear hcz8_5
  try clear hfz5_0
  try clear hfz5_1
  try clear hfz5_2
  try clear hfz5_3
  try clear hfz5_4
  try clear hfz5_5
  try clear hfz7_0
  try clear hfz7_1
  try clear hfz7_2
  try clear hfz7_3
  try clear hfz7_4
  try clear hfz7_5
  try clear hfz8_0
  try clear hfz8_1
  try clear hfz8_2
  try clear hfz8_3
  try clear hfz8_4
  try clear hfz8_5
  obtain ⟨kq, x17_1, rfl, HA, HJ1, BK107, HB⟩ := hcut
  cases kq with
  | zero => exact absurd HA.out (by simp [gatewardenref11_atom.j0])
  | succ kj1 =>
   have H := HA.out
   clear HA
   simp only [gatewardenref11_atom.j0] at H
   by_cases c9 : x17_1 = true
   ·subst c9
    have H1 : (some false) = some r := by rw [if_pos rfl] at H; exact H
    clear H
    have H := H1
    clear H1
    obtain rfl := Option.some.inj H
    go_wp2
    go_ret
    exact ⟨by first | rfl | (simp [errW_none, errW_some] <;> rfl) | (simp [*, errW_none, errW_some] <;> rfl), by repeat (first | (with_reducible first | exact HB.out | apply below_alloc | apply pw_below_drewN | apply below_drew1 | refine below_set ?_ GE107.out) | exact HB.out)⟩
   ·replace c9 := Bool.eq_false_iff.mpr c9
    subst c9
    have H1 : (if a0_1 = 6 then (if (l0_2.length : Int) = 0 then ((gatewardenref11_bound.f a0_3).bind fun t108 => (if t108 = true then ((gatewardenref11_bound.f a0_4).bind fun t109 => (some t109)) else (some false))) else (some false)) else (gatewardenref11_atom.l0 kj1 0 a0_0 a0_1 l0_2 a0_3 a0_4 l0_5)) = some r := by rw [if_neg (show ¬ (false = true) by decide)] at H; exact H
    clear H
    have H := H1
    clear H1
    by_cases c10 : a0_1 = 6
    ·rw [if_pos c10] at H
     have c10b0 : (a0_1 == 6) = true := beq_iff_eq.mpr c10
     have c10b1 : (a0_1 != 6) = false := bne_eq_false_iff_eq.mpr c10
     clear c10
     by_cases c11 : (l0_2.length : Int) = 0
     ·rw [if_pos c11] at H
      have c11b0 : ((l0_2.length : Int) == 0) = true := beq_iff_eq.mpr c11
      have c11b1 : ((l0_2.length : Int) != 0) = false := bne_eq_false_iff_eq.mpr c11
      clear c11
      replace H := Option.bind_eq_some_iff.mp H
      obtain ⟨t108, A120, H⟩ := H
      replace H : (if t108 = true then ((gatewardenref11_bound.f a0_4).bind fun t109 => (some t109)) else (some false)) = some r := H
      have A12 := Aside0.mk A120
      clear A120
      by_cases c13 : t108 = true
      ·subst c13
       have H1 : ((gatewardenref11_bound.f a0_4).bind fun t109 => (some t109)) = some r := by rw [if_pos rfl] at H; exact H
       clear H
       have H := H1
       clear H1
       replace H := Option.bind_eq_some_iff.mp H
       obtain ⟨t109, A140, H⟩ := H
       replace H : (some t109) = some r := H
       have A14 := Aside0.mk A140
       clear A140
       obtain rfl := Option.some.inj H
       have hcz15_0 : wc.cell? ⟨gb107, 0, none⟩ = some (.int .i64 a0_0) := (blk_cell BK107.out 0).trans rfl
       have hcz15_1 : wc.cell? ⟨gb107, 1, none⟩ = some (.int .i64 a0_1) := (blk_cell BK107.out 1).trans rfl
       have hcz15_2 : wc.cell? ⟨gb107, 2, none⟩ = some (.slice A0_2 l0_2.length c0_2) := (blk_cell BK107.out 2).trans rfl
       have hcz15_3 : wc.cell? ⟨gb107, 3, none⟩ = some (.float .f64 a0_3) := (blk_cell BK107.out 3).trans rfl
       have hcz15_4 : wc.cell? ⟨gb107, 4, none⟩ = some (.float .f64 a0_4) := (blk_cell BK107.out 4).trans rfl
       have hcz15_5 : wc.cell? ⟨gb107, 5, none⟩ = some (.slice A0_5 l0_5.length c0_5) := (blk_cell BK107.out 5).trans rfl
       have hfz15_0 := blk_frozen BK107.out 0
       have hfz15_1 := blk_frozen BK107.out 1
       have hfz15_2 := blk_frozen BK107.out 2
       have hfz15_3 := blk_frozen BK107.out 3
       have hfz15_4 := blk_frozen BK107.out 4
       have hfz15_5 := blk_frozen BK107.out 5
       have tk0_ := True.intro
       go_wp2_with (first | (have t_ := tk0_; clear t_; (go_at_call 45; (with_reducible refine (gatewardenref11_bound.calls a0_3 true _ A12.out).mono ?_); rintro e w16 ⟨rfl, hb⟩; have n0_ := Aside0.mk (blk_below (g := gb107) (o := .cells #[.int .i64 a0_0, .int .i64 a0_1, .slice A0_2 l0_2.length c0_2, .float .f64 a0_3, .float .f64 a0_4, .slice A0_5 l0_5.length c0_5] 26 (0, 0)) (by (with_reducible repeat (first | refine blk_drewN ?_ _ | refine blk_drew ?_ | refine blk_alloc ?_ _)); exact BK107.out) hb); have n1_ := Aside0.mk (below_step (by repeat (first | (with_reducible first | exact HB.out | apply below_alloc | apply pw_below_drewN | apply below_drew1 | refine below_set ?_ GE107.out) | exact HB.out)) hb); clear BK107; clear HB; have BK107 := n0_; have HB := n1_; clear n0_ n1_; (try clear hb); (try clear hb2); (try clear hk); (try clear hi); have hcz17_0 : w16.cell? ⟨gb107, 0, none⟩ = some (.int .i64 a0_0) := (blk_cell BK107.out 0).trans rfl; have hcz17_1 : w16.cell? ⟨gb107, 1, none⟩ = some (.int .i64 a0_1) := (blk_cell BK107.out 1).trans rfl; have hcz17_2 : w16.cell? ⟨gb107, 2, none⟩ = some (.slice A0_2 l0_2.length c0_2) := (blk_cell BK107.out 2).trans rfl; have hcz17_3 : w16.cell? ⟨gb107, 3, none⟩ = some (.float .f64 a0_3) := (blk_cell BK107.out 3).trans rfl; have hcz17_4 : w16.cell? ⟨gb107, 4, none⟩ = some (.float .f64 a0_4) := (blk_cell BK107.out 4).trans rfl; have hcz17_5 : w16.cell? ⟨gb107, 5, none⟩ = some (.slice A0_5 l0_5.length c0_5) := (blk_cell BK107.out 5).trans rfl; have hfz17_0 := blk_frozen BK107.out 0; have hfz17_1 := blk_frozen BK107.out 1; have hfz17_2 := blk_frozen BK107.out 2; have hfz17_3 := blk_frozen BK107.out 3; have hfz17_4 := blk_frozen BK107.out 4; have hfz17_5 := blk_frozen BK107.out 5); clear tk0_; have tk1_ := True.intro) | (have t_ := tk1_; clear t_; (go_at_call 45; (with_reducible refine (gatewardenref11_bound.calls a0_4 t109 _ A14.out).mono ?_); rintro e w18 ⟨rfl, hb⟩; have n0_ := Aside0.mk (blk_below (g := gb107) (o := .cells #[.int .i64 a0_0, .int .i64 a0_1, .slice A0_2 l0_2.length c0_2, .float .f64 a0_3, .float .f64 a0_4, .slice A0_5 l0_5.length c0_5] 26 (0, 0)) (by (with_reducible repeat (first | refine blk_drewN ?_ _ | refine blk_drew ?_ | refine blk_alloc ?_ _)); exact BK107.out) hb); have n1_ := Aside0.mk (below_step (by repeat (first | (with_reducible first | exact HB.out | apply below_alloc | apply pw_below_drewN | apply below_drew1 | refine below_set ?_ GE107.out) | exact HB.out)) hb); clear BK107; clear HB; have BK107 := n0_; have HB := n1_; clear n0_ n1_; (try clear hb); (try clear hb2); (try clear hk); (try clear hi)); clear tk1_; have tk2_ := True.intro))
       go_ret
       exact ⟨by first | rfl | (simp [errW_none, errW_some] <;> rfl) | (simp [*, errW_none, errW_some] <;> rfl), by repeat (first | (with_reducible first | exact HB.out | apply below_alloc | apply pw_below_drewN | apply below_drew1 | refine below_set ?_ GE107.out) | exact HB.out)⟩
      ·replace c13 := Bool.eq_false_iff.mpr c13
       subst c13
       have H1 : (some false) = some r := by rw [if_neg (show ¬ (false = true) by decide)] at H; exact H
       clear H
       have H := H1
       clear H1
       obtain rfl := Option.some.inj H
       have hcz19_0 : wc.cell? ⟨gb107, 0, none⟩ = some (.int .i64 a0_0) := (blk_cell BK107.out 0).trans rfl
       have hcz19_1 : wc.cell? ⟨gb107, 1, none⟩ = some (.int .i64 a0_1) := (blk_cell BK107.out 1).trans rfl
       have hcz19_2 : wc.cell? ⟨gb107, 2, none⟩ = some (.slice A0_2 l0_2.length c0_2) := (blk_cell BK107.out 2).trans rfl
       have hcz19_3 : wc.cell? ⟨gb107, 3, none⟩ = some (.float .f64 a0_3) := (blk_cell BK107.out 3).trans rfl
       have hcz19_4 : wc.cell? ⟨gb107, 4, none⟩ = some (.float .f64 a0_4) := (blk_cell BK107.out 4).trans rfl
       have hcz19_5 : wc.cell? ⟨gb107, 5, none⟩ = some (.slice A0_5 l0_5.length c0_5) := (blk_cell BK107.out 5).trans rfl
       have hfz19_0 := blk_frozen BK107.out 0
       have hfz19_1 := blk_frozen BK107.out 1
       have hfz19_2 := blk_frozen BK107.out 2
       have hfz19_3 := blk_frozen BK107.out 3
       have hfz19_4 := blk_frozen BK107.out 4
       have hfz19_5 := blk_frozen BK107.out 5
       go_wp2_with (first | (go_at_call 45; (with_reducible refine (gatewardenref11_bound.calls a0_3 false _ A12.out).mono ?_); rintro e w20 ⟨rfl, hb⟩; have n0_ := Aside0.mk (blk_below (g := gb107) (o := .cells #[.int .i64 a0_0, .int .i64 a0_1, .slice A0_2 l0_2.length c0_2, .float .f64 a0_3, .float .f64 a0_4, .slice A0_5 l0_5.length c0_5] 26 (0, 0)) (by (with_reducible repeat (first | refine blk_drewN ?_ _ | refine blk_drew ?_ | refine blk_alloc ?_ _)); exact BK107.out) hb); have n1_ := Aside0.mk (below_step (by repeat (first | (with_reducible first | exact HB.out | apply below_alloc | apply pw_below_drewN | apply below_drew1 | refine below_set ?_ GE107.out) | exact HB.out)) hb); clear BK107; clear HB; have BK107 := n0_; have HB := n1_; clear n0_ n1_; (try clear hb); (try clear hb2); (try clear hk); (try clear hi)))
       go_ret
       exact ⟨by first | rfl | (simp [errW_none, errW_some] <;> rfl) | (simp [*, errW_none, errW_some] <;> rfl), by repeat (first | (with_reducible first | exact HB.out | apply below_alloc | apply pw_below_drewN | apply below_drew1 | refine below_set ?_ GE107.out) | exact HB.out)⟩
     ·rw [if_neg c11] at H
      have c11b0 : ((l0_2.length : Int) == 0) = false := beq_eq_false_iff_ne.mpr c11
      have c11b1 : ((l0_2.length : Int) != 0) = true := bne_iff_ne.mpr c11
      have c11b2 : ¬ (l0_2 = []) := fun h_ => c11 (by rw [h_]; rfl)
      obtain rfl := Option.some.inj H
      have hcz21_0 : wc.cell? ⟨gb107, 0, none⟩ = some (.int .i64 a0_0) := (blk_cell BK107.out 0).trans rfl
      have hcz21_1 : wc.cell? ⟨gb107, 1, none⟩ = some (.int .i64 a0_1) := (blk_cell BK107.out 1).trans rfl
      have hcz21_2 : wc.cell? ⟨gb107, 2, none⟩ = some (.slice A0_2 l0_2.length c0_2) := (blk_cell BK107.out 2).trans rfl
      have hcz21_3 : wc.cell? ⟨gb107, 3, none⟩ = some (.float .f64 a0_3) := (blk_cell BK107.out 3).trans rfl
      have hcz21_4 : wc.cell? ⟨gb107, 4, none⟩ = some (.float .f64 a0_4) := (blk_cell BK107.out 4).trans rfl
      have hcz21_5 : wc.cell? ⟨gb107, 5, none⟩ = some (.slice A0_5 l0_5.length c0_5) := (blk_cell BK107.out 5).trans rfl
      have hfz21_0 := blk_frozen BK107.out 0
      have hfz21_1 := blk_frozen BK107.out 1
      have hfz21_2 := blk_frozen BK107.out 2
      have hfz21_3 := blk_frozen BK107.out 3
      have hfz21_4 := blk_frozen BK107.out 4
      have hfz21_5 := blk_frozen BK107.out 5
      go_wp2
      go_ret
      exact ⟨by first | rfl | (simp [errW_none, errW_some] <;> rfl) | (simp [*, errW_none, errW_some] <;> rfl), by repeat (first | (with_reducible first | exact HB.out | apply below_alloc | apply pw_below_drewN | apply below_drew1 | refine below_set ?_ GE107.out) | exact HB.out)⟩
    ·rw [if_neg c10] at H
     have c10b0 : (a0_1 == 6) = false := beq_eq_false_iff_ne.mpr c10
     have c10b1 : (a0_1 != 6) = true := bne_iff_ne.mpr c10
     have H' := Aside0.mk H
     clear H
     have hcz22_0 : wc.cell? ⟨gb107, 0, none⟩ = some (.int .i64 a0_0) := (blk_cell BK107.out 0).trans rfl
     have hcz22_1 : wc.cell? ⟨gb107, 1, none⟩ = some (.int .i64 a0_1) := (blk_cell BK107.out 1).trans rfl
     have hcz22_2 : wc.cell? ⟨gb107, 2, none⟩ = some (.slice A0_2 l0_2.length c0_2) := (blk_cell BK107.out 2).trans rfl
     have hcz22_3 : wc.cell? ⟨gb107, 3, none⟩ = some (.float .f64 a0_3) := (blk_cell BK107.out 3).trans rfl
     have hcz22_4 : wc.cell? ⟨gb107, 4, none⟩ = some (.float .f64 a0_4) := (blk_cell BK107.out 4).trans rfl
     have hcz22_5 : wc.cell? ⟨gb107, 5, none⟩ = some (.slice A0_5 l0_5.length c0_5) := (blk_cell BK107.out 5).trans rfl
     have hfz22_0 := blk_frozen BK107.out 0
     have hfz22_1 := blk_frozen BK107.out 1
     have hfz22_2 := blk_frozen BK107.out 2
     have hfz22_3 := blk_frozen BK107.out 3
     have hfz22_4 := blk_frozen BK107.out 4
     have hfz22_5 := blk_frozen BK107.out 5
     go_wp2
     go_loopg [3] kj1 (fun kq v3 w' => ∃ (x3_2 : Int), v3 = .int .i64 x3_2 ∧ Aside0 (gatewardenref11_atom.l0 kq x3_2 a0_0 a0_1 l0_2 a0_3 a0_4 l0_5 = some r) ∧ Aside0 (kq ≤ kj1) ∧ Aside0 (w'.heap[gb107]? = some (.cells #[.int .i64 a0_0, .int .i64 a0_1, (.slice A0_2 l0_2.length c0_2), .float .f64 a0_3, .float .f64 a0_4, (.slice A0_5 l0_5.length c0_5)] 26 (0, 0))) ∧ Aside0 (Below w.heap.size w w'))
     case atStart => exact ⟨(0), (by first | rfl | (simp; done) | (simp [*]; done)), H', ⟨Nat.le_refl _⟩, ⟨by (with_reducible repeat (first | refine blk_drewN ?_ _ | refine blk_drew ?_ | refine blk_alloc ?_ _)); exact BK107.out⟩, ⟨by repeat (first | (with_reducible first | exact HB.out | apply below_alloc | apply pw_below_drewN | apply below_drew1 | refine below_set ?_ GE107.out) | exact HB.out)⟩⟩
     case round =>
      clear H'
      try clear c1
      try clear c2
      try clear p2
      try clear c4
      try clear c4b0
      try clear c4b1
      try clear c6
      try clear c6b0
      try clear c9
      try clear c10
      try clear c10b0
      try clear c10b1
      try clear c11
      try clear c11b0
      try clear c11b1
      try clear c11b2
      try clear c13
      try clear hcz15_0
      try clear hcz15_1
      try clear hcz15_2
      try clear hcz15_3
      try clear hcz15_4
      try clear hcz15_5
      try clear hcz17_0
      try clear hcz17_1
      try clear hcz17_2
      try clear hcz17_3
      try clear hcz17_4
      try clear hcz17_5
      try clear hcz19_0
      try clear hcz19_1
      try clear hcz19_2
      try clear hcz19_3
      try clear hcz19_4
      try clear hcz19_5
      try clear hcz21_0
      try clear hcz21_1
      try clear hcz21_2
      try clear hcz21_3
      try clear hcz21_4
      try clear hcz21_5
      try clear hcz22_0
      try clear hcz22_1
      try clear hcz22_2
      try clear hcz22_3
      try clear hcz22_4
      try clear hcz22_5
      try clear hcz5_0
      try clear hcz5_1
      try clear hcz5_2
      try clear hcz5_3
      try clear hcz5_4
      try clear hcz5_5
      try clear hcz7_0
      try clear hcz7_1
      try clear hcz7_2
      try clear hcz7_3
      try clear hcz7_4
      try clear hcz7_5
      try clear hcz8_0
      try clear hcz8_1
      try clear hcz8_2
      try clear hcz8_3
      try clear hcz8_4
      try clear hcz8_5
      try clear hfz15_0
      try clear hfz15_1
      try clear hfz15_2
      try clear hfz15_3
      try clear hfz15_4
      try clear hfz15_5
      try clear hfz17_0
      try clear hfz17_1
      try clear hfz17_2
      try clear hfz17_3
      try clear hfz17_4
      try clear hfz17_5
      try clear hfz19_0
      try clear hfz19_1
      try clear hfz19_2
      try clear hfz19_3
      try clear hfz19_4
      try clear hfz19_5
      try clear hfz21_0
      try clear hfz21_1
      try clear hfz21_2
      try clear hfz21_3
      try clear hfz21_4
      try clear hfz21_5
      try clear hfz22_0
      try clear hfz22_1
      try clear hfz22_2
      try clear hfz22_3
      try clear hfz22_4
      try clear hfz22_5
      try clear hfz5_0
      try clear hfz5_1
      try clear hfz5_2
      try clear hfz5_3
      try clear hfz5_4
      try clear hfz5_5
      try clear hfz7_0
      try clear hfz7_1
      try clear hfz7_2
      try clear hfz7_3
      try clear hfz7_4
      try clear hfz7_5
      try clear hfz8_0
      try clear hfz8_1
      try clear hfz8_2
      try clear hfz8_3
      try clear hfz8_4
      try clear hfz8_5
      try clear p2
      obtain ⟨x3_2, rfl, HA, HK2, BK107, HB⟩ := hrel
      cases gk with
      | zero => exact absurd HA.out (by simp [gatewardenref11_atom.l0])
      | succ k2 =>
       have H := HA.out
       clear HA
       simp only [gatewardenref11_atom.l0] at H
       by_cases c23 : x3_2 < (l0_2.length : Int)
       ·rw [if_pos c23] at H
        have c23b0 : decide (x3_2 < (l0_2.length : Int)) = true := decide_eq_true c23
        clear c23
        by_cases c24 : 0 ≤ x3_2
        ·rw [if_pos c24] at H
         have c24b0 : decide (0 ≤ x3_2) = true := decide_eq_true c24
         clear c24
         replace H := Option.bind_eq_some_iff.mp H
         obtain ⟨t113, A250, H⟩ := H
         replace H : (if t113 = true then ((gatewardenref11_num.f ((rd_T55 l0_2 x3_2).f1)).bind fun t115 => (if t115 = true then (gatewardenref11_atom.l0 k2 (wrap64 (x3_2 + 1)) a0_0 a0_1 l0_2 a0_3 a0_4 l0_5) else (some false))) else (some false)) = some r := H
         have A25 := Aside0.mk A250
         clear A250
         by_cases c26 : t113 = true
         ·subst c26
          have H1 : ((gatewardenref11_num.f ((rd_T55 l0_2 x3_2).f1)).bind fun t115 => (if t115 = true then (gatewardenref11_atom.l0 k2 (wrap64 (x3_2 + 1)) a0_0 a0_1 l0_2 a0_3 a0_4 l0_5) else (some false))) = some r := by rw [if_pos rfl] at H; exact H
          clear H
          have H := H1
          clear H1
          replace H := Option.bind_eq_some_iff.mp H
          obtain ⟨t115, A270, H⟩ := H
          replace H : (if t115 = true then (gatewardenref11_atom.l0 k2 (wrap64 (x3_2 + 1)) a0_0 a0_1 l0_2 a0_3 a0_4 l0_5) else (some false)) = some r := H
          have A27 := Aside0.mk A270
          clear A270
          by_cases c28 : t115 = true
          ·subst c28
           have H1 : (gatewardenref11_atom.l0 k2 (wrap64 (x3_2 + 1)) a0_0 a0_1 l0_2 a0_3 a0_4 l0_5) = some r := by rw [if_pos rfl] at H; exact H
           clear H
           have H := H1
           clear H1
           have H' := Aside0.mk H
           clear H
           have hcz29_0 : wr.cell? ⟨gb107, 0, none⟩ = some (.int .i64 a0_0) := (blk_cell BK107.out 0).trans rfl
           have hcz29_1 : wr.cell? ⟨gb107, 1, none⟩ = some (.int .i64 a0_1) := (blk_cell BK107.out 1).trans rfl
           have hcz29_2 : wr.cell? ⟨gb107, 2, none⟩ = some (.slice A0_2 l0_2.length c0_2) := (blk_cell BK107.out 2).trans rfl
           have hcz29_3 : wr.cell? ⟨gb107, 3, none⟩ = some (.float .f64 a0_3) := (blk_cell BK107.out 3).trans rfl
           have hcz29_4 : wr.cell? ⟨gb107, 4, none⟩ = some (.float .f64 a0_4) := (blk_cell BK107.out 4).trans rfl
           have hcz29_5 : wr.cell? ⟨gb107, 5, none⟩ = some (.slice A0_5 l0_5.length c0_5) := (blk_cell BK107.out 5).trans rfl
           have hfz29_0 := blk_frozen BK107.out 0
           have hfz29_1 := blk_frozen BK107.out 1
           have hfz29_2 := blk_frozen BK107.out 2
           have hfz29_3 := blk_frozen BK107.out 3
           have hfz29_4 := blk_frozen BK107.out 4
           have hfz29_5 := blk_frozen BK107.out 5
           have p112 : 0 ≤ (x3_2 : Int) := of_decide_eq_true (by first | (with_reducible assumption) | assumption)
           have q112 : x3_2 < (l0_2.length : Int) := of_decide_eq_true (by first | (with_reducible assumption) | assumption)
           obtain ⟨ad112, e112, hx112_0, hx112_1⟩ := at_T55 HR0_2.out x3_2 p112 q112
           cases e112
           replace hx112_0 := (HB.out.cell (World.block_lt_of_cell? w _ hx112_0)).trans hx112_0
           replace hx112_1 := (HB.out.cell (World.block_lt_of_cell? w _ hx112_1)).trans hx112_1
           replace p112 := eq_true p112
           replace q112 := eq_true q112
           have tk0_ := True.intro
           go_wp2_with (first | (have t_ := tk0_; clear t_; ((with_reducible refine gate_callee (f := 46) rfl ?_); refine goesL_ (some 48) rfl rfl Try.func46 (by kernel_rfl) rfl #[.int .i64 ((rd_T55 l0_2 x3_2).f0)] rfl (by (try simp only [List.map_toArray, List.map_cons, List.map_nil]); first | done | rfl | (simp only [List.length_drop, List.length_take]; rfl)) ?_; (with_reducible refine (gatewardenref11_num.calls ((rd_T55 l0_2 x3_2).f0) true _ A25.out).mono ?_); rintro e w' ⟨rfl, ⟨nd, rfl⟩⟩; refine ⟨_, rfl, ?_⟩; have p114 : 0 ≤ (x3_2 : Int) := of_decide_eq_true (by first | (with_reducible assumption) | assumption); have q114 : x3_2 < (l0_2.length : Int) := of_decide_eq_true (by first | (with_reducible assumption) | assumption); obtain ⟨ad114, e114, hx114_0, hx114_1⟩ := at_T55 HR0_2.out x3_2 p114 q114; obtain rfl : ad112 = ad114 := (by injection e114); replace hx114_0 := (HB.out.cell (World.block_lt_of_cell? w _ hx114_0)).trans hx114_0; replace hx114_1 := (HB.out.cell (World.block_lt_of_cell? w _ hx114_1)).trans hx114_1; replace p114 := eq_true p114; replace q114 := eq_true q114); clear tk0_; have tk1_ := True.intro) | (have t_ := tk1_; clear t_; (go_at_call 46; (with_reducible refine (gatewardenref11_num.calls ((rd_T55 l0_2 x3_2).f1) true _ A27.out).mono ?_); rintro e w' ⟨rfl, ⟨nd, rfl⟩⟩); clear tk1_; have tk2_ := True.intro))
           go_roundg k2
           case measure => have := HJ1.out; have := HK2.out; omega
           case rel => exact ⟨(wrap64 (x3_2 + 1)), (by first | rfl | (simp; done) | (simp [*]; done)), H', ⟨by have := HJ1.out; have := HK2.out; omega⟩, ⟨by (with_reducible repeat (first | refine blk_drewN ?_ _ | refine blk_drew ?_ | refine blk_alloc ?_ _)); exact BK107.out⟩, ⟨by repeat (first | (with_reducible first | exact HB.out | apply below_alloc | apply pw_below_drewN | apply below_drew1 | refine below_set ?_ GE107.out) | exact HB.out)⟩⟩
          ·replace c28 := Bool.eq_false_iff.mpr c28
           subst c28
           have H1 : (some false) = some r := by rw [if_neg (show ¬ (false = true) by decide)] at H; exact H
           clear H
           have H := H1
           clear H1
           obtain rfl := Option.some.inj H
           have hcz30_0 : wr.cell? ⟨gb107, 0, none⟩ = some (.int .i64 a0_0) := (blk_cell BK107.out 0).trans rfl
           have hcz30_1 : wr.cell? ⟨gb107, 1, none⟩ = some (.int .i64 a0_1) := (blk_cell BK107.out 1).trans rfl
           have hcz30_2 : wr.cell? ⟨gb107, 2, none⟩ = some (.slice A0_2 l0_2.length c0_2) := (blk_cell BK107.out 2).trans rfl
           have hcz30_3 : wr.cell? ⟨gb107, 3, none⟩ = some (.float .f64 a0_3) := (blk_cell BK107.out 3).trans rfl
           have hcz30_4 : wr.cell? ⟨gb107, 4, none⟩ = some (.float .f64 a0_4) := (blk_cell BK107.out 4).trans rfl
           have hcz30_5 : wr.cell? ⟨gb107, 5, none⟩ = some (.slice A0_5 l0_5.length c0_5) := (blk_cell BK107.out 5).trans rfl
           have hfz30_0 := blk_frozen BK107.out 0
           have hfz30_1 := blk_frozen BK107.out 1
           have hfz30_2 := blk_frozen BK107.out 2
           have hfz30_3 := blk_frozen BK107.out 3
           have hfz30_4 := blk_frozen BK107.out 4
           have hfz30_5 := blk_frozen BK107.out 5
           have p112 : 0 ≤ (x3_2 : Int) := of_decide_eq_true (by first | (with_reducible assumption) | assumption)
           have q112 : x3_2 < (l0_2.length : Int) := of_decide_eq_true (by first | (with_reducible assumption) | assumption)
           obtain ⟨ad112, e112, hx112_0, hx112_1⟩ := at_T55 HR0_2.out x3_2 p112 q112
           cases e112
           replace hx112_0 := (HB.out.cell (World.block_lt_of_cell? w _ hx112_0)).trans hx112_0
           replace hx112_1 := (HB.out.cell (World.block_lt_of_cell? w _ hx112_1)).trans hx112_1
           replace p112 := eq_true p112
           replace q112 := eq_true q112
           have tk0_ := True.intro
           go_wp2_with (first | (have t_ := tk0_; clear t_; ((with_reducible refine gate_callee (f := 46) rfl ?_); refine goesL_ (some 48) rfl rfl Try.func46 (by kernel_rfl) rfl #[.int .i64 ((rd_T55 l0_2 x3_2).f0)] rfl (by (try simp only [List.map_toArray, List.map_cons, List.map_nil]); first | done | rfl | (simp only [List.length_drop, List.length_take]; rfl)) ?_; (with_reducible refine (gatewardenref11_num.calls ((rd_T55 l0_2 x3_2).f0) true _ A25.out).mono ?_); rintro e w' ⟨rfl, ⟨nd, rfl⟩⟩; refine ⟨_, rfl, ?_⟩; have p114 : 0 ≤ (x3_2 : Int) := of_decide_eq_true (by first | (with_reducible assumption) | assumption); have q114 : x3_2 < (l0_2.length : Int) := of_decide_eq_true (by first | (with_reducible assumption) | assumption); obtain ⟨ad114, e114, hx114_0, hx114_1⟩ := at_T55 HR0_2.out x3_2 p114 q114; obtain rfl : ad112 = ad114 := (by injection e114); replace hx114_0 := (HB.out.cell (World.block_lt_of_cell? w _ hx114_0)).trans hx114_0; replace hx114_1 := (HB.out.cell (World.block_lt_of_cell? w _ hx114_1)).trans hx114_1; replace p114 := eq_true p114; replace q114 := eq_true q114); clear tk0_; have tk1_ := True.intro) | (have t_ := tk1_; clear t_; (go_at_call 46; (with_reducible refine (gatewardenref11_num.calls ((rd_T55 l0_2 x3_2).f1) false _ A27.out).mono ?_); rintro e w' ⟨rfl, ⟨nd, rfl⟩⟩); clear tk1_; have tk2_ := True.intro))
           go_ret
           exact ⟨by first | rfl | (simp [errW_none, errW_some] <;> rfl) | (simp [*, errW_none, errW_some] <;> rfl), by repeat (first | (with_reducible first | exact HB.out | apply below_alloc | apply pw_below_drewN | apply below_drew1 | refine below_set ?_ GE107.out) | exact HB.out)⟩
         ·replace c26 := Bool.eq_false_iff.mpr c26
          subst c26
          have H1 : (some false) = some r := by rw [if_neg (show ¬ (false = true) by decide)] at H; exact H
          clear H
          have H := H1
          clear H1
          obtain rfl := Option.some.inj H
          have hcz31_0 : wr.cell? ⟨gb107, 0, none⟩ = some (.int .i64 a0_0) := (blk_cell BK107.out 0).trans rfl
          have hcz31_1 : wr.cell? ⟨gb107, 1, none⟩ = some (.int .i64 a0_1) := (blk_cell BK107.out 1).trans rfl
          have hcz31_2 : wr.cell? ⟨gb107, 2, none⟩ = some (.slice A0_2 l0_2.length c0_2) := (blk_cell BK107.out 2).trans rfl
          have hcz31_3 : wr.cell? ⟨gb107, 3, none⟩ = some (.float .f64 a0_3) := (blk_cell BK107.out 3).trans rfl
          have hcz31_4 : wr.cell? ⟨gb107, 4, none⟩ = some (.float .f64 a0_4) := (blk_cell BK107.out 4).trans rfl
          have hcz31_5 : wr.cell? ⟨gb107, 5, none⟩ = some (.slice A0_5 l0_5.length c0_5) := (blk_cell BK107.out 5).trans rfl
          have hfz31_0 := blk_frozen BK107.out 0
          have hfz31_1 := blk_frozen BK107.out 1
          have hfz31_2 := blk_frozen BK107.out 2
          have hfz31_3 := blk_frozen BK107.out 3
          have hfz31_4 := blk_frozen BK107.out 4
          have hfz31_5 := blk_frozen BK107.out 5
          have p112 : 0 ≤ (x3_2 : Int) := of_decide_eq_true (by first | (with_reducible assumption) | assumption)
          have q112 : x3_2 < (l0_2.length : Int) := of_decide_eq_true (by first | (with_reducible assumption) | assumption)
          obtain ⟨ad112, e112, hx112_0, hx112_1⟩ := at_T55 HR0_2.out x3_2 p112 q112
          cases e112
          replace hx112_0 := (HB.out.cell (World.block_lt_of_cell? w _ hx112_0)).trans hx112_0
          replace hx112_1 := (HB.out.cell (World.block_lt_of_cell? w _ hx112_1)).trans hx112_1
          replace p112 := eq_true p112
          replace q112 := eq_true q112
          go_wp2_with (first | ((with_reducible refine gate_callee (f := 46) rfl ?_); refine goesL_ (some 48) rfl rfl Try.func46 (by kernel_rfl) rfl #[.int .i64 ((rd_T55 l0_2 x3_2).f0)] rfl (by (try simp only [List.map_toArray, List.map_cons, List.map_nil]); first | done | rfl | (simp only [List.length_drop, List.length_take]; rfl)) ?_; (with_reducible refine (gatewardenref11_num.calls ((rd_T55 l0_2 x3_2).f0) false _ A25.out).mono ?_); rintro e w' ⟨rfl, ⟨nd, rfl⟩⟩; refine ⟨_, rfl, ?_⟩))
          go_ret
          exact ⟨by first | rfl | (simp [errW_none, errW_some] <;> rfl) | (simp [*, errW_none, errW_some] <;> rfl), by repeat (first | (with_reducible first | exact HB.out | apply below_alloc | apply pw_below_drewN | apply below_drew1 | refine below_set ?_ GE107.out) | exact HB.out)⟩
        ·rw [if_neg c24] at H
         exact absurd H (by simp)
       ·rw [if_neg c23] at H
        have c23b0 : decide (x3_2 < (l0_2.length : Int)) = false := decide_eq_false c23
        clear c23
        by_cases c32 : (l0_2.length : Int) > 0
        ·rw [if_pos c32] at H
         have c32b0 : decide (0 < (l0_2.length : Int)) = true := decide_eq_true c32
         have c32b1 : decide (0 < l0_2.length) = true := decide_eq_true (by omega)
         clear c32
         replace H := Option.bind_eq_some_iff.mp H
         obtain ⟨t110, A330, H⟩ := H
         replace H : (if t110 = true then ((gatewardenref11_plain.f a0_4).bind fun t111 => (some t111)) else (some false)) = some r := H
         have A33 := Aside0.mk A330
         clear A330
         by_cases c34 : t110 = true
         ·subst c34
          have H1 : ((gatewardenref11_plain.f a0_4).bind fun t111 => (some t111)) = some r := by rw [if_pos rfl] at H; exact H
          clear H
          have H := H1
          clear H1
          replace H := Option.bind_eq_some_iff.mp H
          obtain ⟨t111, A350, H⟩ := H
          replace H : (some t111) = some r := H
          have A35 := Aside0.mk A350
          clear A350
          obtain rfl := Option.some.inj H
          have hcz36_0 : wr.cell? ⟨gb107, 0, none⟩ = some (.int .i64 a0_0) := (blk_cell BK107.out 0).trans rfl
          have hcz36_1 : wr.cell? ⟨gb107, 1, none⟩ = some (.int .i64 a0_1) := (blk_cell BK107.out 1).trans rfl
          have hcz36_2 : wr.cell? ⟨gb107, 2, none⟩ = some (.slice A0_2 l0_2.length c0_2) := (blk_cell BK107.out 2).trans rfl
          have hcz36_3 : wr.cell? ⟨gb107, 3, none⟩ = some (.float .f64 a0_3) := (blk_cell BK107.out 3).trans rfl
          have hcz36_4 : wr.cell? ⟨gb107, 4, none⟩ = some (.float .f64 a0_4) := (blk_cell BK107.out 4).trans rfl
          have hcz36_5 : wr.cell? ⟨gb107, 5, none⟩ = some (.slice A0_5 l0_5.length c0_5) := (blk_cell BK107.out 5).trans rfl
          have hfz36_0 := blk_frozen BK107.out 0
          have hfz36_1 := blk_frozen BK107.out 1
          have hfz36_2 := blk_frozen BK107.out 2
          have hfz36_3 := blk_frozen BK107.out 3
          have hfz36_4 := blk_frozen BK107.out 4
          have hfz36_5 := blk_frozen BK107.out 5
          have tk0_ := True.intro
          go_wp2_with (first | (have t_ := tk0_; clear t_; (go_at_call 30; (with_reducible refine (gatewardenref11_plain.calls a0_3 true _ A33.out).mono ?_); rintro e w37 ⟨rfl, hb⟩; have n0_ := Aside0.mk (blk_below (g := gb107) (o := .cells #[.int .i64 a0_0, .int .i64 a0_1, .slice A0_2 l0_2.length c0_2, .float .f64 a0_3, .float .f64 a0_4, .slice A0_5 l0_5.length c0_5] 26 (0, 0)) (by (with_reducible repeat (first | refine blk_drewN ?_ _ | refine blk_drew ?_ | refine blk_alloc ?_ _)); exact BK107.out) hb); have n1_ := Aside0.mk (below_step (by repeat (first | (with_reducible first | exact HB.out | apply below_alloc | apply pw_below_drewN | apply below_drew1 | refine below_set ?_ GE107.out) | exact HB.out)) hb); clear BK107; clear HB; have BK107 := n0_; have HB := n1_; clear n0_ n1_; (try clear hb); (try clear hb2); (try clear hk); (try clear hi); have hcz38_0 : w37.cell? ⟨gb107, 0, none⟩ = some (.int .i64 a0_0) := (blk_cell BK107.out 0).trans rfl; have hcz38_1 : w37.cell? ⟨gb107, 1, none⟩ = some (.int .i64 a0_1) := (blk_cell BK107.out 1).trans rfl; have hcz38_2 : w37.cell? ⟨gb107, 2, none⟩ = some (.slice A0_2 l0_2.length c0_2) := (blk_cell BK107.out 2).trans rfl; have hcz38_3 : w37.cell? ⟨gb107, 3, none⟩ = some (.float .f64 a0_3) := (blk_cell BK107.out 3).trans rfl; have hcz38_4 : w37.cell? ⟨gb107, 4, none⟩ = some (.float .f64 a0_4) := (blk_cell BK107.out 4).trans rfl; have hcz38_5 : w37.cell? ⟨gb107, 5, none⟩ = some (.slice A0_5 l0_5.length c0_5) := (blk_cell BK107.out 5).trans rfl; have hfz38_0 := blk_frozen BK107.out 0; have hfz38_1 := blk_frozen BK107.out 1; have hfz38_2 := blk_frozen BK107.out 2; have hfz38_3 := blk_frozen BK107.out 3; have hfz38_4 := blk_frozen BK107.out 4; have hfz38_5 := blk_frozen BK107.out 5); clear tk0_; have tk1_ := True.intro) | (have t_ := tk1_; clear t_; (go_at_call 30; (with_reducible refine (gatewardenref11_plain.calls a0_4 t111 _ A35.out).mono ?_); rintro e w39 ⟨rfl, hb⟩; have n0_ := Aside0.mk (blk_below (g := gb107) (o := .cells #[.int .i64 a0_0, .int .i64 a0_1, .slice A0_2 l0_2.length c0_2, .float .f64 a0_3, .float .f64 a0_4, .slice A0_5 l0_5.length c0_5] 26 (0, 0)) (by (with_reducible repeat (first | refine blk_drewN ?_ _ | refine blk_drew ?_ | refine blk_alloc ?_ _)); exact BK107.out) hb); have n1_ := Aside0.mk (below_step (by repeat (first | (with_reducible first | exact HB.out | apply below_alloc | apply pw_below_drewN | apply below_drew1 | refine below_set ?_ GE107.out) | exact HB.out)) hb); clear BK107; clear HB; have BK107 := n0_; have HB := n1_; clear n0_ n1_; (try clear hb); (try clear hb2); (try clear hk); (try clear hi)); clear tk1_; have tk2_ := True.intro))
          go_ret
          exact ⟨by first | rfl | (simp [errW_none, errW_some] <;> rfl) | (simp [*, errW_none, errW_some] <;> rfl), by repeat (first | (with_reducible first | exact HB.out | apply below_alloc | apply pw_below_drewN | apply below_drew1 | refine below_set ?_ GE107.out) | exact HB.out)⟩
         ·replace c34 := Bool.eq_false_iff.mpr c34
          subst c34
          have H1 : (some false) = some r := by rw [if_neg (show ¬ (false = true) by decide)] at H; exact H
          clear H
          have H := H1
          clear H1
          obtain rfl := Option.some.inj H
          have hcz40_0 : wr.cell? ⟨gb107, 0, none⟩ = some (.int .i64 a0_0) := (blk_cell BK107.out 0).trans rfl
          have hcz40_1 : wr.cell? ⟨gb107, 1, none⟩ = some (.int .i64 a0_1) := (blk_cell BK107.out 1).trans rfl
          have hcz40_2 : wr.cell? ⟨gb107, 2, none⟩ = some (.slice A0_2 l0_2.length c0_2) := (blk_cell BK107.out 2).trans rfl
          have hcz40_3 : wr.cell? ⟨gb107, 3, none⟩ = some (.float .f64 a0_3) := (blk_cell BK107.out 3).trans rfl
          have hcz40_4 : wr.cell? ⟨gb107, 4, none⟩ = some (.float .f64 a0_4) := (blk_cell BK107.out 4).trans rfl
          have hcz40_5 : wr.cell? ⟨gb107, 5, none⟩ = some (.slice A0_5 l0_5.length c0_5) := (blk_cell BK107.out 5).trans rfl
          have hfz40_0 := blk_frozen BK107.out 0
          have hfz40_1 := blk_frozen BK107.out 1
          have hfz40_2 := blk_frozen BK107.out 2
          have hfz40_3 := blk_frozen BK107.out 3
          have hfz40_4 := blk_frozen BK107.out 4
          have hfz40_5 := blk_frozen BK107.out 5
          go_wp2_with (first | (go_at_call 30; (with_reducible refine (gatewardenref11_plain.calls a0_3 false _ A33.out).mono ?_); rintro e w41 ⟨rfl, hb⟩; have n0_ := Aside0.mk (blk_below (g := gb107) (o := .cells #[.int .i64 a0_0, .int .i64 a0_1, .slice A0_2 l0_2.length c0_2, .float .f64 a0_3, .float .f64 a0_4, .slice A0_5 l0_5.length c0_5] 26 (0, 0)) (by (with_reducible repeat (first | refine blk_drewN ?_ _ | refine blk_drew ?_ | refine blk_alloc ?_ _)); exact BK107.out) hb); have n1_ := Aside0.mk (below_step (by repeat (first | (with_reducible first | exact HB.out | apply below_alloc | apply pw_below_drewN | apply below_drew1 | refine below_set ?_ GE107.out) | exact HB.out)) hb); clear BK107; clear HB; have BK107 := n0_; have HB := n1_; clear n0_ n1_; (try clear hb); (try clear hb2); (try clear hk); (try clear hi)))
          go_ret
          exact ⟨by first | rfl | (simp [errW_none, errW_some] <;> rfl) | (simp [*, errW_none, errW_some] <;> rfl), by repeat (first | (with_reducible first | exact HB.out | apply below_alloc | apply pw_below_drewN | apply below_drew1 | refine below_set ?_ GE107.out) | exact HB.out)⟩
        ·rw [if_neg c32] at H
         have c32b0 : decide (0 < (l0_2.length : Int)) = false := decide_eq_false c32
         have c32b1 : decide (0 < l0_2.length) = false := decide_eq_false (by omega)
         clear c32
         obtain rfl := Option.some.inj H
         have hcz42_0 : wr.cell? ⟨gb107, 0, none⟩ = some (.int .i64 a0_0) := (blk_cell BK107.out 0).trans rfl
         have hcz42_1 : wr.cell? ⟨gb107, 1, none⟩ = some (.int .i64 a0_1) := (blk_cell BK107.out 1).trans rfl
         have hcz42_2 : wr.cell? ⟨gb107, 2, none⟩ = some (.slice A0_2 l0_2.length c0_2) := (blk_cell BK107.out 2).trans rfl
         have hcz42_3 : wr.cell? ⟨gb107, 3, none⟩ = some (.float .f64 a0_3) := (blk_cell BK107.out 3).trans rfl
         have hcz42_4 : wr.cell? ⟨gb107, 4, none⟩ = some (.float .f64 a0_4) := (blk_cell BK107.out 4).trans rfl
         have hcz42_5 : wr.cell? ⟨gb107, 5, none⟩ = some (.slice A0_5 l0_5.length c0_5) := (blk_cell BK107.out 5).trans rfl
         have hfz42_0 := blk_frozen BK107.out 0
         have hfz42_1 := blk_frozen BK107.out 1
         have hfz42_2 := blk_frozen BK107.out 2
         have hfz42_3 := blk_frozen BK107.out 3
         have hfz42_4 := blk_frozen BK107.out 4
         have hfz42_5 := blk_frozen BK107.out 5
         go_wp2
         go_ret
         exact ⟨by first | rfl | (simp [errW_none, errW_some] <;> rfl) | (simp [*, errW_none, errW_some] <;> rfl), by repeat (first | (with_reducible first | exact HB.out | apply below_alloc | apply pw_below_drewN | apply below_drew1 | refine below_set ?_ GE107.out) | exact HB.out)⟩
end Go.Proofs.Ytppmcbkcohiodaa.PMeanTells
