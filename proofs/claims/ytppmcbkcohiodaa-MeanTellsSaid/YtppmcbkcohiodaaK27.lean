/- Texts of this claim, put together (wip/pack.py): MeanTellsW. -/
import Derived.Test.YtppmcbkcohiodaaK26
import Derived.Test.YtppmcbkcohiodaaK2
namespace Go.Proofs.Ytppmcbkcohiodaa.PMeanTells
open Go Go.RowKit Go.Proofs.YtppmcbkcohiodaaW.PrintWords Go.Proofs.YtppmcbkcohiodaaW.PrintLast Go.Proofs.YtppmcbkcohiodaaW.PrintMore
set_option maxHeartbeats 4000000
set_option maxRecDepth 100000
set_option linter.unusedVariables false
set_option linter.unusedSimpArgs false
theorem MeanTells_calls (a0_0 : Int) (a0_1 : Int) (A0_2 : Option Addr) (c0_2 : Nat) (l0_2 : List (S55)) (a0_3 : Nat) (a0_4 : Nat) (A0_5 : Option Addr) (c0_5 : Nat) (l0_5 : List (S26)) (A0 : Option Addr) (c0 : Nat) (l0 : List S39) (a1_0 : Int) (a1_1 : Int) (a1_2 : Int) (A1_3 : Option Addr) (c1_3 : Nat) (l1_3 : List (S55)) (A1_4 : Option Addr) (c1_4 : Nat) (l1_4 : List Int) (A1_5 : Option Addr) (c1_5 : Nat) (l1_5 : List Int) (w : World) (hr0_2 : Kd.C k55 w A0_2 l0_2.length l0_2) (hc0_2 : l0_2.length ≤ c0_2) (hr0_5 : Kd.C k26 w A0_5 l0_5.length l0_5) (hc0_5 : l0_5.length ≤ c0_5) (hr0 : Kd.C k39 w A0 l0.length l0) (hc0 : l0.length ≤ c0) (hF : FaC w A1_3 c1_3 l1_3 A1_4 c1_4 l1_4 A1_5 c1_5 l1_5) (hgE : G26 ⟨a0_0, a0_1, l0_2, a0_3, a0_4, l0_5⟩) (hgL : ∀ r ∈ l0, G39 r) :
    Calls Try.prog 3 #[.agg #[.int .i64 a0_0, .int .i64 a0_1, .slice A0_2 l0_2.length c0_2, .float .f64 a0_3, .float .f64 a0_4, .slice A0_5 l0_5.length c0_5], .slice A0 l0.length c0, .agg #[.int .i64 a1_0, .int .i64 a1_1, .int .i64 a1_2, .slice A1_3 l1_3.length c1_3, .slice A1_4 l1_4.length c1_4, .slice A1_5 l1_5.length c1_5]] w fun e w' => e = .returned (.bool true) ∧ Below w.heap.size w w' := by
  obtain ⟨T, hT⟩ : ∃ T : Ending → World → Prop, T = fun e w' => e = .returned (.bool true) ∧ Below w.heap.size w w' := ⟨_, rfl⟩
  have HT := Aside0.mk hT
  rw [← hT]
  clear hT
  have hA := hW_below w #[.int .i64 a0_0, .int .i64 a0_1, .slice A0_2 l0_2.length c0_2, .float .f64 a0_3, .float .f64 a0_4, .slice A0_5 l0_5.length c0_5] #[.int .i64 a1_0, .int .i64 a1_1, .int .i64 a1_2, .slice A1_3 l1_3.length c1_3, .slice A1_4 l1_4.length c1_4, .slice A1_5 l1_5.length c1_5]
  have g0 := hW_b0 w #[.int .i64 a0_0, .int .i64 a0_1, .slice A0_2 l0_2.length c0_2, .float .f64 a0_3, .float .f64 a0_4, .slice A0_5 l0_5.length c0_5] #[.int .i64 a1_0, .int .i64 a1_1, .int .i64 a1_2, .slice A1_3 l1_3.length c1_3, .slice A1_4 l1_4.length c1_4, .slice A1_5 l1_5.length c1_5]
  have g1 := hW_b1 w #[.int .i64 a0_0, .int .i64 a0_1, .slice A0_2 l0_2.length c0_2, .float .f64 a0_3, .float .f64 a0_4, .slice A0_5 l0_5.length c0_5] #[.int .i64 a1_0, .int .i64 a1_1, .int .i64 a1_2, .slice A1_3 l1_3.length c1_3, .slice A1_4 l1_4.length c1_4, .slice A1_5 l1_5.length c1_5]
  obtain ⟨W, hW0⟩ : ∃ W, hW w #[.int .i64 a0_0, .int .i64 a0_1, .slice A0_2 l0_2.length c0_2, .float .f64 a0_3, .float .f64 a0_4, .slice A0_5 l0_5.length c0_5] #[.int .i64 a1_0, .int .i64 a1_1, .int .i64 a1_2, .slice A1_3 l1_3.length c1_3, .slice A1_4 l1_4.length c1_4, .slice A1_5 l1_5.length c1_5] = W := ⟨_, rfl⟩
  rw [hW0] at hA g0 g1
  have HE2 := Aside0.mk hr0_2
  have HE5 := Aside0.mk hr0_5
  have H2 := Aside0.mk hc0_2
  have H5 := Aside0.mk hc0_5
  have HF := Aside0.mk hF
  have HL := Aside0.mk hr0
  have HC0 := Aside0.mk hc0
  have HA := Aside0.mk hA
  have G0 := Aside0.mk g0
  have G1 := Aside0.mk g1
  have HGE := Aside0.mk hgE
  have HGL := Aside0.mk hgL
  have H0 := Aside0.mk (Below.refl W.heap.size W)
  clear hr0_2 hr0_5 hc0_2 hc0_5 hF hr0 hc0 hA g0 g1 hgE hgL
  go_enter Try.func3, Try.ntmps3
  go_upto_region 1 with (fail)
  unfold hW at hW0
  rw [hW0]
  clear hW0
  have e0 : W.cell? ⟨w.heap.size, 0, none⟩ = some (.int .i64 a0_0) := blk_cell (blk_below G0.out H0.out) 0
  have e1 : W.cell? ⟨w.heap.size, 1, none⟩ = some (.int .i64 a0_1) := blk_cell (blk_below G0.out H0.out) 1
  have e2 : W.cell? ⟨w.heap.size, 2, none⟩ = some (.slice A0_2 l0_2.length c0_2) := blk_cell (blk_below G0.out H0.out) 2
  have e3 : W.cell? ⟨w.heap.size, 3, none⟩ = some (.float .f64 a0_3) := blk_cell (blk_below G0.out H0.out) 3
  have e4 : W.cell? ⟨w.heap.size, 4, none⟩ = some (.float .f64 a0_4) := blk_cell (blk_below G0.out H0.out) 4
  have e5 : W.cell? ⟨w.heap.size, 5, none⟩ = some (.slice A0_5 l0_5.length c0_5) := blk_cell (blk_below G0.out H0.out) 5
  have f0 : W.cell? ⟨w.heap.size + 1, 0, none⟩ = some (.int .i64 a1_0) := blk_cell (blk_below G1.out H0.out) 0
  have f1 : W.cell? ⟨w.heap.size + 1, 1, none⟩ = some (.int .i64 a1_1) := blk_cell (blk_below G1.out H0.out) 1
  have f2 : W.cell? ⟨w.heap.size + 1, 2, none⟩ = some (.int .i64 a1_2) := blk_cell (blk_below G1.out H0.out) 2
  have f3 : W.cell? ⟨w.heap.size + 1, 3, none⟩ = some (.slice A1_3 l1_3.length c1_3) := blk_cell (blk_below G1.out H0.out) 3
  have f4 : W.cell? ⟨w.heap.size + 1, 4, none⟩ = some (.slice A1_4 l1_4.length c1_4) := blk_cell (blk_below G1.out H0.out) 4
  have f5 : W.cell? ⟨w.heap.size + 1, 5, none⟩ = some (.slice A1_5 l1_5.length c1_5) := blk_cell (blk_below G1.out H0.out) 5
  obtain ⟨k1, b1, hb1, q1⟩ := small_told ⟨a0_0, a0_1, l0_2, a0_3, a0_4, l0_5⟩ 5 (by decide) (by decide)
  have HB1 := Aside0.mk hb1
  have Q1 := Aside0.mk q1
  clear hb1 q1
  cases b1 with
  | false =>
    go_wp2_with fail
    refine (gatewardenref11_Small.calls k1 a0_0 a0_1 A0_2 c0_2 l0_2 a0_3 a0_4 A0_5 c0_5 l0_5 5 false W (Kd.C_below HE2.out (below_step HA.out H0.out)) H2.out (Kd.C_below HE5.out (below_step HA.out H0.out)) H5.out HB1.out).mono ?_
    rintro e w1 ⟨rfl, hb⟩
    have H1 := Aside0.mk (below_step H0.out hb)
    clear hb
    go_wp2_with fail
    refine (awake15 _).mono ?_
    rintro e w9 ⟨rfl, hb⟩
    have HZ := Aside0.mk (below_step (below_step HA.out H1.out) hb)
    clear hb
    go_wp2_with fail
    rw [HT.out]
    exact ⟨rfl, HZ.out⟩

  | true =>
  go_wp2_with fail
  refine (gatewardenref11_Small.calls k1 a0_0 a0_1 A0_2 c0_2 l0_2 a0_3 a0_4 A0_5 c0_5 l0_5 5 true W (Kd.C_below HE2.out (below_step HA.out H0.out)) H2.out (Kd.C_below HE5.out (below_step HA.out H0.out)) H5.out HB1.out).mono ?_
  rintro e w1 ⟨rfl, hb⟩
  have H1 := Aside0.mk (below_step H0.out hb)
  clear hb
  clear e0 f0 e1 f1 e2 f2 e3 f3 e4 f4 e5 f5
  have e0 : w1.cell? ⟨w.heap.size, 0, none⟩ = some (.int .i64 a0_0) := blk_cell (blk_below G0.out H1.out) 0
  have e1 : w1.cell? ⟨w.heap.size, 1, none⟩ = some (.int .i64 a0_1) := blk_cell (blk_below G0.out H1.out) 1
  have e2 : w1.cell? ⟨w.heap.size, 2, none⟩ = some (.slice A0_2 l0_2.length c0_2) := blk_cell (blk_below G0.out H1.out) 2
  have e3 : w1.cell? ⟨w.heap.size, 3, none⟩ = some (.float .f64 a0_3) := blk_cell (blk_below G0.out H1.out) 3
  have e4 : w1.cell? ⟨w.heap.size, 4, none⟩ = some (.float .f64 a0_4) := blk_cell (blk_below G0.out H1.out) 4
  have e5 : w1.cell? ⟨w.heap.size, 5, none⟩ = some (.slice A0_5 l0_5.length c0_5) := blk_cell (blk_below G0.out H1.out) 5
  have f0 : w1.cell? ⟨w.heap.size + 1, 0, none⟩ = some (.int .i64 a1_0) := blk_cell (blk_below G1.out H1.out) 0
  have f1 : w1.cell? ⟨w.heap.size + 1, 1, none⟩ = some (.int .i64 a1_1) := blk_cell (blk_below G1.out H1.out) 1
  have f2 : w1.cell? ⟨w.heap.size + 1, 2, none⟩ = some (.int .i64 a1_2) := blk_cell (blk_below G1.out H1.out) 2
  have f3 : w1.cell? ⟨w.heap.size + 1, 3, none⟩ = some (.slice A1_3 l1_3.length c1_3) := blk_cell (blk_below G1.out H1.out) 3
  have f4 : w1.cell? ⟨w.heap.size + 1, 4, none⟩ = some (.slice A1_4 l1_4.length c1_4) := blk_cell (blk_below G1.out H1.out) 4
  have f5 : w1.cell? ⟨w.heap.size + 1, 5, none⟩ = some (.slice A1_5 l1_5.length c1_5) := blk_cell (blk_below G1.out H1.out) 5
  have SM := Aside0.mk (Q1.out (by trivial))
  obtain ⟨k2, b2, hb2, q2⟩ := right_told ⟨a0_0, a0_1, l0_2, a0_3, a0_4, l0_5⟩ HGE.out SM.out
  have HB2 := Aside0.mk hb2
  have Q2 := Aside0.mk q2
  clear hb2 q2 Q1 HB1
  cases b2 with
  | false =>
    go_wp2_with fail
    refine (gatewardenref11_Right.calls k2 a0_0 a0_1 A0_2 c0_2 l0_2 a0_3 a0_4 A0_5 c0_5 l0_5 false w1 (Kd.C_below HE2.out (below_step HA.out H1.out)) H2.out (Kd.C_below HE5.out (below_step HA.out H1.out)) H5.out HB2.out).mono ?_
    rintro e w2 ⟨rfl, hb⟩
    have H2w := Aside0.mk (below_step H1.out hb)
    clear hb
    go_wp2_with fail
    refine (awake15 _).mono ?_
    rintro e w9 ⟨rfl, hb⟩
    have HZ := Aside0.mk (below_step (below_step HA.out H2w.out) hb)
    clear hb
    go_wp2_with fail
    rw [HT.out]
    exact ⟨rfl, HZ.out⟩

  | true =>
  go_wp2_with fail
  refine (gatewardenref11_Right.calls k2 a0_0 a0_1 A0_2 c0_2 l0_2 a0_3 a0_4 A0_5 c0_5 l0_5 true w1 (Kd.C_below HE2.out (below_step HA.out H1.out)) H2.out (Kd.C_below HE5.out (below_step HA.out H1.out)) H5.out HB2.out).mono ?_
  rintro e w2 ⟨rfl, hb⟩
  have H2w := Aside0.mk (below_step H1.out hb)
  clear hb
  clear e0 f0 e1 f1 e2 f2 e3 f3 e4 f4 e5 f5
  have e0 : w2.cell? ⟨w.heap.size, 0, none⟩ = some (.int .i64 a0_0) := blk_cell (blk_below G0.out H2w.out) 0
  have e1 : w2.cell? ⟨w.heap.size, 1, none⟩ = some (.int .i64 a0_1) := blk_cell (blk_below G0.out H2w.out) 1
  have e2 : w2.cell? ⟨w.heap.size, 2, none⟩ = some (.slice A0_2 l0_2.length c0_2) := blk_cell (blk_below G0.out H2w.out) 2
  have e3 : w2.cell? ⟨w.heap.size, 3, none⟩ = some (.float .f64 a0_3) := blk_cell (blk_below G0.out H2w.out) 3
  have e4 : w2.cell? ⟨w.heap.size, 4, none⟩ = some (.float .f64 a0_4) := blk_cell (blk_below G0.out H2w.out) 4
  have e5 : w2.cell? ⟨w.heap.size, 5, none⟩ = some (.slice A0_5 l0_5.length c0_5) := blk_cell (blk_below G0.out H2w.out) 5
  have f0 : w2.cell? ⟨w.heap.size + 1, 0, none⟩ = some (.int .i64 a1_0) := blk_cell (blk_below G1.out H2w.out) 0
  have f1 : w2.cell? ⟨w.heap.size + 1, 1, none⟩ = some (.int .i64 a1_1) := blk_cell (blk_below G1.out H2w.out) 1
  have f2 : w2.cell? ⟨w.heap.size + 1, 2, none⟩ = some (.int .i64 a1_2) := blk_cell (blk_below G1.out H2w.out) 2
  have f3 : w2.cell? ⟨w.heap.size + 1, 3, none⟩ = some (.slice A1_3 l1_3.length c1_3) := blk_cell (blk_below G1.out H2w.out) 3
  have f4 : w2.cell? ⟨w.heap.size + 1, 4, none⟩ = some (.slice A1_4 l1_4.length c1_4) := blk_cell (blk_below G1.out H2w.out) 4
  have f5 : w2.cell? ⟨w.heap.size + 1, 5, none⟩ = some (.slice A1_5 l1_5.length c1_5) := blk_cell (blk_below G1.out H2w.out) 5
  have RT := Aside0.mk (Q2.out (by trivial))
  obtain ⟨k3, b3, hb3, q3⟩ := Few_told l0 6 (by decide)
  have HB3 := Aside0.mk hb3
  have Q3 := Aside0.mk q3
  clear hb3 q3 Q2 HB2
  cases b3 with
  | false =>
    go_wp2_with fail
    refine (gatewardenref11_Few.calls k3 A0 c0 l0 6 false w2 (Kd.C_below HL.out (below_step HA.out H2w.out)) HC0.out HB3.out).mono ?_
    rintro e w3 ⟨rfl, hb⟩
    have H3w := Aside0.mk (below_step H2w.out hb)
    clear hb
    go_wp2_with fail
    refine (awake15 _).mono ?_
    rintro e w9 ⟨rfl, hb⟩
    have HZ := Aside0.mk (below_step (below_step HA.out H3w.out) hb)
    clear hb
    go_wp2_with fail
    rw [HT.out]
    exact ⟨rfl, HZ.out⟩

  | true =>
  go_wp2_with fail
  refine (gatewardenref11_Few.calls k3 A0 c0 l0 6 true w2 (Kd.C_below HL.out (below_step HA.out H2w.out)) HC0.out HB3.out).mono ?_
  rintro e w3 ⟨rfl, hb⟩
  have H3w := Aside0.mk (below_step H2w.out hb)
  clear hb
  clear e0 f0 e1 f1 e2 f2 e3 f3 e4 f4 e5 f5
  have e0 : w3.cell? ⟨w.heap.size, 0, none⟩ = some (.int .i64 a0_0) := blk_cell (blk_below G0.out H3w.out) 0
  have e1 : w3.cell? ⟨w.heap.size, 1, none⟩ = some (.int .i64 a0_1) := blk_cell (blk_below G0.out H3w.out) 1
  have e2 : w3.cell? ⟨w.heap.size, 2, none⟩ = some (.slice A0_2 l0_2.length c0_2) := blk_cell (blk_below G0.out H3w.out) 2
  have e3 : w3.cell? ⟨w.heap.size, 3, none⟩ = some (.float .f64 a0_3) := blk_cell (blk_below G0.out H3w.out) 3
  have e4 : w3.cell? ⟨w.heap.size, 4, none⟩ = some (.float .f64 a0_4) := blk_cell (blk_below G0.out H3w.out) 4
  have e5 : w3.cell? ⟨w.heap.size, 5, none⟩ = some (.slice A0_5 l0_5.length c0_5) := blk_cell (blk_below G0.out H3w.out) 5
  have f0 : w3.cell? ⟨w.heap.size + 1, 0, none⟩ = some (.int .i64 a1_0) := blk_cell (blk_below G1.out H3w.out) 0
  have f1 : w3.cell? ⟨w.heap.size + 1, 1, none⟩ = some (.int .i64 a1_1) := blk_cell (blk_below G1.out H3w.out) 1
  have f2 : w3.cell? ⟨w.heap.size + 1, 2, none⟩ = some (.int .i64 a1_2) := blk_cell (blk_below G1.out H3w.out) 2
  have f3 : w3.cell? ⟨w.heap.size + 1, 3, none⟩ = some (.slice A1_3 l1_3.length c1_3) := blk_cell (blk_below G1.out H3w.out) 3
  have f4 : w3.cell? ⟨w.heap.size + 1, 4, none⟩ = some (.slice A1_4 l1_4.length c1_4) := blk_cell (blk_below G1.out H3w.out) 4
  have f5 : w3.cell? ⟨w.heap.size + 1, 5, none⟩ = some (.slice A1_5 l1_5.length c1_5) := blk_cell (blk_below G1.out H3w.out) 5
  have FW := Aside0.mk (Q3.out (by trivial))
  obtain ⟨b4, hb4, q4⟩ := few_eq a1_0 a1_1 a1_2 l1_3 l1_4 l1_5
  have HB4 := Aside0.mk hb4
  have Q4 := Aside0.mk q4
  clear hb4 q4 Q3 HB3
  cases b4 with
  | false =>
    go_wp2_with fail
    refine (gatewardenlaw15_few.calls a1_0 a1_1 a1_2 A1_3 c1_3 l1_3 A1_4 c1_4 l1_4 A1_5 c1_5 l1_5 false w3 (HF.out.on (below_step HA.out H3w.out)).r3 HF.out.h3 (HF.out.on (below_step HA.out H3w.out)).r4 HF.out.h4 (HF.out.on (below_step HA.out H3w.out)).r5 HF.out.h5 HB4.out).mono ?_
    rintro e w4 ⟨rfl, hb⟩
    have H4w := Aside0.mk (below_step H3w.out hb)
    clear hb
    go_wp2_with fail
    refine (awake15 _).mono ?_
    rintro e w9 ⟨rfl, hb⟩
    have HZ := Aside0.mk (below_step (below_step HA.out H4w.out) hb)
    clear hb
    go_wp2_with fail
    rw [HT.out]
    exact ⟨rfl, HZ.out⟩

  | true =>
  go_wp2_with fail
  refine (gatewardenlaw15_few.calls a1_0 a1_1 a1_2 A1_3 c1_3 l1_3 A1_4 c1_4 l1_4 A1_5 c1_5 l1_5 true w3 (HF.out.on (below_step HA.out H3w.out)).r3 HF.out.h3 (HF.out.on (below_step HA.out H3w.out)).r4 HF.out.h4 (HF.out.on (below_step HA.out H3w.out)).r5 HF.out.h5 HB4.out).mono ?_
  rintro e w4 ⟨rfl, hb⟩
  have H4w := Aside0.mk (below_step H3w.out hb)
  clear hb
  clear e0 f0 e1 f1 e2 f2 e3 f3 e4 f4 e5 f5
  have FF := Aside0.mk (Q4.out (by trivial))
  clear Q4 HB4
  go_wp2_with fail
  go_loopg [7] l0.length (fun gg s7 wr => ∃ (kk : Nat), kk ≤ l0.length ∧ l0.length - kk ≤ gg ∧ s7 = .int .i64 (kk : Int) ∧ Aside0 (∀ j (h : j < l0.length), j < kk → Rgt (l0[j]).f1) ∧ Aside0 (Below w4.heap.size w4 wr))
  case atStart => exact ⟨0, Nat.zero_le _, by omega, rfl, ⟨fun j h hj => absurd hj (Nat.not_lt_zero _)⟩, ⟨Below.refl _ _⟩⟩
  case round =>
    obtain ⟨kk, hkk, hgg, rfl, HR, HBr⟩ := hrel
    have hl6 := FW.out.1
    by_cases hlt : kk < l0.length
    · have hltz : (kk : Int) < (l0.length : Int) := by omega
      obtain ⟨ad, A3, c3, A6, c6, hA, q0, q1, q2, q3, q4, q5, q6, q7, q8, q9, q10, l3, g3, l6, g6⟩ := at_T39 (Kd.C_below HL.out (below_step (below_step HA.out H4w.out) HBr.out)) (kk : Int) (by omega) hltz
      subst hA
      rw [Int.toNat_natCast] at q0 q1 q2 q3 q4 q5 q6 q7 q8 q9 q10
      rw [rdU l0 kk hlt] at q0 q1 q2 q3 q4 q5 q6 q7 q8 q9 q10 l3 g3 l6 g6
      obtain ⟨k5, b5, hb5, hq5⟩ := right_told (l0[kk]).f1 (HGL.out _ (List.getElem_mem hlt)).1 (FW.out.2 _ (List.getElem_mem hlt))
      obtain ⟨y, hy⟩ : ∃ y, y = l0[kk] := ⟨_, rfl⟩
      rw [← hy] at q0 q1 q2 q3 q4 q5 q6 q7 q8 q9 q10 l3 g3 l6 g6 hb5 hq5
      have HC := Aside0.mk (gatewardenref11_Right.calls k5 _ _ A3 c3 _ _ _ A6 c6 _ b5 wr g3 l3 g6 l6 hb5)
      have HQ := Aside0.mk hq5
      have HY := Aside0.mk hy
      clear g3 g6 hb5 hq5 hy l3 l6
      go_wp2_with fail
      refine HC.out.mono ?_
      rintro e w5 ⟨rfl, hb⟩
      have HB5 := Aside0.mk (below_step HBr.out hb)
      clear hb HC
      cases b5 with
      | false =>
        go_wp2_with fail
        refine (awake15 _).mono ?_
        rintro e w9 ⟨rfl, hb⟩
        have HZ := Aside0.mk (below_step (below_step (below_step HA.out H4w.out) HB5.out) hb)
        clear hb
        go_wp2_with fail
        rw [HT.out]
        exact ⟨rfl, HZ.out⟩
      | true =>
        go_wp2_with fail
        go_roundg (l0.length - (kk + 1))
        case measure => omega
        case rel =>
          refine ⟨kk + 1, by omega, by omega, by go_num, ⟨fun j h hj => ?_⟩, HB5⟩
          by_cases e : j = kk
          · subst e; rw [← HY.out]; exact HQ.out (by trivial)
          · exact HR.out j h (by omega)
    · have hkl : kk = l0.length := by omega
      subst hkl
      have hltz : ¬ ((l0.length : Int) < (l0.length : Int)) := by omega
      have RA := Aside0.mk (show ∀ r ∈ l0, Rgt r.f1 from fun r hr => by
        obtain ⟨j, hj, rfl⟩ := List.getElem_of_mem hr
        exact HR.out j hj hj)
      obtain ⟨be, K, hK⟩ := told_right (c := a1_0) (u := a1_1) (f := a1_2) FF.out ⟨a0_0, a0_1, l0_2, a0_3, a0_4, l0_5⟩ SM.out RT.out
      obtain ⟨K1, hi1, K2, hi2⟩ := first_told (c := a1_0) (u := a1_1) (f := a1_2) (sp := l1_3) (vs := l1_4) (rs := l1_5) (l := l0) (v := fun r => val a1_0 a1_1 a1_2 l1_3 l1_4 l1_5 r.f1) (by omega) (fun r hr => val_told (told_right FF.out r.f1 (FW.out.2 r hr) (RA.out r hr)))
      obtain ⟨ri, hri⟩ : ∃ ri, ri = idxR (fun r : S39 => val a1_0 a1_1 a1_2 l1_3 l1_4 l1_5 r.f1) l0 0 := ⟨_, rfl⟩
      rw [← hri] at hi1 hi2
      clear hri
      have HK := Aside0.mk hK
      have HI1 := Aside0.mk hi1
      have HI2 := Aside0.mk hi2
      have HQ := Aside0.mk (below_step H4w.out HBr.out)
      clear hK hi1 hi2 HBr HR
      have e0 : wr.cell? ⟨w.heap.size, 0, none⟩ = some (.int .i64 a0_0) := blk_cell (blk_below G0.out HQ.out) 0
      have e1 : wr.cell? ⟨w.heap.size, 1, none⟩ = some (.int .i64 a0_1) := blk_cell (blk_below G0.out HQ.out) 1
      have e2 : wr.cell? ⟨w.heap.size, 2, none⟩ = some (.slice A0_2 l0_2.length c0_2) := blk_cell (blk_below G0.out HQ.out) 2
      have e3 : wr.cell? ⟨w.heap.size, 3, none⟩ = some (.float .f64 a0_3) := blk_cell (blk_below G0.out HQ.out) 3
      have e4 : wr.cell? ⟨w.heap.size, 4, none⟩ = some (.float .f64 a0_4) := blk_cell (blk_below G0.out HQ.out) 4
      have e5 : wr.cell? ⟨w.heap.size, 5, none⟩ = some (.slice A0_5 l0_5.length c0_5) := blk_cell (blk_below G0.out HQ.out) 5
      have f0 : wr.cell? ⟨w.heap.size + 1, 0, none⟩ = some (.int .i64 a1_0) := blk_cell (blk_below G1.out HQ.out) 0
      have f1 : wr.cell? ⟨w.heap.size + 1, 1, none⟩ = some (.int .i64 a1_1) := blk_cell (blk_below G1.out HQ.out) 1
      have f2 : wr.cell? ⟨w.heap.size + 1, 2, none⟩ = some (.int .i64 a1_2) := blk_cell (blk_below G1.out HQ.out) 2
      have f3 : wr.cell? ⟨w.heap.size + 1, 3, none⟩ = some (.slice A1_3 l1_3.length c1_3) := blk_cell (blk_below G1.out HQ.out) 3
      have f4 : wr.cell? ⟨w.heap.size + 1, 4, none⟩ = some (.slice A1_4 l1_4.length c1_4) := blk_cell (blk_below G1.out HQ.out) 4
      have f5 : wr.cell? ⟨w.heap.size + 1, 5, none⟩ = some (.slice A1_5 l1_5.length c1_5) := blk_cell (blk_below G1.out HQ.out) 5
      have t0 := blk_lt (blk_below G0.out HQ.out)
      have t1 := blk_lt (blk_below G1.out HQ.out)
      have hri : (ri == ri) = true := beq_self_eq_true ri
      have hrj : decide (ri = ri) = true := decide_eq_true rfl
      have C2V := Aside0.mk (fun V (h : Below wr.heap.size wr V) => below_step (below_step HA.out HQ.out) h)
      cases be with
      | false =>
        go_upto_region 8 with (fail)
        refine reg_start [0, 1, 2, 3, 5, 6, 4, 7, 8, 9, 10, 11, 12, 14, 15, 13, 16, 17, 18, 19] 20 (fun w' => Below wr.heap.size wr w') (by kernel_rfl) rfl (below_drew1 (Below.refl _ _)) (fun hHeld => ?_)
        generalize wr.drew = V1 at hHeld ⊢
        repeat (first | (refine reg_pure (v := ?_) (a' := ?_) rfl rfl rfl (by kernel_rfl) (fun _ _ _ h => h) (by rfl) ?_ ?_ ?_; rotate_left; (solve | (intro w'; go_simp; with_reducible rfl)); rotate_left; (solve | (simp only [Act.put, List.setIfInBounds_toArray, List.set_cons_zero, List.set_cons_succ, i64_w, i32_w]; rfl))) | (refine reg_skip (a' := ?_) rfl rfl rfl (by rfl) (by kernel_rfl) (fun _ _ _ h => h) ?_ ?_; rotate_left; (solve | (simp only [Act.put, List.setIfInBounds_toArray, List.set_cons_zero, List.set_cons_succ, i64_w, i32_w]; rfl))) | (refine reg_load (v := ?_) (a' := ?_) rfl rfl rfl (by kernel_rfl) (fun _ _ _ h => h) (by rfl) ?_ hHeld ?_ ?_; rotate_left; (solve | (intro w' hb'; obtain ⟨hc', hf'⟩ := bcellA hb'; clear hb'; go_simp; with_reducible rfl)); rotate_left; (solve | (simp only [Act.put, List.setIfInBounds_toArray, List.set_cons_zero, List.set_cons_succ, i64_w, i32_w]; rfl)); intro hHeld))
        refine reg_call rfl rfl rfl (by kernel_rfl) (by rfl) Try.func13 (by kernel_rfl) rfl #[] rfl (by (try simp only [List.map_toArray, List.map_cons, List.map_nil]); first | done | rfl) ?_
        refine (awake15 _).mono ?_
        rintro e w5 ⟨rfl, hb⟩
        refine ⟨_, rfl, below_step hHeld hb, fun hHeld => ?_⟩
        clear hb
        rintro a' ha'
        simp only [Act.put, List.setIfInBounds_toArray, List.set_cons_zero, List.set_cons_succ, i64_w, i32_w] at ha'
        subst ha'
        repeat (first | (refine reg_pure (v := ?_) (a' := ?_) rfl rfl rfl (by kernel_rfl) (fun _ _ _ h => h) (by rfl) ?_ ?_ ?_; rotate_left; (solve | (intro w'; go_simp; with_reducible rfl)); rotate_left; (solve | (simp only [Act.put, List.setIfInBounds_toArray, List.set_cons_zero, List.set_cons_succ, i64_w, i32_w]; rfl))) | (refine reg_skip (a' := ?_) rfl rfl rfl (by rfl) (by kernel_rfl) (fun _ _ _ h => h) ?_ ?_; rotate_left; (solve | (simp only [Act.put, List.setIfInBounds_toArray, List.set_cons_zero, List.set_cons_succ, i64_w, i32_w]; rfl))) | (refine reg_load (v := ?_) (a' := ?_) rfl rfl rfl (by kernel_rfl) (fun _ _ _ h => h) (by rfl) ?_ hHeld ?_ ?_; rotate_left; (solve | (intro w' hb'; obtain ⟨hc', hf'⟩ := bcellA hb'; clear hb'; go_simp; with_reducible rfl)); rotate_left; (solve | (simp only [Act.put, List.setIfInBounds_toArray, List.set_cons_zero, List.set_cons_succ, i64_w, i32_w]; rfl)); intro hHeld))
        refine reg_call rfl rfl rfl (by kernel_rfl) (by rfl) Try.func14 (by kernel_rfl) rfl #[.agg #[.int .i64 a0_0, .int .i64 a0_1, .slice A0_2 l0_2.length c0_2, .float .f64 a0_3, .float .f64 a0_4, .slice A0_5 l0_5.length c0_5], .agg #[.int .i64 a1_0, .int .i64 a1_1, .int .i64 a1_2, .slice A1_3 l1_3.length c1_3, .slice A1_4 l1_4.length c1_4, .slice A1_5 l1_5.length c1_5]] rfl (by (try simp only [List.map_toArray, List.map_cons, List.map_nil]); first | done | rfl) ?_
        refine (holds_at K a0_0 a0_1 A0_2 c0_2 l0_2 a0_3 a0_4 A0_5 c0_5 l0_5 a1_0 a1_1 a1_2 A1_3 c1_3 l1_3 A1_4 c1_4 l1_4 A1_5 c1_5 l1_5 false _ (Kd.C_below HE2.out (C2V.out _ hHeld)) H2.out (Kd.C_below HE5.out (C2V.out _ hHeld)) H5.out (HF.out.on (C2V.out _ hHeld)) HK.out).mono ?_
        rintro e w5 ⟨rfl, hb⟩
        refine ⟨_, rfl, below_step hHeld hb, fun hHeld => ?_⟩
        clear hb
        rintro a' ha'
        simp only [Act.put, List.setIfInBounds_toArray, List.set_cons_zero, List.set_cons_succ, i64_w, i32_w] at ha'
        subst ha'
        repeat (first | (refine reg_pure (v := ?_) (a' := ?_) rfl rfl rfl (by kernel_rfl) (fun _ _ _ h => h) (by rfl) ?_ ?_ ?_; rotate_left; (solve | (intro w'; go_simp; with_reducible rfl)); rotate_left; (solve | (simp only [Act.put, List.setIfInBounds_toArray, List.set_cons_zero, List.set_cons_succ, i64_w, i32_w]; rfl))) | (refine reg_skip (a' := ?_) rfl rfl rfl (by rfl) (by kernel_rfl) (fun _ _ _ h => h) ?_ ?_; rotate_left; (solve | (simp only [Act.put, List.setIfInBounds_toArray, List.set_cons_zero, List.set_cons_succ, i64_w, i32_w]; rfl))) | (refine reg_load (v := ?_) (a' := ?_) rfl rfl rfl (by kernel_rfl) (fun _ _ _ h => h) (by rfl) ?_ hHeld ?_ ?_; rotate_left; (solve | (intro w' hb'; obtain ⟨hc', hf'⟩ := bcellA hb'; clear hb'; go_simp; with_reducible rfl)); rotate_left; (solve | (simp only [Act.put, List.setIfInBounds_toArray, List.set_cons_zero, List.set_cons_succ, i64_w, i32_w]; rfl)); intro hHeld))
        refine reg_call rfl rfl rfl (by kernel_rfl) (by rfl) Try.func15 (by kernel_rfl) rfl #[.agg #[.int .i64 a0_0, .int .i64 a0_1, .slice A0_2 l0_2.length c0_2, .float .f64 a0_3, .float .f64 a0_4, .slice A0_5 l0_5.length c0_5], .agg #[.int .i64 a1_0, .int .i64 a1_1, .int .i64 a1_2, .slice A1_3 l1_3.length c1_3, .slice A1_4 l1_4.length c1_4, .slice A1_5 l1_5.length c1_5]] rfl (by (try simp only [List.map_toArray, List.map_cons, List.map_nil]); first | done | rfl) ?_
        refine (gatewardenref15_Holds.calls K a0_0 a0_1 A0_2 c0_2 l0_2 a0_3 a0_4 A0_5 c0_5 l0_5 a1_0 a1_1 a1_2 A1_3 c1_3 l1_3 A1_4 c1_4 l1_4 A1_5 c1_5 l1_5 false _ (Kd.C_below HE2.out (C2V.out _ hHeld)) H2.out (Kd.C_below HE5.out (C2V.out _ hHeld)) H5.out (HF.out.on (C2V.out _ hHeld)).r3 HF.out.h3 (HF.out.on (C2V.out _ hHeld)).r4 HF.out.h4 (HF.out.on (C2V.out _ hHeld)).r5 HF.out.h5 HK.out).mono ?_
        rintro e w5 ⟨rfl, hb⟩
        refine ⟨_, rfl, below_step hHeld hb, fun hHeld => ?_⟩
        clear hb
        rintro a' ha'
        simp only [Act.put, List.setIfInBounds_toArray, List.set_cons_zero, List.set_cons_succ, i64_w, i32_w] at ha'
        subst ha'
        repeat (first | (refine reg_pure (v := ?_) (a' := ?_) rfl rfl rfl (by kernel_rfl) (fun _ _ _ h => h) (by rfl) ?_ ?_ ?_; rotate_left; (solve | (intro w'; go_simp; with_reducible rfl)); rotate_left; (solve | (simp only [Act.put, List.setIfInBounds_toArray, List.set_cons_zero, List.set_cons_succ, i64_w, i32_w]; rfl))) | (refine reg_skip (a' := ?_) rfl rfl rfl (by rfl) (by kernel_rfl) (fun _ _ _ h => h) ?_ ?_; rotate_left; (solve | (simp only [Act.put, List.setIfInBounds_toArray, List.set_cons_zero, List.set_cons_succ, i64_w, i32_w]; rfl))) | (refine reg_load (v := ?_) (a' := ?_) rfl rfl rfl (by kernel_rfl) (fun _ _ _ h => h) (by rfl) ?_ hHeld ?_ ?_; rotate_left; (solve | (intro w' hb'; obtain ⟨hc', hf'⟩ := bcellA hb'; clear hb'; go_simp; with_reducible rfl)); rotate_left; (solve | (simp only [Act.put, List.setIfInBounds_toArray, List.set_cons_zero, List.set_cons_succ, i64_w, i32_w]; rfl)); intro hHeld))
        refine reg_call rfl rfl rfl (by kernel_rfl) (by rfl) Try.func16 (by kernel_rfl) rfl #[.slice A0 l0.length c0, .agg #[.int .i64 a1_0, .int .i64 a1_1, .int .i64 a1_2, .slice A1_3 l1_3.length c1_3, .slice A1_4 l1_4.length c1_4, .slice A1_5 l1_5.length c1_5]] rfl (by (try simp only [List.map_toArray, List.map_cons, List.map_nil]); first | done | rfl) ?_
        refine (first_calls K1 A0 c0 l0 a1_0 a1_1 a1_2 A1_3 c1_3 l1_3 A1_4 c1_4 l1_4 A1_5 c1_5 l1_5 ri _ (Kd.C_below HL.out (C2V.out _ hHeld)) (by omega) (HF.out.on (C2V.out _ hHeld)) HI1.out).mono ?_
        rintro e w5 ⟨rfl, hb⟩
        refine ⟨_, rfl, below_step hHeld hb, fun hHeld => ?_⟩
        clear hb
        rintro a' ha'
        simp only [Act.put, List.setIfInBounds_toArray, List.set_cons_zero, List.set_cons_succ, i64_w, i32_w] at ha'
        subst ha'
        repeat (first | (refine reg_pure (v := ?_) (a' := ?_) rfl rfl rfl (by kernel_rfl) (fun _ _ _ h => h) (by rfl) ?_ ?_ ?_; rotate_left; (solve | (intro w'; go_simp; with_reducible rfl)); rotate_left; (solve | (simp only [Act.put, List.setIfInBounds_toArray, List.set_cons_zero, List.set_cons_succ, i64_w, i32_w]; rfl))) | (refine reg_skip (a' := ?_) rfl rfl rfl (by rfl) (by kernel_rfl) (fun _ _ _ h => h) ?_ ?_; rotate_left; (solve | (simp only [Act.put, List.setIfInBounds_toArray, List.set_cons_zero, List.set_cons_succ, i64_w, i32_w]; rfl))) | (refine reg_load (v := ?_) (a' := ?_) rfl rfl rfl (by kernel_rfl) (fun _ _ _ h => h) (by rfl) ?_ hHeld ?_ ?_; rotate_left; (solve | (intro w' hb'; obtain ⟨hc', hf'⟩ := bcellA hb'; clear hb'; go_simp; with_reducible rfl)); rotate_left; (solve | (simp only [Act.put, List.setIfInBounds_toArray, List.set_cons_zero, List.set_cons_succ, i64_w, i32_w]; rfl)); intro hHeld))
        refine reg_call rfl rfl rfl (by kernel_rfl) (by rfl) Try.func17 (by kernel_rfl) rfl #[.slice A0 l0.length c0, .agg #[.int .i64 a1_0, .int .i64 a1_1, .int .i64 a1_2, .slice A1_3 l1_3.length c1_3, .slice A1_4 l1_4.length c1_4, .slice A1_5 l1_5.length c1_5]] rfl (by (try simp only [List.map_toArray, List.map_cons, List.map_nil]); first | done | rfl) ?_
        refine (gatewardenref15_First.calls K2 A0 c0 l0 a1_0 a1_1 a1_2 A1_3 c1_3 l1_3 A1_4 c1_4 l1_4 A1_5 c1_5 l1_5 ri _ (Kd.C_below HL.out (C2V.out _ hHeld)) HC0.out (HF.out.on (C2V.out _ hHeld)).r3 HF.out.h3 (HF.out.on (C2V.out _ hHeld)).r4 HF.out.h4 (HF.out.on (C2V.out _ hHeld)).r5 HF.out.h5 HI2.out).mono ?_
        rintro e w5 ⟨rfl, hb⟩
        refine ⟨_, rfl, below_step hHeld hb, fun hHeld => ?_⟩
        clear hb
        rintro a' ha'
        simp only [Act.put, List.setIfInBounds_toArray, List.set_cons_zero, List.set_cons_succ, i64_w, i32_w] at ha'
        subst ha'
        repeat (first | (refine reg_pure (v := ?_) (a' := ?_) rfl rfl rfl (by kernel_rfl) (fun _ _ _ h => h) (by rfl) ?_ ?_ ?_; rotate_left; (solve | (intro w'; go_simp; with_reducible rfl)); rotate_left; (solve | (simp only [Act.put, List.setIfInBounds_toArray, List.set_cons_zero, List.set_cons_succ, i64_w, i32_w]; rfl))) | (refine reg_skip (a' := ?_) rfl rfl rfl (by rfl) (by kernel_rfl) (fun _ _ _ h => h) ?_ ?_; rotate_left; (solve | (simp only [Act.put, List.setIfInBounds_toArray, List.set_cons_zero, List.set_cons_succ, i64_w, i32_w]; rfl))) | (refine reg_load (v := ?_) (a' := ?_) rfl rfl rfl (by kernel_rfl) (fun _ _ _ h => h) (by rfl) ?_ hHeld ?_ ?_; rotate_left; (solve | (intro w' hb'; obtain ⟨hc', hf'⟩ := bcellA hb'; clear hb'; go_simp; with_reducible rfl)); rotate_left; (solve | (simp only [Act.put, List.setIfInBounds_toArray, List.set_cons_zero, List.set_cons_succ, i64_w, i32_w]; rfl)); intro hHeld))
        refine reg_done (by kernel_rfl) ?_
        go_wp2_with fail
        rw [HT.out]
        exact ⟨rfl, C2V.out _ hHeld⟩
      | true =>
        go_upto_region 8 with (fail)
        refine reg_start [0, 1, 2, 3, 5, 6, 4, 7, 8, 9, 10, 11, 12, 14, 15, 13, 16, 17, 18, 19] 20 (fun w' => Below wr.heap.size wr w') (by kernel_rfl) rfl (below_drew1 (Below.refl _ _)) (fun hHeld => ?_)
        generalize wr.drew = V1 at hHeld ⊢
        repeat (first | (refine reg_pure (v := ?_) (a' := ?_) rfl rfl rfl (by kernel_rfl) (fun _ _ _ h => h) (by rfl) ?_ ?_ ?_; rotate_left; (solve | (intro w'; go_simp; with_reducible rfl)); rotate_left; (solve | (simp only [Act.put, List.setIfInBounds_toArray, List.set_cons_zero, List.set_cons_succ, i64_w, i32_w]; rfl))) | (refine reg_skip (a' := ?_) rfl rfl rfl (by rfl) (by kernel_rfl) (fun _ _ _ h => h) ?_ ?_; rotate_left; (solve | (simp only [Act.put, List.setIfInBounds_toArray, List.set_cons_zero, List.set_cons_succ, i64_w, i32_w]; rfl))) | (refine reg_load (v := ?_) (a' := ?_) rfl rfl rfl (by kernel_rfl) (fun _ _ _ h => h) (by rfl) ?_ hHeld ?_ ?_; rotate_left; (solve | (intro w' hb'; obtain ⟨hc', hf'⟩ := bcellA hb'; clear hb'; go_simp; with_reducible rfl)); rotate_left; (solve | (simp only [Act.put, List.setIfInBounds_toArray, List.set_cons_zero, List.set_cons_succ, i64_w, i32_w]; rfl)); intro hHeld))
        refine reg_call rfl rfl rfl (by kernel_rfl) (by rfl) Try.func13 (by kernel_rfl) rfl #[] rfl (by (try simp only [List.map_toArray, List.map_cons, List.map_nil]); first | done | rfl) ?_
        refine (awake15 _).mono ?_
        rintro e w5 ⟨rfl, hb⟩
        refine ⟨_, rfl, below_step hHeld hb, fun hHeld => ?_⟩
        clear hb
        rintro a' ha'
        simp only [Act.put, List.setIfInBounds_toArray, List.set_cons_zero, List.set_cons_succ, i64_w, i32_w] at ha'
        subst ha'
        repeat (first | (refine reg_pure (v := ?_) (a' := ?_) rfl rfl rfl (by kernel_rfl) (fun _ _ _ h => h) (by rfl) ?_ ?_ ?_; rotate_left; (solve | (intro w'; go_simp; with_reducible rfl)); rotate_left; (solve | (simp only [Act.put, List.setIfInBounds_toArray, List.set_cons_zero, List.set_cons_succ, i64_w, i32_w]; rfl))) | (refine reg_skip (a' := ?_) rfl rfl rfl (by rfl) (by kernel_rfl) (fun _ _ _ h => h) ?_ ?_; rotate_left; (solve | (simp only [Act.put, List.setIfInBounds_toArray, List.set_cons_zero, List.set_cons_succ, i64_w, i32_w]; rfl))) | (refine reg_load (v := ?_) (a' := ?_) rfl rfl rfl (by kernel_rfl) (fun _ _ _ h => h) (by rfl) ?_ hHeld ?_ ?_; rotate_left; (solve | (intro w' hb'; obtain ⟨hc', hf'⟩ := bcellA hb'; clear hb'; go_simp; with_reducible rfl)); rotate_left; (solve | (simp only [Act.put, List.setIfInBounds_toArray, List.set_cons_zero, List.set_cons_succ, i64_w, i32_w]; rfl)); intro hHeld))
        refine reg_call rfl rfl rfl (by kernel_rfl) (by rfl) Try.func14 (by kernel_rfl) rfl #[.agg #[.int .i64 a0_0, .int .i64 a0_1, .slice A0_2 l0_2.length c0_2, .float .f64 a0_3, .float .f64 a0_4, .slice A0_5 l0_5.length c0_5], .agg #[.int .i64 a1_0, .int .i64 a1_1, .int .i64 a1_2, .slice A1_3 l1_3.length c1_3, .slice A1_4 l1_4.length c1_4, .slice A1_5 l1_5.length c1_5]] rfl (by (try simp only [List.map_toArray, List.map_cons, List.map_nil]); first | done | rfl) ?_
        refine (holds_at K a0_0 a0_1 A0_2 c0_2 l0_2 a0_3 a0_4 A0_5 c0_5 l0_5 a1_0 a1_1 a1_2 A1_3 c1_3 l1_3 A1_4 c1_4 l1_4 A1_5 c1_5 l1_5 true _ (Kd.C_below HE2.out (C2V.out _ hHeld)) H2.out (Kd.C_below HE5.out (C2V.out _ hHeld)) H5.out (HF.out.on (C2V.out _ hHeld)) HK.out).mono ?_
        rintro e w5 ⟨rfl, hb⟩
        refine ⟨_, rfl, below_step hHeld hb, fun hHeld => ?_⟩
        clear hb
        rintro a' ha'
        simp only [Act.put, List.setIfInBounds_toArray, List.set_cons_zero, List.set_cons_succ, i64_w, i32_w] at ha'
        subst ha'
        repeat (first | (refine reg_pure (v := ?_) (a' := ?_) rfl rfl rfl (by kernel_rfl) (fun _ _ _ h => h) (by rfl) ?_ ?_ ?_; rotate_left; (solve | (intro w'; go_simp; with_reducible rfl)); rotate_left; (solve | (simp only [Act.put, List.setIfInBounds_toArray, List.set_cons_zero, List.set_cons_succ, i64_w, i32_w]; rfl))) | (refine reg_skip (a' := ?_) rfl rfl rfl (by rfl) (by kernel_rfl) (fun _ _ _ h => h) ?_ ?_; rotate_left; (solve | (simp only [Act.put, List.setIfInBounds_toArray, List.set_cons_zero, List.set_cons_succ, i64_w, i32_w]; rfl))) | (refine reg_load (v := ?_) (a' := ?_) rfl rfl rfl (by kernel_rfl) (fun _ _ _ h => h) (by rfl) ?_ hHeld ?_ ?_; rotate_left; (solve | (intro w' hb'; obtain ⟨hc', hf'⟩ := bcellA hb'; clear hb'; go_simp; with_reducible rfl)); rotate_left; (solve | (simp only [Act.put, List.setIfInBounds_toArray, List.set_cons_zero, List.set_cons_succ, i64_w, i32_w]; rfl)); intro hHeld))
        refine reg_call rfl rfl rfl (by kernel_rfl) (by rfl) Try.func15 (by kernel_rfl) rfl #[.agg #[.int .i64 a0_0, .int .i64 a0_1, .slice A0_2 l0_2.length c0_2, .float .f64 a0_3, .float .f64 a0_4, .slice A0_5 l0_5.length c0_5], .agg #[.int .i64 a1_0, .int .i64 a1_1, .int .i64 a1_2, .slice A1_3 l1_3.length c1_3, .slice A1_4 l1_4.length c1_4, .slice A1_5 l1_5.length c1_5]] rfl (by (try simp only [List.map_toArray, List.map_cons, List.map_nil]); first | done | rfl) ?_
        refine (gatewardenref15_Holds.calls K a0_0 a0_1 A0_2 c0_2 l0_2 a0_3 a0_4 A0_5 c0_5 l0_5 a1_0 a1_1 a1_2 A1_3 c1_3 l1_3 A1_4 c1_4 l1_4 A1_5 c1_5 l1_5 true _ (Kd.C_below HE2.out (C2V.out _ hHeld)) H2.out (Kd.C_below HE5.out (C2V.out _ hHeld)) H5.out (HF.out.on (C2V.out _ hHeld)).r3 HF.out.h3 (HF.out.on (C2V.out _ hHeld)).r4 HF.out.h4 (HF.out.on (C2V.out _ hHeld)).r5 HF.out.h5 HK.out).mono ?_
        rintro e w5 ⟨rfl, hb⟩
        refine ⟨_, rfl, below_step hHeld hb, fun hHeld => ?_⟩
        clear hb
        rintro a' ha'
        simp only [Act.put, List.setIfInBounds_toArray, List.set_cons_zero, List.set_cons_succ, i64_w, i32_w] at ha'
        subst ha'
        repeat (first | (refine reg_pure (v := ?_) (a' := ?_) rfl rfl rfl (by kernel_rfl) (fun _ _ _ h => h) (by rfl) ?_ ?_ ?_; rotate_left; (solve | (intro w'; go_simp; with_reducible rfl)); rotate_left; (solve | (simp only [Act.put, List.setIfInBounds_toArray, List.set_cons_zero, List.set_cons_succ, i64_w, i32_w]; rfl))) | (refine reg_skip (a' := ?_) rfl rfl rfl (by rfl) (by kernel_rfl) (fun _ _ _ h => h) ?_ ?_; rotate_left; (solve | (simp only [Act.put, List.setIfInBounds_toArray, List.set_cons_zero, List.set_cons_succ, i64_w, i32_w]; rfl))) | (refine reg_load (v := ?_) (a' := ?_) rfl rfl rfl (by kernel_rfl) (fun _ _ _ h => h) (by rfl) ?_ hHeld ?_ ?_; rotate_left; (solve | (intro w' hb'; obtain ⟨hc', hf'⟩ := bcellA hb'; clear hb'; go_simp; with_reducible rfl)); rotate_left; (solve | (simp only [Act.put, List.setIfInBounds_toArray, List.set_cons_zero, List.set_cons_succ, i64_w, i32_w]; rfl)); intro hHeld))
        refine reg_call rfl rfl rfl (by kernel_rfl) (by rfl) Try.func16 (by kernel_rfl) rfl #[.slice A0 l0.length c0, .agg #[.int .i64 a1_0, .int .i64 a1_1, .int .i64 a1_2, .slice A1_3 l1_3.length c1_3, .slice A1_4 l1_4.length c1_4, .slice A1_5 l1_5.length c1_5]] rfl (by (try simp only [List.map_toArray, List.map_cons, List.map_nil]); first | done | rfl) ?_
        refine (first_calls K1 A0 c0 l0 a1_0 a1_1 a1_2 A1_3 c1_3 l1_3 A1_4 c1_4 l1_4 A1_5 c1_5 l1_5 ri _ (Kd.C_below HL.out (C2V.out _ hHeld)) (by omega) (HF.out.on (C2V.out _ hHeld)) HI1.out).mono ?_
        rintro e w5 ⟨rfl, hb⟩
        refine ⟨_, rfl, below_step hHeld hb, fun hHeld => ?_⟩
        clear hb
        rintro a' ha'
        simp only [Act.put, List.setIfInBounds_toArray, List.set_cons_zero, List.set_cons_succ, i64_w, i32_w] at ha'
        subst ha'
        repeat (first | (refine reg_pure (v := ?_) (a' := ?_) rfl rfl rfl (by kernel_rfl) (fun _ _ _ h => h) (by rfl) ?_ ?_ ?_; rotate_left; (solve | (intro w'; go_simp; with_reducible rfl)); rotate_left; (solve | (simp only [Act.put, List.setIfInBounds_toArray, List.set_cons_zero, List.set_cons_succ, i64_w, i32_w]; rfl))) | (refine reg_skip (a' := ?_) rfl rfl rfl (by rfl) (by kernel_rfl) (fun _ _ _ h => h) ?_ ?_; rotate_left; (solve | (simp only [Act.put, List.setIfInBounds_toArray, List.set_cons_zero, List.set_cons_succ, i64_w, i32_w]; rfl))) | (refine reg_load (v := ?_) (a' := ?_) rfl rfl rfl (by kernel_rfl) (fun _ _ _ h => h) (by rfl) ?_ hHeld ?_ ?_; rotate_left; (solve | (intro w' hb'; obtain ⟨hc', hf'⟩ := bcellA hb'; clear hb'; go_simp; with_reducible rfl)); rotate_left; (solve | (simp only [Act.put, List.setIfInBounds_toArray, List.set_cons_zero, List.set_cons_succ, i64_w, i32_w]; rfl)); intro hHeld))
        refine reg_call rfl rfl rfl (by kernel_rfl) (by rfl) Try.func17 (by kernel_rfl) rfl #[.slice A0 l0.length c0, .agg #[.int .i64 a1_0, .int .i64 a1_1, .int .i64 a1_2, .slice A1_3 l1_3.length c1_3, .slice A1_4 l1_4.length c1_4, .slice A1_5 l1_5.length c1_5]] rfl (by (try simp only [List.map_toArray, List.map_cons, List.map_nil]); first | done | rfl) ?_
        refine (gatewardenref15_First.calls K2 A0 c0 l0 a1_0 a1_1 a1_2 A1_3 c1_3 l1_3 A1_4 c1_4 l1_4 A1_5 c1_5 l1_5 ri _ (Kd.C_below HL.out (C2V.out _ hHeld)) HC0.out (HF.out.on (C2V.out _ hHeld)).r3 HF.out.h3 (HF.out.on (C2V.out _ hHeld)).r4 HF.out.h4 (HF.out.on (C2V.out _ hHeld)).r5 HF.out.h5 HI2.out).mono ?_
        rintro e w5 ⟨rfl, hb⟩
        refine ⟨_, rfl, below_step hHeld hb, fun hHeld => ?_⟩
        clear hb
        rintro a' ha'
        simp only [Act.put, List.setIfInBounds_toArray, List.set_cons_zero, List.set_cons_succ, i64_w, i32_w] at ha'
        subst ha'
        repeat (first | (refine reg_pure (v := ?_) (a' := ?_) rfl rfl rfl (by kernel_rfl) (fun _ _ _ h => h) (by rfl) ?_ ?_ ?_; rotate_left; (solve | (intro w'; go_simp; with_reducible rfl)); rotate_left; (solve | (simp only [Act.put, List.setIfInBounds_toArray, List.set_cons_zero, List.set_cons_succ, i64_w, i32_w]; rfl))) | (refine reg_skip (a' := ?_) rfl rfl rfl (by rfl) (by kernel_rfl) (fun _ _ _ h => h) ?_ ?_; rotate_left; (solve | (simp only [Act.put, List.setIfInBounds_toArray, List.set_cons_zero, List.set_cons_succ, i64_w, i32_w]; rfl))) | (refine reg_load (v := ?_) (a' := ?_) rfl rfl rfl (by kernel_rfl) (fun _ _ _ h => h) (by rfl) ?_ hHeld ?_ ?_; rotate_left; (solve | (intro w' hb'; obtain ⟨hc', hf'⟩ := bcellA hb'; clear hb'; go_simp; with_reducible rfl)); rotate_left; (solve | (simp only [Act.put, List.setIfInBounds_toArray, List.set_cons_zero, List.set_cons_succ, i64_w, i32_w]; rfl)); intro hHeld))
        refine reg_done (by kernel_rfl) ?_
        go_wp2_with fail
        rw [HT.out]
        exact ⟨rfl, C2V.out _ hHeld⟩
end Go.Proofs.Ytppmcbkcohiodaa.PMeanTells
