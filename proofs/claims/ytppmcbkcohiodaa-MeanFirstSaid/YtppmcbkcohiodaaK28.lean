/- Texts of this claim, put together (wip/pack.py): MeanFirstLaw. -/
import Derived.Test.YtppmcbkcohiodaaK26
import Derived.Test.YtppmcbkcohiodaaK2
import Derived.Test.YtppmcbkcohiodaaK27
import Derived.Test.YtppmcbkcohiodaaK7
namespace Go.Proofs.Ytppmcbkcohiodaa.PMeanTells
open Go Go.RowKit Go.Proofs.Ytppmcbkcohiodaa.Base Go.Proofs.YtppmcbkcohiodaaW.PrintWords Go.Proofs.YtppmcbkcohiodaaW.PrintLast Go.Proofs.YtppmcbkcohiodaaW.PrintMore
set_option maxHeartbeats 4000000
set_option maxRecDepth 100000
set_option linter.unusedVariables false
set_option linter.unusedSimpArgs false
theorem infoU : (Try.prog.info? 39).map (fun i => (i.zero, i.size, i.bytes)) = some (some (.agg #[.bool false, .int .i64 0, .int .i64 0, .slice none 0 0, .float .f64 0, .float .f64 0, .slice none 0 0, .int .i64 0, .int .i64 0, .int .i64 0, .int .i64 0]), 11, 120) := by kernel_rfl
theorem idxU_spec {α : Type} (p : α → Bool) : ∀ (l : List α) (i : Nat), (idxR p l i = -1 ∧ ∀ x ∈ l, p x = false) ∨ ∃ j : Nat, idxR p l i = ((i + j : Nat) : Int) ∧ ∃ h : j < l.length, p l[j] = true ∧ ∀ q (hq : q < l.length), q < j → p l[q] = false
  | [], i => .inl ⟨rfl, fun x hx => by cases hx⟩
  | x :: t, i => by
    rw [idxR]
    cases hp : p x with
    | true => exact .inr ⟨0, by rw [if_pos rfl]; rfl, Nat.zero_lt_succ _, hp, fun q hq h => absurd h (Nat.not_lt_zero _)⟩
    | false =>
      rw [if_neg (by decide)]
      rcases idxU_spec p t (i + 1) with ⟨h1, h2⟩ | ⟨j, h1, h2, h3, h4⟩
      · refine .inl ⟨h1, fun y hy => ?_⟩
        rcases List.mem_cons.1 hy with rfl | hy
        · exact hp
        · exact h2 y hy
      · refine .inr ⟨j + 1, by rw [h1]; congr 1; omega, by simp; omega, by simpa using h3, fun q hq h => ?_⟩
        cases q with
        | zero => exact hp
        | succ q => exact h4 q (by simpa using hq) (by omega)
theorem idxR_append {α : Type} (p : α → Bool) (z : α) (hz : p z = true) : ∀ (l : List α) (i : Nat), idxR p (l ++ [z]) i = if idxR p l i < 0 then ((i + l.length : Nat) : Int) else idxR p l i
  | [], i => by
    show (if p z = true then (i : Int) else idxR p [] (i + 1)) = if (-1 : Int) < 0 then ((i + 0 : Nat) : Int) else -1
    rw [if_pos hz, if_pos (by decide)]; rfl
  | x :: t, i => by
    have ih := idxR_append p z hz t (i + 1)
    show (if p x = true then (i : Int) else idxR p (t ++ [z]) (i + 1)) = if (if p x = true then (i : Int) else idxR p t (i + 1)) < 0 then ((i + (t.length + 1) : Nat) : Int) else (if p x = true then (i : Int) else idxR p t (i + 1))
    cases hp : p x with
    | true =>
      have : ¬ (i : Int) < 0 := by omega
      simp [this]
    | false =>
      simp only [Bool.false_eq_true, if_false]
      rw [ih, show i + 1 + t.length = i + (t.length + 1) from by omega]
theorem rawc_row {w : World} {g : Nat} {cs : List Value} {e n : Nat} (h : w.heap[g]? = some (.cells cs.toArray e (0, 0))) (hn : cs.length = n) (h1 : ∀ u ∈ cs, u.oneCell' = true) : Kd.C (Kd.rawc n) w (some ⟨g, 0, none⟩) 1 [cs] := by
  refine ⟨rfl, by decide, fun _ => ⟨_, rfl, fun j p hp => ?_⟩⟩
  match j, hp with
  | 0, hp =>
    cases hp
    refine ⟨cs, hn, ⟨rfl, hn, h1⟩, fun i u hu => ?_⟩
    have ha : ((⟨g, 0, none⟩ : Addr).add (0 * n + i)) = ⟨g, i, none⟩ := by
      rw [Nat.zero_mul, Nat.zero_add]; unfold Addr.add; split <;> simp_all
    show w.cell? ((⟨g, 0, none⟩ : Addr).add (0 * n + i)) = some u
    rw [ha]
    have := blk_cell h i
    rw [this]; simpa using hu
theorem MeanFirst_calls (A0 : Option Addr) (c0 : Nat) (l0 : List S39) (a1_0 : Int) (a1_1 : Int) (a1_2 : Int) (A1_3 : Option Addr) (c1_3 : Nat) (l1_3 : List (S55)) (A1_4 : Option Addr) (c1_4 : Nat) (l1_4 : List Int) (A1_5 : Option Addr) (c1_5 : Nat) (l1_5 : List Int) (w : World) (hr0 : Kd.C k39 w A0 l0.length l0) (hc0 : l0.length ≤ c0) (hF : FaC w A1_3 c1_3 l1_3 A1_4 c1_4 l1_4 A1_5 c1_5 l1_5) (hgL : ∀ r ∈ l0, G39 r) :
    Calls Try.prog 5 #[.slice A0 l0.length c0, .agg #[.int .i64 a1_0, .int .i64 a1_1, .int .i64 a1_2, .slice A1_3 l1_3.length c1_3, .slice A1_4 l1_4.length c1_4, .slice A1_5 l1_5.length c1_5]] w fun e w' => e = .returned (.bool true) ∧ Below w.heap.size w w' := by
  obtain ⟨T, hT⟩ : ∃ T : Ending → World → Prop, T = fun e w' => e = .returned (.bool true) ∧ Below w.heap.size w w' := ⟨_, rfl⟩
  have HT := Aside0.mk hT
  rw [← hT]
  clear hT
  have hA := below_alloc (Below.refl w.heap.size w) (.cells #[.int .i64 a1_0, .int .i64 a1_1, .int .i64 a1_2, .slice A1_3 l1_3.length c1_3, .slice A1_4 l1_4.length c1_4, .slice A1_5 l1_5.length c1_5] 30)
  have g1 := new_at w (.cells #[.int .i64 a1_0, .int .i64 a1_1, .int .i64 a1_2, .slice A1_3 l1_3.length c1_3, .slice A1_4 l1_4.length c1_4, .slice A1_5 l1_5.length c1_5] 30)
  obtain ⟨W, hW0⟩ : ∃ W, w.alloc (.cells #[.int .i64 a1_0, .int .i64 a1_1, .int .i64 a1_2, .slice A1_3 l1_3.length c1_3, .slice A1_4 l1_4.length c1_4, .slice A1_5 l1_5.length c1_5] 30) = W := ⟨_, rfl⟩
  rw [hW0] at hA g1
  have HF := Aside0.mk hF
  have HL := Aside0.mk hr0
  have HC0 := Aside0.mk hc0
  have HA := Aside0.mk hA
  have G1 := Aside0.mk g1
  have HGL := Aside0.mk hgL
  have H0 := Aside0.mk (Below.refl W.heap.size W)
  have hml := hr0.2.1
  clear hF hr0 hc0 hA g1 hgL
  go_enter Try.func5, Try.ntmps5
  go_upto_region 1 with (fail)
  try rw [hW0]
  clear hW0
  have f0 : W.cell? ⟨w.heap.size, 0, none⟩ = some (.int .i64 a1_0) := blk_cell (blk_below G1.out H0.out) 0
  have f1 : W.cell? ⟨w.heap.size, 1, none⟩ = some (.int .i64 a1_1) := blk_cell (blk_below G1.out H0.out) 1
  have f2 : W.cell? ⟨w.heap.size, 2, none⟩ = some (.int .i64 a1_2) := blk_cell (blk_below G1.out H0.out) 2
  have f3 : W.cell? ⟨w.heap.size, 3, none⟩ = some (.slice A1_3 l1_3.length c1_3) := blk_cell (blk_below G1.out H0.out) 3
  have f4 : W.cell? ⟨w.heap.size, 4, none⟩ = some (.slice A1_4 l1_4.length c1_4) := blk_cell (blk_below G1.out H0.out) 4
  have f5 : W.cell? ⟨w.heap.size, 5, none⟩ = some (.slice A1_5 l1_5.length c1_5) := blk_cell (blk_below G1.out H0.out) 5
  obtain ⟨k3, b3, hb3, q3⟩ := Few_told l0 6 (by decide)
  have HB3 := Aside0.mk hb3
  have Q3 := Aside0.mk q3
  clear hb3 q3
  clear hml
  go_wp2_with fail
  refine (gatewardenref11_Few.calls k3 A0 c0 l0 6 b3 W (Kd.C_below HL.out HA.out) HC0.out HB3.out).mono ?_
  rintro e w3 ⟨rfl, hb⟩
  have H3w := Aside0.mk hb
  clear hb
  clear f0 f1 f2 f3 f4 f5
  cases b3 with
  | false =>
    go_wp2_with fail
    refine (awake15 _).mono ?_
    rintro e w9 ⟨rfl, hb⟩
    have HZ := Aside0.mk (below_step (below_step HA.out H3w.out) hb)
    clear hb
    go_wp2_with fail
    rw [HT.out]
    exact ⟨rfl, HZ.out⟩
  | true =>
  have f0 : w3.cell? ⟨w.heap.size, 0, none⟩ = some (.int .i64 a1_0) := blk_cell (blk_below G1.out H3w.out) 0
  have f1 : w3.cell? ⟨w.heap.size, 1, none⟩ = some (.int .i64 a1_1) := blk_cell (blk_below G1.out H3w.out) 1
  have f2 : w3.cell? ⟨w.heap.size, 2, none⟩ = some (.int .i64 a1_2) := blk_cell (blk_below G1.out H3w.out) 2
  have f3 : w3.cell? ⟨w.heap.size, 3, none⟩ = some (.slice A1_3 l1_3.length c1_3) := blk_cell (blk_below G1.out H3w.out) 3
  have f4 : w3.cell? ⟨w.heap.size, 4, none⟩ = some (.slice A1_4 l1_4.length c1_4) := blk_cell (blk_below G1.out H3w.out) 4
  have f5 : w3.cell? ⟨w.heap.size, 5, none⟩ = some (.slice A1_5 l1_5.length c1_5) := blk_cell (blk_below G1.out H3w.out) 5
  have FW := Aside0.mk (Q3.out (by trivial))
  clear Q3 HB3
  obtain ⟨b4, hb4, q4⟩ := few_eq a1_0 a1_1 a1_2 l1_3 l1_4 l1_5
  have HB4 := Aside0.mk hb4
  have Q4 := Aside0.mk q4
  clear hb4 q4
  go_wp2_with fail
  refine (gatewardenlaw15_few.calls a1_0 a1_1 a1_2 A1_3 c1_3 l1_3 A1_4 c1_4 l1_4 A1_5 c1_5 l1_5 b4 w3 (HF.out.on (below_step HA.out H3w.out)).r3 HF.out.h3 (HF.out.on (below_step HA.out H3w.out)).r4 HF.out.h4 (HF.out.on (below_step HA.out H3w.out)).r5 HF.out.h5 HB4.out).mono ?_
  rintro e w4 ⟨rfl, hb⟩
  have H4 := Aside0.mk (below_step H3w.out hb)
  clear hb
  clear f0 f1 f2 f3 f4 f5
  cases b4 with
  | false =>
    go_wp2_with fail
    refine (awake15 _).mono ?_
    rintro e w9 ⟨rfl, hb⟩
    have HZ := Aside0.mk (below_step (below_step HA.out H4.out) hb)
    clear hb
    go_wp2_with fail
    rw [HT.out]
    exact ⟨rfl, HZ.out⟩
  | true =>
  have FF := Aside0.mk (Q4.out (by trivial))
  clear Q4 HB4
  go_wp2_with fail
  go_loopg [5] l0.length (fun gg s7 wr => ∃ (kk : Nat), kk ≤ l0.length ∧ l0.length - kk ≤ gg ∧ s7 = .int .i64 (kk : Int) ∧ Aside0 (∀ j (h : j < l0.length), j < kk → Rgt (l0[j]).f1) ∧ Aside0 (Below w4.heap.size w4 wr))
  case atStart => exact ⟨0, Nat.zero_le _, by omega, rfl, ⟨fun j h hj => absurd hj (Nat.not_lt_zero _)⟩, ⟨Below.refl _ _⟩⟩
  case round =>
    obtain ⟨kk, hkk, hgg, rfl, HR, HBr⟩ := hrel
    have hl6 := FW.out.1
    by_cases hlt : kk < l0.length
    · have hltz : (kk : Int) < (l0.length : Int) := by omega
      obtain ⟨ad, A3, c3, A6, c6, hA, q0, q1, q2, q3, q4, q5, q6, q7, q8, q9, q10, l3, g3, l6, g6⟩ := at_T39 (Kd.C_below HL.out (below_step (below_step HA.out H4.out) HBr.out)) (kk : Int) (by omega) hltz
      subst hA
      rw [Int.toNat_natCast] at q0 q1 q2 q3 q4 q5 q6 q7 q8 q9 q10
      rw [rdU l0 kk hlt] at q0 q1 q2 q3 q4 q5 q6 q7 q8 q9 q10 l3 g3 l6 g6
      obtain ⟨k5, b5, hb5, hq5⟩ := right_told (l0[kk]).f1 (HGL.out _ (List.getElem_mem hlt)).1 (FW.out.2 _ (List.getElem_mem hlt))
      obtain ⟨y, hy⟩ : ∃ y, y = l0[kk] := ⟨_, rfl⟩
      rw [← hy] at q0 q1 q2 q3 q4 q5 q6 q7 q8 q9 q10 l3 g3 l6 g6 hb5 hq5
      have HC := Aside0.mk (gatewardenref11_Right.calls k5 _ _ A3 c3 _ _ _ A6 c6 _ b5 wr g3 l3 g6 l6 hb5)
      have HQ := Aside0.mk hq5
      have HY := Aside0.mk hy
      clear g3 g6 hb5 hq5 hy l3 l6
      go_wp2_with fail
      refine HC.out.mono ?_
      rintro e w5 ⟨rfl, hb⟩
      have HB5 := Aside0.mk (below_step HBr.out hb)
      clear hb HC
      cases b5 with
      | false =>
        go_wp2_with fail
        refine (awake15 _).mono ?_
        rintro e w9 ⟨rfl, hb⟩
        have HZ := Aside0.mk (below_step (below_step (below_step HA.out H4.out) HB5.out) hb)
        clear hb
        go_wp2_with fail
        rw [HT.out]
        exact ⟨rfl, HZ.out⟩
      | true =>
        go_wp2_with fail
        go_roundg (l0.length - (kk + 1))
        case measure => omega
        case rel =>
          refine ⟨kk + 1, by omega, by omega, by go_num, ⟨fun j h hj => ?_⟩, HB5⟩
          by_cases e : j = kk
          · subst e; rw [← HY.out]; exact HQ.out (by trivial)
          · exact HR.out j h (by omega)
    · have hkl : kk = l0.length := by omega
      subst hkl
      have hltz : ¬ ((l0.length : Int) < (l0.length : Int)) := by omega
      have RA := Aside0.mk (show ∀ r ∈ l0, ∃ b, Told a1_0 a1_1 a1_2 l1_3 l1_4 l1_5 r.f1 b from fun r hr => by
        obtain ⟨j, hj, rfl⟩ := List.getElem_of_mem hr
        exact told_right FF.out _ (FW.out.2 _ hr) (HR.out j hj hj))
      have HQ := Aside0.mk (below_step H4.out HBr.out)
      clear HR HBr
      obtain ⟨K1, hi1, K2, hi2⟩ := first_told (c := a1_0) (u := a1_1) (f := a1_2) (sp := l1_3) (vs := l1_4) (rs := l1_5) (l := l0) (v := (fun r : S39 => val a1_0 a1_1 a1_2 l1_3 l1_4 l1_5 r.f1)) (by omega) (fun r hr => val_told (RA.out r hr))
      have hsp := idxU_spec (fun r : S39 => val a1_0 a1_1 a1_2 l1_3 l1_4 l1_5 r.f1) l0 0
      have hap := idxR_append (fun r : S39 => val a1_0 a1_1 a1_2 l1_3 l1_4 l1_5 r.f1) z39 (show val a1_0 a1_1 a1_2 l1_3 l1_4 l1_5 (z39).f1 = true from Told.det (val_told ⟨_, told_else (x := (z39).f1) (by decide) (by decide) (by decide) (by decide)⟩) (told_else (by decide) (by decide) (by decide) (by decide))) l0 0
      have RA2 := Aside0.mk (show ∀ r ∈ l0 ++ [z39], ∃ b, Told a1_0 a1_1 a1_2 l1_3 l1_4 l1_5 r.f1 b from fun r hr => by
        rcases List.mem_append.1 hr with hr | hr
        · exact RA.out r hr
        · rw [List.mem_singleton.1 hr]; exact ⟨_, told_else (by decide) (by decide) (by decide) (by decide)⟩)
      obtain ⟨K3, hi3, K4, hi4⟩ := first_told (c := a1_0) (u := a1_1) (f := a1_2) (sp := l1_3) (vs := l1_4) (rs := l1_5) (l := l0 ++ [z39]) (v := (fun r : S39 => val a1_0 a1_1 a1_2 l1_3 l1_4 l1_5 r.f1)) (by rw [List.length_append, List.length_singleton]; omega) (fun r hr => val_told (RA2.out r hr))
      rw [hap, Nat.zero_add] at hi3
      clear hi2 hi4 hap RA2
      have HSP := Aside0.mk hsp
      generalize idxR (fun r : S39 => val a1_0 a1_1 a1_2 l1_3 l1_4 l1_5 r.f1) l0 0 = ni at hi1 hi3 HSP
      clear hsp
      have HI1 := Aside0.mk hi1
      have HI3 := Aside0.mk hi3
      clear hi1 hi3
      have HNI := Aside0.mk (show -1 ≤ ni ∧ ni < (l0.length : Int) from by
        rcases HSP.out with ⟨h, _⟩ | ⟨j, h, hj, _⟩
        · omega
        · rw [h]; omega)
      have f0 : wr.cell? ⟨w.heap.size, 0, none⟩ = some (.int .i64 a1_0) := blk_cell (blk_below G1.out HQ.out) 0
      have f1 : wr.cell? ⟨w.heap.size, 1, none⟩ = some (.int .i64 a1_1) := blk_cell (blk_below G1.out HQ.out) 1
      have f2 : wr.cell? ⟨w.heap.size, 2, none⟩ = some (.int .i64 a1_2) := blk_cell (blk_below G1.out HQ.out) 2
      have f3 : wr.cell? ⟨w.heap.size, 3, none⟩ = some (.slice A1_3 l1_3.length c1_3) := blk_cell (blk_below G1.out HQ.out) 3
      have f4 : wr.cell? ⟨w.heap.size, 4, none⟩ = some (.slice A1_4 l1_4.length c1_4) := blk_cell (blk_below G1.out HQ.out) 4
      have f5 : wr.cell? ⟨w.heap.size, 5, none⟩ = some (.slice A1_5 l1_5.length c1_5) := blk_cell (blk_below G1.out HQ.out) 5
      go_wp2_with fail
      refine (first_calls K1 A0 c0 l0 a1_0 a1_1 a1_2 A1_3 c1_3 l1_3 A1_4 c1_4 l1_4 A1_5 c1_5 l1_5 ni wr (Kd.C_below HL.out (below_step HA.out HQ.out)) (by omega) (HF.out.on (below_step HA.out HQ.out)) HI1.out).mono ?_
      rintro e w6 ⟨rfl, hb⟩
      have H6 := Aside0.mk (below_step HQ.out hb)
      clear hb f0 f1 f2 f3 f4 f5
      have n1 : decide (ni < -1) = false := decide_eq_false (by have := HNI.out; omega)
      have n2 : decide (ni ≥ (l0.length : Int)) = false := decide_eq_false (by have := HNI.out; omega)
      have n3 : ¬ ni < -1 := by have := HNI.out; omega
      have n4 : ¬ (l0.length : Int) ≤ ni := by have := HNI.out; omega
      go_wp2_with fail
      go_loopg [7] l0.length (fun gg s7 wr => ∃ (kk : Nat), kk ≤ l0.length ∧ l0.length - kk ≤ gg ∧ s7 = .int .i64 (kk : Int) ∧ Aside0 (Below w6.heap.size w6 wr))
      case atStart => exact ⟨0, Nat.zero_le _, by omega, rfl, ⟨Below.refl _ _⟩⟩
      case round =>
        obtain ⟨kk, hkk, hgg, rfl, HBr⟩ := hrel
        have HQ2 := Aside0.mk (below_step H6.out HBr.out)
        by_cases hlt : kk < l0.length
        · have hltz : (kk : Int) < (l0.length : Int) := by omega
          obtain ⟨ad, A3, c3, A6, c6, hA, q0, q1, q2, q3, q4, q5, q6, q7, q8, q9, q10, l3, g3, l6, g6⟩ := at_T39 (Kd.C_below HL.out (below_step HA.out HQ2.out)) (kk : Int) (by omega) hltz
          subst hA
          rw [Int.toNat_natCast] at q0 q1 q2 q3 q4 q5 q6 q7 q8 q9 q10
          rw [rdU l0 kk hlt] at q0 q1 q2 q3 q4 q5 q6 q7 q8 q9 q10 l3 g3 l6 g6
          obtain ⟨K, hK⟩ := val_told (RA.out _ (List.getElem_mem hlt))
          have hcase : (ni < 0 ∧ val a1_0 a1_1 a1_2 l1_3 l1_4 l1_5 (l0[kk]).f1 = false) ∨ (0 ≤ ni ∧ (kk : Int) = ni ∧ val a1_0 a1_1 a1_2 l1_3 l1_4 l1_5 (l0[kk]).f1 = true) ∨ (0 ≤ ni ∧ (kk : Int) < ni ∧ val a1_0 a1_1 a1_2 l1_3 l1_4 l1_5 (l0[kk]).f1 = false) ∨ (0 ≤ ni ∧ ni < (kk : Int)) := by
            rcases HSP.out with ⟨h, hv⟩ | ⟨j, h, hj, hv1, hv2⟩
            · exact .inl ⟨by omega, hv _ (List.getElem_mem hlt)⟩
            · rw [Nat.zero_add] at h
              refine .inr ?_
              by_cases e1 : kk = j
              · subst e1; exact .inl ⟨by omega, by omega, hv1⟩
              by_cases e2 : kk < j
              · exact .inr (.inl ⟨by omega, by omega, hv2 kk hlt e2⟩)
              · exact .inr (.inr ⟨by omega, by omega⟩)
          obtain ⟨y, hy⟩ : ∃ y, y = l0[kk] := ⟨_, rfl⟩
          rw [← hy] at q0 q1 q2 q3 q4 q5 q6 q7 q8 q9 q10 l3 g3 l6 g6 hK hcase
          clear hy
          have HC := Aside0.mk (fun V (h : Below wr.heap.size wr V) (b : Bool) (e : val a1_0 a1_1 a1_2 l1_3 l1_4 l1_5 y.f1 = b) => holds_x K y.f1 A3 c3 A6 c6 a1_0 a1_1 a1_2 A1_3 c1_3 l1_3 A1_4 c1_4 l1_4 A1_5 c1_5 l1_5 b V l3 (Kd.C_below g3 h) l6 (Kd.C_below g6 h) (HF.out.on (below_step (below_step HA.out HQ2.out) h)) (e ▸ hK))
          have HCS := Aside0.mk hcase
          generalize val a1_0 a1_1 a1_2 l1_3 l1_4 l1_5 y.f1 = b at HC HCS
          clear hK g3 g6 l3 l6 hcase
          have hl1 : ((kk : Int) < (l0.length : Int)) = True := eq_true hltz
          have hl2 : (kk < l0.length) = True := eq_true hlt
          have t0 := blk_lt (blk_below G1.out HQ2.out)
          have t3 : (ad.add (kk * 11)).block < wr.heap.size := World.block_lt_of_cell? wr _ q0
          have f0 : wr.cell? ⟨w.heap.size, 0, none⟩ = some (.int .i64 a1_0) := blk_cell (blk_below G1.out HQ2.out) 0
          have f1 : wr.cell? ⟨w.heap.size, 1, none⟩ = some (.int .i64 a1_1) := blk_cell (blk_below G1.out HQ2.out) 1
          have f2 : wr.cell? ⟨w.heap.size, 2, none⟩ = some (.int .i64 a1_2) := blk_cell (blk_below G1.out HQ2.out) 2
          have f3 : wr.cell? ⟨w.heap.size, 3, none⟩ = some (.slice A1_3 l1_3.length c1_3) := blk_cell (blk_below G1.out HQ2.out) 3
          have f4 : wr.cell? ⟨w.heap.size, 4, none⟩ = some (.slice A1_4 l1_4.length c1_4) := blk_cell (blk_below G1.out HQ2.out) 4
          have f5 : wr.cell? ⟨w.heap.size, 5, none⟩ = some (.slice A1_5 l1_5.length c1_5) := blk_cell (blk_below G1.out HQ2.out) 5
          go_upto_region 14 with (fail)
          refine reg_start (List.range 8) 8 (fun w' => Below wr.heap.size wr w') (by kernel_rfl) rfl (below_drew1 (Below.refl _ _)) (fun hHeld => ?_)
          generalize wr.drew = V1 at hHeld ⊢
          repeat (first | (refine reg_pure (v := ?_) (a' := ?_) rfl rfl rfl (by kernel_rfl) (fun _ _ _ h => h) (by rfl) ?_ ?_ ?_; rotate_left; (solve | (intro w'; go_simp; with_reducible rfl)); rotate_left; (solve | (simp only [Act.put, List.setIfInBounds_toArray, List.set_cons_zero, List.set_cons_succ, i64_w, i32_w]; rfl))) | (refine reg_skip (a' := ?_) rfl rfl rfl (by rfl) (by kernel_rfl) (fun _ _ _ h => h) ?_ ?_; rotate_left; (solve | (simp only [Act.put, List.setIfInBounds_toArray, List.set_cons_zero, List.set_cons_succ, i64_w, i32_w]; rfl))) | (refine reg_load (v := ?_) (a' := ?_) rfl rfl rfl (by kernel_rfl) (fun _ _ _ h => h) (by rfl) ?_ hHeld ?_ ?_; rotate_left; (solve | (intro w' hb'; obtain ⟨hc', hf'⟩ := bcellA hb'; clear hb'; go_simp; with_reducible rfl)); rotate_left; (solve | (simp only [Act.put, List.setIfInBounds_toArray, List.set_cons_zero, List.set_cons_succ, i64_w, i32_w]; rfl)); intro hHeld))
          refine reg_call rfl rfl rfl (by kernel_rfl) (by rfl) Try.func14 (by kernel_rfl) rfl #[.agg #[.int .i64 y.f1.f0, .int .i64 y.f1.f1, .slice A3 y.f1.f2.length c3, .float .f64 y.f1.f3, .float .f64 y.f1.f4, .slice A6 y.f1.f5.length c6], .agg #[.int .i64 a1_0, .int .i64 a1_1, .int .i64 a1_2, .slice A1_3 l1_3.length c1_3, .slice A1_4 l1_4.length c1_4, .slice A1_5 l1_5.length c1_5]] rfl (by (try simp only [List.map_toArray, List.map_cons, List.map_nil]); first | done | rfl) ?_
          refine (HC.out _ hHeld b rfl).mono ?_
          rintro e w5 ⟨rfl, hb⟩
          refine ⟨_, rfl, below_step hHeld hb, fun hHeld => ?_⟩
          clear hb
          rintro a' ha'
          simp only [Act.put, List.setIfInBounds_toArray, List.set_cons_zero, List.set_cons_succ, i64_w, i32_w] at ha'
          subst ha'
          repeat (first | (refine reg_pure (v := ?_) (a' := ?_) rfl rfl rfl (by kernel_rfl) (fun _ _ _ h => h) (by rfl) ?_ ?_ ?_; rotate_left; (solve | (intro w'; go_simp; with_reducible rfl)); rotate_left; (solve | (simp only [Act.put, List.setIfInBounds_toArray, List.set_cons_zero, List.set_cons_succ, i64_w, i32_w]; rfl))) | (refine reg_skip (a' := ?_) rfl rfl rfl (by rfl) (by kernel_rfl) (fun _ _ _ h => h) ?_ ?_; rotate_left; (solve | (simp only [Act.put, List.setIfInBounds_toArray, List.set_cons_zero, List.set_cons_succ, i64_w, i32_w]; rfl))) | (refine reg_load (v := ?_) (a' := ?_) rfl rfl rfl (by kernel_rfl) (fun _ _ _ h => h) (by rfl) ?_ hHeld ?_ ?_; rotate_left; (solve | (intro w' hb'; obtain ⟨hc', hf'⟩ := bcellA hb'; clear hb'; go_simp; with_reducible rfl)); rotate_left; (solve | (simp only [Act.put, List.setIfInBounds_toArray, List.set_cons_zero, List.set_cons_succ, i64_w, i32_w]; rfl)); intro hHeld))
          refine reg_done (by kernel_rfl) ?_
          have HD := Aside0.mk (below_step HBr.out hHeld)
          clear hHeld q0 q1 q2 q3 q4 q5 q6 q7 q8 q9 q10 t0 t3 HC f0 f1 f2 f3 f4 f5
          have hfin : ∀ b1 b2 b3 : Bool, True := fun _ _ _ => trivial
          rcases HCS.out with ⟨m1, rfl⟩ | ⟨m1, m2, rfl⟩ | ⟨m1, m2, rfl⟩ | ⟨m1, m2⟩
          · have d1 : ((kk : Int) == ni) = false := beq_eq_false_iff_ne.2 (by omega)
            have d2 : decide (ni < 0) = true := decide_eq_true (by omega)
            have d3 : decide ((kk : Int) < ni) = false := decide_eq_false (by omega)
            go_wp2_with fail
            go_roundg (l0.length - (kk + 1))
            case measure => omega
            case rel => exact ⟨kk + 1, by omega, by omega, by go_num, HD⟩
          · have d1 : ((kk : Int) == ni) = true := beq_iff_eq.2 (by omega)
            have d2 : decide (ni < 0) = false := decide_eq_false (by omega)
            have d3 : decide ((kk : Int) < ni) = false := decide_eq_false (by omega)
            go_wp2_with fail
            go_roundg (l0.length - (kk + 1))
            case measure => omega
            case rel => exact ⟨kk + 1, by omega, by omega, by go_num, HD⟩
          · have d1 : ((kk : Int) == ni) = false := beq_eq_false_iff_ne.2 (by omega)
            have d2 : decide (ni < 0) = false := decide_eq_false (by omega)
            have d3 : decide ((kk : Int) < ni) = true := decide_eq_true (by omega)
            go_wp2_with fail
            go_roundg (l0.length - (kk + 1))
            case measure => omega
            case rel => exact ⟨kk + 1, by omega, by omega, by go_num, HD⟩
          · have d1 : ((kk : Int) == ni) = false := beq_eq_false_iff_ne.2 (by omega)
            have d2 : decide (ni < 0) = false := decide_eq_false (by omega)
            have d3 : decide ((kk : Int) < ni) = false := decide_eq_false (by omega)
            cases b with
            | true =>
              go_wp2_with fail
              go_roundg (l0.length - (kk + 1))
              case measure => omega
              case rel => exact ⟨kk + 1, by omega, by omega, by go_num, HD⟩
            | false =>
              go_wp2_with fail
              go_roundg (l0.length - (kk + 1))
              case measure => omega
              case rel => exact ⟨kk + 1, by omega, by omega, by go_num, HD⟩
        · have hkl : kk = l0.length := by omega
          subst hkl
          have hltz : ¬ ((l0.length : Int) < (l0.length : Int)) := by omega
          have f0 : wr.cell? ⟨w.heap.size, 0, none⟩ = some (.int .i64 a1_0) := blk_cell (blk_below G1.out HQ2.out) 0
          have f1 : wr.cell? ⟨w.heap.size, 1, none⟩ = some (.int .i64 a1_1) := blk_cell (blk_below G1.out HQ2.out) 1
          have f2 : wr.cell? ⟨w.heap.size, 2, none⟩ = some (.int .i64 a1_2) := blk_cell (blk_below G1.out HQ2.out) 2
          have f3 : wr.cell? ⟨w.heap.size, 3, none⟩ = some (.slice A1_3 l1_3.length c1_3) := blk_cell (blk_below G1.out HQ2.out) 3
          have f4 : wr.cell? ⟨w.heap.size, 4, none⟩ = some (.slice A1_4 l1_4.length c1_4) := blk_cell (blk_below G1.out HQ2.out) 4
          have f5 : wr.cell? ⟨w.heap.size, 5, none⟩ = some (.slice A1_5 l1_5.length c1_5) := blk_cell (blk_below G1.out HQ2.out) 5
          obtain ⟨rs, hrs, hlk⟩ := rawc_of_C (Kd.C_below HL.out (below_step HA.out HQ2.out))
          have hrl := hlk.1
          have hrs : Kd.C (Kd.rawc 11) wr A0 l0.length rs := hrs
          have HRS := Aside0.mk hrs
          have HLK := Aside0.mk hlk
          have HRL := Aside0.mk hrl
          clear hrs hlk hrl
          have t0 := blk_lt (blk_below G1.out HQ2.out)
          have hl6 := FW.out.1
          go_upto_region 17 with (fail)
          refine reg_start [1, 3, 6, 0, 2, 4, 5, 7, 8] 9 (fun w' => Below wr.heap.size wr w') (by kernel_rfl) rfl (below_drew1 (Below.refl _ _)) (fun hHeld => ?_)
          generalize wr.drew = V1 at hHeld ⊢
          repeat (first | (refine reg_pure (v := ?_) (a' := ?_) rfl rfl rfl (by kernel_rfl) (fun _ _ _ h => h) (by rfl) ?_ ?_ ?_; rotate_left; (solve | (intro w'; go_simp; with_reducible rfl)); rotate_left; (solve | (simp only [Act.put, List.setIfInBounds_toArray, List.set_cons_zero, List.set_cons_succ, i64_w, i32_w]; rfl))) | (refine reg_skip (a' := ?_) rfl rfl rfl (by rfl) (by kernel_rfl) (fun _ _ _ h => h) ?_ ?_; rotate_left; (solve | (simp only [Act.put, List.setIfInBounds_toArray, List.set_cons_zero, List.set_cons_succ, i64_w, i32_w]; rfl))) | (refine reg_load (v := ?_) (a' := ?_) rfl rfl rfl (by kernel_rfl) (fun _ _ _ h => h) (by rfl) ?_ hHeld ?_ ?_; rotate_left; (solve | (intro w' hb'; obtain ⟨hc', hf'⟩ := bcellA hb'; clear hb'; go_simp; with_reducible rfl)); rotate_left; (solve | (simp only [Act.put, List.setIfInBounds_toArray, List.set_cons_zero, List.set_cons_succ, i64_w, i32_w]; rfl)); intro hHeld))
          refine reg_lay (Kd.rawc 11) ((Kd.rawc 11).K wr) wr (i := 0) (j := 2) (k := 4) (by kernel_rfl) rfl rfl rfl rfl rfl rfl (by decide) (by decide) (by decide) rfl rfl rfl (.tmp 77) 27 39 (.agg #[.bool false, .int .i64 0, .int .i64 0, .slice none 0 0, .float .f64 0, .float .f64 0, .slice none 0 0, .int .i64 0, .int .i64 0, .int .i64 0, .int .i64 0]) 120 [.bool false, .int .i64 0, .int .i64 0, .slice none 0 0, .float .f64 0, .float .f64 0, .slice none 0 0, .int .i64 0, .int .i64 0, .int .i64 0, .int .i64 0] [.bool false, .int .i64 0, .int .i64 0, .slice none 0 0, .float .f64 0, .float .f64 0, .slice none 0 0, .int .i64 0, .int .i64 0, .int .i64 0, .int .i64 0] ?ri ?rk rfl (by decide) (by simp [List.size_toArray]) Try.underlying27 infoU rfl (by decide) (by decide) rs A0 l0.length c0 rfl (fun W' hb => Kd.C_below HRS.out hb) (fun W' okp x cs hb h => rawc_KM h) hHeld (by omega) (fun _ h => h) ?_
          case ri =>
            intro W a' ha
            go_simp
          case rk =>
            intro W a' ha
            have h79 : a'.eval (.tmp 79) = .agg #[.bool false, .int .i64 0, .int .i64 0, .slice none 0 0, .float .f64 0, .float .f64 0, .slice none 0 0, .int .i64 0, .int .i64 0, .int .i64 0, .int .i64 0] := (ha (.tmp 79) (by simp)).trans rfl
            have h79' : (a'.tmps[79]?).getD undef = .agg #[.bool false, .int .i64 0, .int .i64 0, .slice none 0 0, .float .f64 0, .float .f64 0, .slice none 0 0, .int .i64 0, .int .i64 0, .int .i64 0, .int .i64 0] := by rw [← Array.getD_eq_getD_getElem?]; exact h79
            go_simp
          intro v0 v1 g w8 hR8 hB8 hg8 hk8 a' ha'
          simp only [Act.put, List.setIfInBounds_toArray, List.set_cons_zero, List.set_cons_succ, i64_w, i32_w] at ha'
          subst ha'
          have HR8 := Aside0.mk hR8
          have HB8 := Aside0.mk hB8
          have HK8 := Aside0.mk hk8
          have lg := blk_lt hk8
          clear hHeld hR8 hk8
          refine reg_rows (Kd.rawc 11) ((Kd.rawc 11).K w8) wr wr.heap.size rfl rfl rfl (by kernel_rfl) (by rfl) (.tmp 78) (.tmp 80) 27 39 (.agg #[.bool false, .int .i64 0, .int .i64 0, .slice none 0 0, .float .f64 0, .float .f64 0, .slice none 0 0, .int .i64 0, .int .i64 0, .int .i64 0, .int .i64 0]) 120 rfl Try.underlying27 infoU rfl (by decide) (by decide) v1 rs [[.bool false, .int .i64 0, .int .i64 0, .slice none 0 0, .float .f64 0, .float .f64 0, .slice none 0 0, .int .i64 0, .int .i64 0, .int .i64 0, .int .i64 0]] (some ⟨g, 0, none⟩) 1 1 (fun q => q ≠ g) (fun q => q ≠ g ∧ some q ≠ v1.ownBlock) rfl rfl HR8.out (rawc_row HK8.out rfl (by decide)) (fun x cs h => rawc_KM h) (fun k hk => hk) (fun _ hk => by omega) HB8.out HB8.out.size (by have := HRL.out; omega) (fun _ h => h) ?_
          intro v2 w9 hR9 hB9 _ _ a' ha'
          simp only [Act.put, List.setIfInBounds_toArray, List.set_cons_zero, List.set_cons_succ, i64_w, i32_w] at ha'
          subst ha'
          obtain ⟨A5, c5, rfl, hc5, hC5⟩ := Kd.R_reads hR9
          have HLM := Aside0.mk (show Linked k39 w9 (l0 ++ [z39]) (rs ++ [[.bool false, .int .i64 0, .int .i64 0, .slice none 0 0, .float .f64 0, .float .f64 0, .slice none 0 0, .int .i64 0, .int .i64 0, .int .i64 0, .int .i64 0]]) from (HLK.out.append (Linked.one (k39_mk wr z39 (Nat.le_refl _) (Kd.C_nil _ _) (Nat.le_refl _) (Kd.C_nil _ _)))).below hB9)
          have HLN := Aside0.mk HLM.out.1
          rw [HLN.out] at hC5 hc5
          have HM := Aside0.mk (C_of_rawc (d := k39) hC5 HLM.out)
          have HB9 := Aside0.mk hB9
          have hHeld := hB9
          clear hR9 hB9 hC5 hc5
          rw [HLN.out]
          repeat (first | (refine reg_pure (v := ?_) (a' := ?_) rfl rfl rfl (by kernel_rfl) (fun _ _ _ h => h) (by rfl) ?_ ?_ ?_; rotate_left; (solve | (intro w'; go_simp; with_reducible rfl)); rotate_left; (solve | (simp only [Act.put, List.setIfInBounds_toArray, List.set_cons_zero, List.set_cons_succ, i64_w, i32_w]; rfl))) | (refine reg_skip (a' := ?_) rfl rfl rfl (by rfl) (by kernel_rfl) (fun _ _ _ h => h) ?_ ?_; rotate_left; (solve | (simp only [Act.put, List.setIfInBounds_toArray, List.set_cons_zero, List.set_cons_succ, i64_w, i32_w]; rfl))) | (refine reg_load (v := ?_) (a' := ?_) rfl rfl rfl (by kernel_rfl) (fun _ _ _ h => h) (by rfl) ?_ hHeld ?_ ?_; rotate_left; (solve | (intro w' hb'; obtain ⟨hc', hf'⟩ := bcellA hb'; clear hb'; go_simp; with_reducible rfl)); rotate_left; (solve | (simp only [Act.put, List.setIfInBounds_toArray, List.set_cons_zero, List.set_cons_succ, i64_w, i32_w]; rfl)); intro hHeld))
          refine reg_call rfl rfl rfl (by kernel_rfl) (by rfl) Try.func16 (by kernel_rfl) rfl #[.slice A5 (l0 ++ [z39]).length c5, .agg #[.int .i64 a1_0, .int .i64 a1_1, .int .i64 a1_2, .slice A1_3 l1_3.length c1_3, .slice A1_4 l1_4.length c1_4, .slice A1_5 l1_5.length c1_5]] rfl (by (try simp only [List.map_toArray, List.map_cons, List.map_nil]); first | done | rfl) ?_
          refine (first_calls K3 A5 c5 (l0 ++ [z39]) a1_0 a1_1 a1_2 A1_3 c1_3 l1_3 A1_4 c1_4 l1_4 A1_5 c1_5 l1_5 _ _ (Kd.C_below HM.out (Below.refl _ _)) (by rw [List.length_append, List.length_singleton]; omega) (HF.out.on (below_step (below_step HA.out HQ2.out) HB9.out)) HI3.out).mono ?_
          rintro e w10 ⟨rfl, hb⟩
          refine ⟨_, rfl, below_step HB9.out hb, fun hHeld => ?_⟩
          clear hb
          rintro a' ha'
          simp only [Act.put, List.setIfInBounds_toArray, List.set_cons_zero, List.set_cons_succ, i64_w, i32_w] at ha'
          subst ha'
          repeat (first | (refine reg_pure (v := ?_) (a' := ?_) rfl rfl rfl (by kernel_rfl) (fun _ _ _ h => h) (by rfl) ?_ ?_ ?_; rotate_left; (solve | (intro w'; go_simp; with_reducible rfl)); rotate_left; (solve | (simp only [Act.put, List.setIfInBounds_toArray, List.set_cons_zero, List.set_cons_succ, i64_w, i32_w]; rfl))) | (refine reg_skip (a' := ?_) rfl rfl rfl (by rfl) (by kernel_rfl) (fun _ _ _ h => h) ?_ ?_; rotate_left; (solve | (simp only [Act.put, List.setIfInBounds_toArray, List.set_cons_zero, List.set_cons_succ, i64_w, i32_w]; rfl))) | (refine reg_load (v := ?_) (a' := ?_) rfl rfl rfl (by kernel_rfl) (fun _ _ _ h => h) (by rfl) ?_ hHeld ?_ ?_; rotate_left; (solve | (intro w' hb'; obtain ⟨hc', hf'⟩ := bcellA hb'; clear hb'; go_simp; with_reducible rfl)); rotate_left; (solve | (simp only [Act.put, List.setIfInBounds_toArray, List.set_cons_zero, List.set_cons_succ, i64_w, i32_w]; rfl)); intro hHeld))
          refine reg_done (by kernel_rfl) ?_
          have H10 := Aside0.mk (below_step HQ2.out hHeld)
          clear hHeld f0 f1 f2 f3 f4 f5 t0 lg
          by_cases hneg : ni < 0
          · have d1 : decide (ni ≥ 0) = false := decide_eq_false (by omega)
            have d2 : decide (ni < 0) = true := decide_eq_true hneg
            have d3 : ¬ 0 ≤ ni := by omega
            rw [if_pos hneg]
            have d4 : ((l0.length : Int) == (l0.length : Int)) = true := beq_self_eq_true _
            go_wp2_with fail
            refine (awake15 _).mono ?_
            rintro e w11 ⟨rfl, hb⟩
            have HZ := Aside0.mk (below_step (below_step HA.out H10.out) hb)
            clear hb
            go_wp2_with fail
            rw [HT.out]
            exact ⟨rfl, HZ.out⟩
          · have d1 : decide (ni ≥ 0) = true := decide_eq_true (by omega)
            have d2 : decide (ni < 0) = false := decide_eq_false hneg
            have d3 : 0 ≤ ni := by omega
            rw [if_neg hneg]
            have d4 : (ni == ni) = true := beq_self_eq_true _
            go_wp2_with fail
            refine (awake15 _).mono ?_
            rintro e w11 ⟨rfl, hb⟩
            have HZ := Aside0.mk (below_step (below_step HA.out H10.out) hb)
            clear hb
            go_wp2_with fail
            rw [HT.out]
            exact ⟨rfl, HZ.out⟩
end Go.Proofs.Ytppmcbkcohiodaa.PMeanTells
