/- Texts of this claim, put together (wip/pack.py): MeanTurnedW. -/
import Derived.Test.YtppmcbkcohiodaaK26
import Derived.Test.YtppmcbkcohiodaaK2
import Derived.Test.YtppmcbkcohiodaaK27
import Derived.Test.YtppmcbkcohiodaaK7
namespace Go.Proofs.Ytppmcbkcohiodaa.PMeanTells
open Go Go.RowKit Go.Proofs.Ytppmcbkcohiodaa.Base Go.Proofs.YtppmcbkcohiodaaW.PrintWords Go.Proofs.YtppmcbkcohiodaaW.PrintLast Go.Proofs.YtppmcbkcohiodaaW.PrintMore
set_option maxHeartbeats 4000000
set_option maxRecDepth 100000
set_option linter.unusedVariables false
set_option linter.unusedSimpArgs false
theorem infoE : (Try.prog.info? 26).map (fun i => (i.zero, i.size, i.bytes)) = some (some (.agg #[.int .i64 0, .int .i64 0, .slice none 0 0, .float .f64 0, .float .f64 0, .slice none 0 0]), 6, 80) := by kernel_rfl
theorem cutE (A : Option Addr) (rs : List (List Value)) (c m : Nat) (hm : m ≤ rs.length) (hc : rs.length ≤ c) :
    ∃ A' : Option Addr, (∀ W : World, (Instr.slice 24 (.slice A rs.length c) (some (.int .i64 (m : Int))) none none).run Try.prog W = .ok (.slice A' (rs.length - m) (c - m)) W) ∧ ∀ w : World, Kd.C (Kd.rawc 6) w A rs.length rs → Kd.C (Kd.rawc 6) w A' (rs.length - m) (rs.drop m) := by
  obtain ⟨i, hi, hz⟩ := Option.map_eq_some_iff.1 infoE
  simp only [Prod.mk.injEq] at hz
  refine ⟨if c = m then A else A.map (·.add (m * 6)), fun W => ?_, fun w h => by have := Kd.C_drop h hm hc; rwa [List.length_drop] at this⟩
  have h := cut_from (P := Try.prog) 24 26 .i64 Try.underlying24 hi 6 hz.2.1 A rs.length c (m : Int) (by omega) (by omega) W
  rw [Int.toNat_natCast] at h
  exact h
theorem toE (A : Option Addr) (rs : List (List Value)) (c m : Nat) (hm : m ≤ rs.length) (hc : rs.length ≤ c) :
    (∀ W : World, (Instr.slice 24 (.slice A rs.length c) none (some (.int .i64 (m : Int))) none).run Try.prog W = .ok (.slice A m c) W) ∧ ∀ w : World, Kd.C (Kd.rawc 6) w A rs.length rs → Kd.C (Kd.rawc 6) w A m (rs.take m) := by
  obtain ⟨i, hi, hz⟩ := Option.map_eq_some_iff.1 infoE
  refine ⟨fun W => ?_, fun w h => by have := Kd.C_take h hm; rwa [List.length_take, Nat.min_eq_left hm] at this⟩
  have h := cut_to (P := Try.prog) 24 26 .i64 Try.underlying24 hi A rs.length c (m : Int) (by omega) (by omega) hc W
  rw [Int.toNat_natCast] at h
  exact h
theorem emptyE (w : World) : Kd.R (Kd.rawc 6) 26 (w.alloc (.cells #[] 26)) w.heap.size (fun _ => True) (.slice (some ⟨w.heap.size, 0, none⟩) 0 0) [] :=
  ⟨fun _ _ => trivial, [], ⟨rfl, .inr ⟨w.heap.size, 0, #[], rfl, Nat.le_refl _, blk_new w _, Nat.le_refl _, by unfold maxLen; omega, rfl, rfl⟩⟩, Reps.none _ _⟩
/-- An and, an or, of others: told, whatever their order. -/
theorem told_turn {c u f : Int} {sp : List S55} {vs rs : List Int} {kd : Int} (hk : kd = 3 ∨ kd = 4) {l m : List S26} (hl : l.length ≤ 1000000) (hm : ∀ x, x ∈ m ↔ x ∈ l) (hml : m.length = l.length) (h : ∀ y ∈ l, ∃ b, Told c u f sp vs rs y b) :
    ∃ b, Told c u f sp vs rs ⟨kd, 0, [], 0, 0, l⟩ b ∧ Told c u f sp vs rs ⟨kd, 0, [], 0, 0, m⟩ b := by
  have hv : ∀ y ∈ l, Told c u f sp vs rs y (val c u f sp vs rs y) := fun y hy => val_told (h y hy)
  have hv' : ∀ y ∈ m, Told c u f sp vs rs y (val c u f sp vs rs y) := fun y hy => hv y ((hm y).1 hy)
  rcases hk with rfl | rfl
  · refine ⟨_, told_and (x := ⟨3, 0, [], 0, 0, l⟩) rfl (by show l.length ≤ _; omega) hv, ?_⟩
    have := told_and (x := ⟨3, 0, [], 0, 0, m⟩) rfl (by show m.length ≤ _; omega) hv'
    rw [show (⟨3, 0, [], 0, 0, l⟩ : S26).f5.all (val c u f sp vs rs) = (⟨3, 0, [], 0, 0, m⟩ : S26).f5.all (val c u f sp vs rs) from by
      rw [Bool.eq_iff_iff, List.all_eq_true, List.all_eq_true]
      exact ⟨fun h x hx => h x ((hm x).1 hx), fun h x hx => h x ((hm x).2 hx)⟩]
    exact this
  · refine ⟨_, told_or (x := ⟨4, 0, [], 0, 0, l⟩) rfl (by show l.length ≤ _; omega) hv, ?_⟩
    have := told_or (x := ⟨4, 0, [], 0, 0, m⟩) rfl (by show m.length ≤ _; omega) hv'
    rw [show (⟨4, 0, [], 0, 0, l⟩ : S26).f5.any (val c u f sp vs rs) = (⟨4, 0, [], 0, 0, m⟩ : S26).f5.any (val c u f sp vs rs) from by
      rw [Bool.eq_iff_iff, List.any_eq_true, List.any_eq_true]
      exact ⟨fun ⟨x, hx, h⟩ => ⟨x, (hm x).2 hx, h⟩, fun ⟨x, hx, h⟩ => ⟨x, (hm x).1 hx, h⟩⟩]
    exact this
theorem MeanTurned_calls (A0 : Option Addr) (c0 : Nat) (l0 : List S26) (a1_0 : Int) (a1_1 : Int) (a1_2 : Int) (A1_3 : Option Addr) (c1_3 : Nat) (l1_3 : List (S55)) (A1_4 : Option Addr) (c1_4 : Nat) (l1_4 : List Int) (A1_5 : Option Addr) (c1_5 : Nat) (l1_5 : List Int) (turn : Int) (w : World) (hr0 : Kd.C k26 w A0 l0.length l0) (hc0 : l0.length ≤ c0) (hF : FaC w A1_3 c1_3 l1_3 A1_4 c1_4 l1_4 A1_5 c1_5 l1_5) (hgL : ∀ r ∈ l0, G26 r) (ht : 0 ≤ turn ∧ turn ≤ 255) :
    Calls Try.prog 6 #[.slice A0 l0.length c0, .agg #[.int .i64 a1_0, .int .i64 a1_1, .int .i64 a1_2, .slice A1_3 l1_3.length c1_3, .slice A1_4 l1_4.length c1_4, .slice A1_5 l1_5.length c1_5], .int .u8 turn] w fun e w' => e = .returned (.bool true) ∧ Below w.heap.size w w' := by
  obtain ⟨T, hT⟩ : ∃ T : Ending → World → Prop, T = fun e w' => e = .returned (.bool true) ∧ Below w.heap.size w w' := ⟨_, rfl⟩
  have HT := Aside0.mk hT
  rw [← hT]
  clear hT
  have hA := below_alloc (Below.refl w.heap.size w) (.cells #[.int .i64 a1_0, .int .i64 a1_1, .int .i64 a1_2, .slice A1_3 l1_3.length c1_3, .slice A1_4 l1_4.length c1_4, .slice A1_5 l1_5.length c1_5] 30)
  have g1 := new_at w (.cells #[.int .i64 a1_0, .int .i64 a1_1, .int .i64 a1_2, .slice A1_3 l1_3.length c1_3, .slice A1_4 l1_4.length c1_4, .slice A1_5 l1_5.length c1_5] 30)
  obtain ⟨W, hW0⟩ : ∃ W, w.alloc (.cells #[.int .i64 a1_0, .int .i64 a1_1, .int .i64 a1_2, .slice A1_3 l1_3.length c1_3, .slice A1_4 l1_4.length c1_4, .slice A1_5 l1_5.length c1_5] 30) = W := ⟨_, rfl⟩
  rw [hW0] at hA g1
  have HF := Aside0.mk hF
  have HL := Aside0.mk hr0
  have HC0 := Aside0.mk hc0
  have HA := Aside0.mk hA
  have G1 := Aside0.mk g1
  have HGL := Aside0.mk hgL
  have H0 := Aside0.mk (Below.refl W.heap.size W)
  have hml := hr0.2.1
  clear hF hr0 hc0 hA g1 hgL
  go_enter Try.func6, Try.ntmps6
  go_upto_region 1 with (fail)
  try rw [hW0]
  clear hW0
  have f0 : W.cell? ⟨w.heap.size, 0, none⟩ = some (.int .i64 a1_0) := blk_cell (blk_below G1.out H0.out) 0
  have f1 : W.cell? ⟨w.heap.size, 1, none⟩ = some (.int .i64 a1_1) := blk_cell (blk_below G1.out H0.out) 1
  have f2 : W.cell? ⟨w.heap.size, 2, none⟩ = some (.int .i64 a1_2) := blk_cell (blk_below G1.out H0.out) 2
  have f3 : W.cell? ⟨w.heap.size, 3, none⟩ = some (.slice A1_3 l1_3.length c1_3) := blk_cell (blk_below G1.out H0.out) 3
  have f4 : W.cell? ⟨w.heap.size, 4, none⟩ = some (.slice A1_4 l1_4.length c1_4) := blk_cell (blk_below G1.out H0.out) 4
  have f5 : W.cell? ⟨w.heap.size, 5, none⟩ = some (.slice A1_5 l1_5.length c1_5) := blk_cell (blk_below G1.out H0.out) 5
  by_cases h2 : (l0.length : Int) < 2
  · have h2' : decide ((l0.length : Int) < 2) = true := decide_eq_true h2
    go_wp2_with fail
    refine (awake15 _).mono ?_
    rintro e w9 ⟨rfl, hb⟩
    have HZ := Aside0.mk (below_step (below_step HA.out H0.out) hb)
    clear hb
    go_wp2_with fail
    rw [HT.out]
    exact ⟨rfl, HZ.out⟩
  have h2' : decide ((l0.length : Int) < 2) = false := decide_eq_false h2
  by_cases h6 : (l0.length : Int) > 6
  · have h6' : decide ((l0.length : Int) > 6) = true := decide_eq_true h6
    go_wp2_with fail
    refine (awake15 _).mono ?_
    rintro e w9 ⟨rfl, hb⟩
    have HZ := Aside0.mk (below_step (below_step HA.out H0.out) hb)
    clear hb
    go_wp2_with fail
    rw [HT.out]
    exact ⟨rfl, HZ.out⟩
  have h6' : decide ((l0.length : Int) > 6) = false := decide_eq_false h6
  obtain ⟨b4, hb4, q4⟩ := few_eq a1_0 a1_1 a1_2 l1_3 l1_4 l1_5
  have HB4 := Aside0.mk hb4
  have Q4 := Aside0.mk q4
  clear hb4 q4
  go_wp2_with fail
  refine (gatewardenlaw15_few.calls a1_0 a1_1 a1_2 A1_3 c1_3 l1_3 A1_4 c1_4 l1_4 A1_5 c1_5 l1_5 b4 W (HF.out.on HA.out).r3 HF.out.h3 (HF.out.on HA.out).r4 HF.out.h4 (HF.out.on HA.out).r5 HF.out.h5 HB4.out).mono ?_
  rintro e w4 ⟨rfl, hb⟩
  have H4 := Aside0.mk hb
  clear hb
  clear f0 f1 f2 f3 f4 f5
  cases b4 with
  | false =>
    go_wp2_with fail
    refine (awake15 _).mono ?_
    rintro e w9 ⟨rfl, hb⟩
    have HZ := Aside0.mk (below_step (below_step HA.out H4.out) hb)
    clear hb
    go_wp2_with fail
    rw [HT.out]
    exact ⟨rfl, HZ.out⟩
  | true =>
  have FF := Aside0.mk (Q4.out (by trivial))
  clear Q4 HB4
  go_wp2_with fail
  go_loopg [7] l0.length (fun gg s7 wr => ∃ (kk : Nat), kk ≤ l0.length ∧ l0.length - kk ≤ gg ∧ s7 = .int .i64 (kk : Int) ∧ Aside0 (∀ j (h : j < l0.length), j < kk → Sm l0[j] ∧ Rgt l0[j]) ∧ Aside0 (Below w4.heap.size w4 wr))
  case atStart => exact ⟨0, Nat.zero_le _, by omega, rfl, ⟨fun j h hj => absurd hj (Nat.not_lt_zero _)⟩, ⟨Below.refl _ _⟩⟩
  case round =>
    obtain ⟨kk, hkk, hgg, rfl, HR, HBr⟩ := hrel
    by_cases hlt : kk < l0.length
    · have hltz : (kk : Int) < (l0.length : Int) := by omega
      obtain ⟨ad, A3, c3, A6, c6, hA, q0, q1, q2, q3, q4, q5, l3, g3, l6, g6⟩ := at_T26 (Kd.C_below HL.out (below_step (below_step HA.out H4.out) HBr.out)) (kk : Int) (by omega) hltz
      subst hA
      rw [Int.toNat_natCast] at q0 q1 q2 q3 q4 q5
      rw [rdE l0 kk hlt] at q0 q1 q2 q3 q4 q5 l3 g3 l6 g6
      obtain ⟨k1, b1, hb1, hq1⟩ := small_told l0[kk] 4 (by decide) (by decide)
      have hgk := HGL.out _ (List.getElem_mem hlt)
      obtain ⟨y, hy⟩ : ∃ y, y = l0[kk] := ⟨_, rfl⟩
      rw [← hy] at q0 q1 q2 q3 q4 q5 l3 g3 l6 g6 hb1 hq1 hgk
      have HC := Aside0.mk (gatewardenref11_Small.calls k1 _ _ A3 c3 _ _ _ A6 c6 _ 4 b1 wr g3 l3 g6 l6 hb1)
      have HQ := Aside0.mk hq1
      have HY := Aside0.mk hy
      have HG := Aside0.mk hgk
      have G3 := Aside0.mk g3
      have G6 := Aside0.mk g6
      have L3 := Aside0.mk l3
      have L6 := Aside0.mk l6
      have t3 : (ad.add (kk * 6)).block < wr.heap.size := World.block_lt_of_cell? wr _ q0
      have Q0 := Aside0.mk q0
      have Q1 := Aside0.mk q1
      have Q2 := Aside0.mk q2
      have Q3 := Aside0.mk q3
      have Q4 := Aside0.mk q4
      have Q5 := Aside0.mk q5
      clear g3 g6 hb1 hq1 hy l3 l6 hgk
      go_wp2_with fail
      refine HC.out.mono ?_
      rintro e w5 ⟨rfl, hb⟩
      have HB5 := Aside0.mk (below_step HBr.out hb)
      have HB5' := Aside0.mk hb
      clear HC q0 q1 q2 q3 q4 q5
      cases b1 with
      | false =>
        clear hb
        go_wp2_with fail
        refine (awake15 _).mono ?_
        rintro e w9 ⟨rfl, hb⟩
        have HZ := Aside0.mk (below_step (below_step (below_step HA.out H4.out) HB5.out) hb)
        clear hb
        go_wp2_with fail
        rw [HT.out]
        exact ⟨rfl, HZ.out⟩
      | true =>
        have SM := Aside0.mk (HQ.out (by trivial))
        obtain ⟨k2, b2, hb2, hq2⟩ := right_told y HG.out SM.out
        have q0 := (hb.cell t3).trans Q0.out
        have q1 := (hb.cell (p := ⟨(ad.add (kk * 6)).block, (ad.add (kk * 6)).off + 1, none⟩) t3).trans Q1.out
        have q2 := (hb.cell (p := ⟨(ad.add (kk * 6)).block, (ad.add (kk * 6)).off + 2, none⟩) t3).trans Q2.out
        have q3 := (hb.cell (p := ⟨(ad.add (kk * 6)).block, (ad.add (kk * 6)).off + 3, none⟩) t3).trans Q3.out
        have q4 := (hb.cell (p := ⟨(ad.add (kk * 6)).block, (ad.add (kk * 6)).off + 4, none⟩) t3).trans Q4.out
        have q5 := (hb.cell (p := ⟨(ad.add (kk * 6)).block, (ad.add (kk * 6)).off + 5, none⟩) t3).trans Q5.out
        have HC := Aside0.mk (gatewardenref11_Right.calls k2 _ _ A3 c3 _ _ _ A6 c6 _ b2 w5 (Kd.C_below G3.out hb) L3.out (Kd.C_below G6.out hb) L6.out hb2)
        have HQ2 := Aside0.mk hq2
        clear hb hb2 hq2 HQ
        go_wp2_with fail
        refine HC.out.mono ?_
        rintro e w6 ⟨rfl, hb⟩
        have HB6 := Aside0.mk (below_step HB5.out hb)
        have t5 : (ad.add (kk * 6)).block < w5.heap.size := World.block_lt_of_cell? w5 _ q0
        have e0 := (hb.cell t5).trans q0
        have E0 := Aside0.mk e0
        clear hb HC q0 q1 q2 q3 q4 q5 e0
        cases b2 with
        | false =>
          go_wp2_with fail
          refine (awake15 _).mono ?_
          rintro e w9 ⟨rfl, hb⟩
          have HZ := Aside0.mk (below_step (below_step (below_step HA.out H4.out) HB6.out) hb)
          clear hb
          go_wp2_with fail
          rw [HT.out]
          exact ⟨rfl, HZ.out⟩
        | true =>
          have RT := Aside0.mk (HQ2.out (by trivial))
          have e0 := E0.out
          by_cases hz : y.f0 = 0
          · have hzd : (y.f0 == 0) = true := beq_iff_eq.2 hz
            rw [hz] at e0
            go_wp2_with fail
            refine (awake15 _).mono ?_
            rintro e w9 ⟨rfl, hb⟩
            have HZ := Aside0.mk (below_step (below_step (below_step HA.out H4.out) HB6.out) hb)
            clear hb
            go_wp2_with fail
            rw [HT.out]
            exact ⟨rfl, HZ.out⟩
          · have hzd : (y.f0 == 0) = false := beq_eq_false_iff_ne.2 hz
            go_wp2_with fail
            go_roundg (l0.length - (kk + 1))
            case measure => omega
            case rel =>
              refine ⟨kk + 1, by omega, by omega, by go_num, ⟨fun j h hj => ?_⟩, HB6⟩
              by_cases e : j = kk
              · subst e; rw [← HY.out]; exact ⟨SM.out, RT.out⟩
              · exact HR.out j h (by omega)
    · have hkl : kk = l0.length := by omega
      subst hkl
      have hltz : ¬ ((l0.length : Int) < (l0.length : Int)) := by omega
      have RA := Aside0.mk (show ∀ r ∈ l0, ∃ b, Told a1_0 a1_1 a1_2 l1_3 l1_4 l1_5 r b from fun r hr => by
        obtain ⟨j, hj, rfl⟩ := List.getElem_of_mem hr
        exact told_right FF.out _ (HR.out j hj hj).1 (HR.out j hj hj).2)
      have HQ := Aside0.mk (below_step H4.out HBr.out)
      clear HR HBr
      obtain ⟨k0, hk0, hk1⟩ : ∃ k0 : Nat, k0 < l0.length ∧ turn % (l0.length : Int) = (k0 : Int) := by
        have h2 := Int.emod_nonneg turn (show (l0.length : Int) ≠ 0 by omega)
        have h3 := Int.emod_lt_of_pos turn (show (0 : Int) < (l0.length : Int) by omega)
        exact ⟨(turn % (l0.length : Int)).toNat, by omega, by omega⟩
      have hn0 : ¬ (l0.length : Int) = 0 := by omega
      have hne : ((l0.length : Int) == 0) = false := beq_eq_false_iff_ne.2 hn0
      have hwt : IntKind.i64.wrap turn = turn := by rw [i64_w, w64 (by omega) (by omega)]
      have hwt' : wrap64 turn = turn := by rw [w64 (by omega) (by omega)]
      have htm : turn.tmod (l0.length : Int) = (k0 : Int) := by rw [Int.tmod_eq_emod_of_nonneg (by omega)]; exact hk1
      have hwk : wrap64 (k0 : Int) = (k0 : Int) := by rw [w64 (by omega) (by omega)]
      go_upto_region 9 with (fail)
      obtain ⟨rs, hrs, hlk⟩ := rawc_of_C (Kd.C_below HL.out (below_step HA.out HQ.out))
      have hrl := hlk.1
      obtain ⟨A2, hcut, hA2⟩ := cutE A0 rs c0 k0 (by omega) (by have := HC0.out; omega)
      obtain ⟨hto, hA3⟩ := toE A0 rs c0 k0 (by omega) (by have := HC0.out; omega)
      rw [hrl] at hcut hA2 hto hA3
      have hrs : Kd.C (Kd.rawc 6) wr A0 l0.length rs := hrs
      have HA2 := Aside0.mk hA2
      have HA3 := Aside0.mk hA3
      have HRS := Aside0.mk hrs
      have HLK := Aside0.mk hlk
      have HCL := HC0.out
      clear hA2 hA3 hrs hlk htm hwk hwt hwt' hne
      refine reg_start [1, 2, 5, 6, 3, 7, 0, 4, 8, 9] 10 (fun w' => Below wr.heap.size wr w') (by kernel_rfl) rfl (below_drew1 (Below.refl _ _)) (fun hHeld => ?_)
      generalize wr.drew = w2 at hHeld ⊢
      repeat (first | (refine reg_pure (v := ?_) (a' := ?_) rfl rfl rfl (by kernel_rfl) (fun _ _ _ h => h) (by rfl) ?_ ?_ ?_; rotate_left; (solve | (intro w'; go_simp; with_reducible rfl)); rotate_left; (solve | (simp only [Act.put, List.setIfInBounds_toArray, List.set_cons_zero, List.set_cons_succ, i64_w, i32_w]; rfl))) | (refine reg_skip (a' := ?_) rfl rfl rfl (by rfl) (by kernel_rfl) (fun _ _ _ h => h) ?_ ?_; rotate_left; (solve | (simp only [Act.put, List.setIfInBounds_toArray, List.set_cons_zero, List.set_cons_succ, i64_w, i32_w]; rfl))) | (refine reg_load (v := ?_) (a' := ?_) rfl rfl rfl (by kernel_rfl) (fun _ _ _ h => h) (by rfl) ?_ hHeld ?_ ?_; rotate_left; (solve | (intro w' hb'; obtain ⟨hc', hf'⟩ := bcellA hb'; clear hb'; go_simp; with_reducible rfl)); rotate_left; (solve | (simp only [Act.put, List.setIfInBounds_toArray, List.set_cons_zero, List.set_cons_succ, i64_w, i32_w]; rfl)); intro hHeld))
      refine reg_run (w1 := w2.alloc (.cells #[] 26)) (v := .slice (some ⟨w2.heap.size, 0, none⟩) 0 0) rfl rfl rfl (by kernel_rfl) (by rfl) (by go_simp) (below_step hHeld (below_alloc (Below.refl _ _) _)) (fun hH2 => ?_)
      rintro a' ha'
      simp only [Act.put, List.setIfInBounds_toArray, List.set_cons_zero, List.set_cons_succ, i64_w, i32_w] at ha'
      subst ha'
      have HE := Aside0.mk (Kd.R_lower (emptyE w2) hHeld.size)
      have HH := Aside0.mk hH2
      clear hHeld
      have hHeld := HH.out
      generalize w2.alloc (.cells #[] 26) = w3 at HE HH hHeld ⊢
      repeat (first | (refine reg_pure (v := ?_) (a' := ?_) rfl rfl rfl (by kernel_rfl) (fun _ _ _ h => h) (by rfl) ?_ ?_ ?_; rotate_left; (solve | (intro w'; go_simp; with_reducible rfl)); rotate_left; (solve | (simp only [Act.put, List.setIfInBounds_toArray, List.set_cons_zero, List.set_cons_succ, i64_w, i32_w]; rfl))) | (refine reg_skip (a' := ?_) rfl rfl rfl (by rfl) (by kernel_rfl) (fun _ _ _ h => h) ?_ ?_; rotate_left; (solve | (simp only [Act.put, List.setIfInBounds_toArray, List.set_cons_zero, List.set_cons_succ, i64_w, i32_w]; rfl))) | (refine reg_load (v := ?_) (a' := ?_) rfl rfl rfl (by kernel_rfl) (fun _ _ _ h => h) (by rfl) ?_ hHeld ?_ ?_; rotate_left; (solve | (intro w' hb'; obtain ⟨hc', hf'⟩ := bcellA hb'; clear hb'; go_simp; with_reducible rfl)); rotate_left; (solve | (simp only [Act.put, List.setIfInBounds_toArray, List.set_cons_zero, List.set_cons_succ, i64_w, i32_w]; rfl)); intro hHeld))
      refine reg_rows (Kd.rawc 6) ((Kd.rawc 6).K w3) wr wr.heap.size rfl rfl rfl (by kernel_rfl) (by rfl) (.tmp 59) (.tmp 62) 24 26 (.agg #[.int .i64 0, .int .i64 0, .slice none 0 0, .float .f64 0, .float .f64 0, .slice none 0 0]) 80 rfl Try.underlying24 infoE rfl (by decide) (by decide) (.slice (some ⟨w2.heap.size, 0, none⟩) 0 0) [] (rs.drop k0) A2 (l0.length - k0) (c0 - k0) (fun _ => True) (fun k => some k ≠ ((.slice (some ⟨w2.heap.size, 0, none⟩) 0 0) : Value).ownBlock) rfl rfl HE.out (HA2.out _ (Kd.C_below HRS.out HH.out)) (fun x cs h => rawc_KM h) (fun k hk => ⟨trivial, hk⟩) (fun _ _ => trivial) HH.out HH.out.size (by simp; omega) (fun _ h => h) ?_
      intro v1 w6 hR6 hB6 _ _ a' ha'
      simp only [Act.put, List.setIfInBounds_toArray, List.set_cons_zero, List.set_cons_succ, i64_w, i32_w] at ha'
      subst ha'
      have HR6 := Aside0.mk hR6
      have HB6 := Aside0.mk hB6
      have hHeld := hB6
      clear hR6 hB6
      refine reg_rows (Kd.rawc 6) ((Kd.rawc 6).K w6) wr wr.heap.size rfl rfl rfl (by kernel_rfl) (by rfl) (.tmp 63) (.tmp 66) 24 26 (.agg #[.int .i64 0, .int .i64 0, .slice none 0 0, .float .f64 0, .float .f64 0, .slice none 0 0]) 80 rfl Try.underlying24 infoE rfl (by decide) (by decide) v1 ([] ++ rs.drop k0) (rs.take k0) A0 k0 c0 (fun _ => True) (fun k => some k ≠ (v1 : Value).ownBlock) rfl rfl HR6.out (HA3.out _ (Kd.C_below HRS.out HB6.out)) (fun x cs h => rawc_KM h) (fun k hk => ⟨trivial, hk⟩) (fun _ _ => trivial) HB6.out HB6.out.size (by simp; omega) (fun _ h => h) ?_
      clear hHeld
      intro v2 w7 hR7 hB7 _ _ a' ha'
      simp only [Act.put, List.setIfInBounds_toArray, List.set_cons_zero, List.set_cons_succ, i64_w, i32_w] at ha'
      subst ha'
      rw [List.nil_append] at hR7
      obtain ⟨A5, c5, rfl, hc5, hC5⟩ := Kd.R_reads hR7
      have HLM := Aside0.mk (((HLK.out.drop k0).append (HLK.out.take k0)).below hB7)
      have hml : (rs.drop k0 ++ rs.take k0).length = (l0.drop k0 ++ l0.take k0).length := HLM.out.1
      rw [hml] at hC5 hc5
      have HM := Aside0.mk (C_of_rawc (d := k26) hC5 HLM.out)
      have HCM := Aside0.mk hc5
      have HB7 := Aside0.mk hB7
      have hmm : ∀ x, x ∈ l0.drop k0 ++ l0.take k0 ↔ x ∈ l0 := fun x => by
        rw [List.mem_append, or_comm, ← List.mem_append, List.take_append_drop]
      have hln : (l0.drop k0 ++ l0.take k0).length = l0.length := by rw [List.length_append, List.length_drop, List.length_take]; omega
      have T3 := Aside0.mk (told_turn (.inl rfl) (by omega) hmm hln RA.out)
      have T4 := Aside0.mk (told_turn (.inr rfl) (by omega) hmm hln RA.out)
      have hHeld := hB7
      clear hR7 hB7 hC5 hc5 hmm
      rw [hml]
      clear hml
      generalize l0.drop k0 ++ l0.take k0 = mm at HM HCM T3 T4 hln HLM ⊢
      clear hln
      repeat (first | (refine reg_pure (v := ?_) (a' := ?_) rfl rfl rfl (by kernel_rfl) (fun _ _ _ h => h) (by rfl) ?_ ?_ ?_; rotate_left; (solve | (intro w'; go_simp; with_reducible rfl)); rotate_left; (solve | (simp only [Act.put, List.setIfInBounds_toArray, List.set_cons_zero, List.set_cons_succ, i64_w, i32_w]; rfl))) | (refine reg_skip (a' := ?_) rfl rfl rfl (by rfl) (by kernel_rfl) (fun _ _ _ h => h) ?_ ?_; rotate_left; (solve | (simp only [Act.put, List.setIfInBounds_toArray, List.set_cons_zero, List.set_cons_succ, i64_w, i32_w]; rfl))) | (refine reg_load (v := ?_) (a' := ?_) rfl rfl rfl (by kernel_rfl) (fun _ _ _ h => h) (by rfl) ?_ hHeld ?_ ?_; rotate_left; (solve | (intro w' hb'; obtain ⟨hc', hf'⟩ := bcellA hb'; clear hb'; go_simp; with_reducible rfl)); rotate_left; (solve | (simp only [Act.put, List.setIfInBounds_toArray, List.set_cons_zero, List.set_cons_succ, i64_w, i32_w]; rfl)); intro hHeld))
      refine reg_done (by kernel_rfl) ?_
      clear hHeld hcut hto
      go_wp2_with fail
      go_loopg [10] 2 (fun gg s10 wq => ∃ kd : Int, (kd = 3 ∨ kd = 4 ∨ kd = 5) ∧ 5 - kd ≤ gg ∧ s10 = .int .i64 kd ∧ Aside0 (Below w7.heap.size w7 wq))
      case atStart => exact ⟨3, .inl rfl, by omega, rfl, ⟨Below.refl _ _⟩⟩
      case round =>
        obtain ⟨kd, hkd, hgg, rfl, HBq⟩ := hrel
        have HQ2 := Aside0.mk (below_step (below_step HQ.out HB7.out) HBq.out)
        rcases hkd with rfl | rfl | rfl
        · obtain ⟨b, ⟨K1, hK1⟩, K2, hK2⟩ := T3.out
          have HK1 := Aside0.mk hK1
          have HK2 := Aside0.mk hK2
          clear hK1 hK2
          have f0 : wr.cell? ⟨w.heap.size, 0, none⟩ = some (.int .i64 a1_0) := blk_cell (blk_below G1.out HQ2.out) 0
          have f1 : wr.cell? ⟨w.heap.size, 1, none⟩ = some (.int .i64 a1_1) := blk_cell (blk_below G1.out HQ2.out) 1
          have f2 : wr.cell? ⟨w.heap.size, 2, none⟩ = some (.int .i64 a1_2) := blk_cell (blk_below G1.out HQ2.out) 2
          have f3 : wr.cell? ⟨w.heap.size, 3, none⟩ = some (.slice A1_3 l1_3.length c1_3) := blk_cell (blk_below G1.out HQ2.out) 3
          have f4 : wr.cell? ⟨w.heap.size, 4, none⟩ = some (.slice A1_4 l1_4.length c1_4) := blk_cell (blk_below G1.out HQ2.out) 4
          have f5 : wr.cell? ⟨w.heap.size, 5, none⟩ = some (.slice A1_5 l1_5.length c1_5) := blk_cell (blk_below G1.out HQ2.out) 5
          have t1 := blk_lt (blk_below G1.out HQ2.out)
          have C2V := Aside0.mk (fun V (h : Below wr.heap.size wr V) => below_step (below_step HA.out HQ2.out) h)
          have C7V := Aside0.mk (fun V (h : Below wr.heap.size wr V) => below_step HBq.out h)
          go_upto_region 13 with (fail)
          cases b with
          | true =>
            refine reg_start [0, 1, 3, 5, 6, 8, 2, 7, 4, 9, 10] 11 (fun w' => Below wr.heap.size wr w') (by kernel_rfl) rfl (below_drew1 (Below.refl _ _)) (fun hHeld => ?_)
            generalize wr.drew = V1 at hHeld ⊢
            repeat (first | (refine reg_pure (v := ?_) (a' := ?_) rfl rfl rfl (by kernel_rfl) (fun _ _ _ h => h) (by rfl) ?_ ?_ ?_; rotate_left; (solve | (intro w'; go_simp; with_reducible rfl)); rotate_left; (solve | (simp only [Act.put, List.setIfInBounds_toArray, List.set_cons_zero, List.set_cons_succ, i64_w, i32_w]; rfl))) | (refine reg_skip (a' := ?_) rfl rfl rfl (by rfl) (by kernel_rfl) (fun _ _ _ h => h) ?_ ?_; rotate_left; (solve | (simp only [Act.put, List.setIfInBounds_toArray, List.set_cons_zero, List.set_cons_succ, i64_w, i32_w]; rfl))) | (refine reg_load (v := ?_) (a' := ?_) rfl rfl rfl (by kernel_rfl) (fun _ _ _ h => h) (by rfl) ?_ hHeld ?_ ?_; rotate_left; (solve | (intro w' hb'; obtain ⟨hc', hf'⟩ := bcellA hb'; clear hb'; go_simp; with_reducible rfl)); rotate_left; (solve | (simp only [Act.put, List.setIfInBounds_toArray, List.set_cons_zero, List.set_cons_succ, i64_w, i32_w]; rfl)); intro hHeld))
            refine reg_call rfl rfl rfl (by kernel_rfl) (by rfl) Try.func14 (by kernel_rfl) rfl #[.agg #[.int .i64 3, .int .i64 0, .slice none 0 0, .float .f64 0, .float .f64 0, .slice A0 l0.length c0], .agg #[.int .i64 a1_0, .int .i64 a1_1, .int .i64 a1_2, .slice A1_3 l1_3.length c1_3, .slice A1_4 l1_4.length c1_4, .slice A1_5 l1_5.length c1_5]] rfl (by (try simp only [List.map_toArray, List.map_cons, List.map_nil]); first | done | rfl) ?_
            refine (holds_at K1 3 0 none 0 [] 0 0 A0 c0 l0 a1_0 a1_1 a1_2 A1_3 c1_3 l1_3 A1_4 c1_4 l1_4 A1_5 c1_5 l1_5 true _ (Kd.C_nil _ _) (Nat.le_refl _) (Kd.C_below HL.out (C2V.out _ hHeld)) HC0.out (HF.out.on (C2V.out _ hHeld)) HK1.out).mono ?_
            rintro e w5 ⟨rfl, hb⟩
            refine ⟨_, rfl, below_step hHeld hb, fun hHeld => ?_⟩
            clear hb
            rintro a' ha'
            simp only [Act.put, List.setIfInBounds_toArray, List.set_cons_zero, List.set_cons_succ, i64_w, i32_w] at ha'
            subst ha'
            repeat (first | (refine reg_pure (v := ?_) (a' := ?_) rfl rfl rfl (by kernel_rfl) (fun _ _ _ h => h) (by rfl) ?_ ?_ ?_; rotate_left; (solve | (intro w'; go_simp; with_reducible rfl)); rotate_left; (solve | (simp only [Act.put, List.setIfInBounds_toArray, List.set_cons_zero, List.set_cons_succ, i64_w, i32_w]; rfl))) | (refine reg_skip (a' := ?_) rfl rfl rfl (by rfl) (by kernel_rfl) (fun _ _ _ h => h) ?_ ?_; rotate_left; (solve | (simp only [Act.put, List.setIfInBounds_toArray, List.set_cons_zero, List.set_cons_succ, i64_w, i32_w]; rfl))) | (refine reg_load (v := ?_) (a' := ?_) rfl rfl rfl (by kernel_rfl) (fun _ _ _ h => h) (by rfl) ?_ hHeld ?_ ?_; rotate_left; (solve | (intro w' hb'; obtain ⟨hc', hf'⟩ := bcellA hb'; clear hb'; go_simp; with_reducible rfl)); rotate_left; (solve | (simp only [Act.put, List.setIfInBounds_toArray, List.set_cons_zero, List.set_cons_succ, i64_w, i32_w]; rfl)); intro hHeld))
            refine reg_call rfl rfl rfl (by kernel_rfl) (by rfl) Try.func14 (by kernel_rfl) rfl #[.agg #[.int .i64 3, .int .i64 0, .slice none 0 0, .float .f64 0, .float .f64 0, .slice A5 mm.length c5], .agg #[.int .i64 a1_0, .int .i64 a1_1, .int .i64 a1_2, .slice A1_3 l1_3.length c1_3, .slice A1_4 l1_4.length c1_4, .slice A1_5 l1_5.length c1_5]] rfl (by (try simp only [List.map_toArray, List.map_cons, List.map_nil]); first | done | rfl) ?_
            refine (holds_at K2 3 0 none 0 [] 0 0 A5 c5 mm a1_0 a1_1 a1_2 A1_3 c1_3 l1_3 A1_4 c1_4 l1_4 A1_5 c1_5 l1_5 true _ (Kd.C_nil _ _) (Nat.le_refl _) (Kd.C_below HM.out (C7V.out _ hHeld)) HCM.out (HF.out.on (C2V.out _ hHeld)) HK2.out).mono ?_
            rintro e w5 ⟨rfl, hb⟩
            refine ⟨_, rfl, below_step hHeld hb, fun hHeld => ?_⟩
            clear hb
            rintro a' ha'
            simp only [Act.put, List.setIfInBounds_toArray, List.set_cons_zero, List.set_cons_succ, i64_w, i32_w] at ha'
            subst ha'
            repeat (first | (refine reg_pure (v := ?_) (a' := ?_) rfl rfl rfl (by kernel_rfl) (fun _ _ _ h => h) (by rfl) ?_ ?_ ?_; rotate_left; (solve | (intro w'; go_simp; with_reducible rfl)); rotate_left; (solve | (simp only [Act.put, List.setIfInBounds_toArray, List.set_cons_zero, List.set_cons_succ, i64_w, i32_w]; rfl))) | (refine reg_skip (a' := ?_) rfl rfl rfl (by rfl) (by kernel_rfl) (fun _ _ _ h => h) ?_ ?_; rotate_left; (solve | (simp only [Act.put, List.setIfInBounds_toArray, List.set_cons_zero, List.set_cons_succ, i64_w, i32_w]; rfl))) | (refine reg_load (v := ?_) (a' := ?_) rfl rfl rfl (by kernel_rfl) (fun _ _ _ h => h) (by rfl) ?_ hHeld ?_ ?_; rotate_left; (solve | (intro w' hb'; obtain ⟨hc', hf'⟩ := bcellA hb'; clear hb'; go_simp; with_reducible rfl)); rotate_left; (solve | (simp only [Act.put, List.setIfInBounds_toArray, List.set_cons_zero, List.set_cons_succ, i64_w, i32_w]; rfl)); intro hHeld))
            refine reg_done (by kernel_rfl) ?_
            have HD := Aside0.mk (C7V.out _ hHeld)
            go_wp2_with fail
            go_roundg 1
            case measure => omega
            case rel => exact ⟨_, by first | exact .inr (.inl rfl) | exact .inr (.inr rfl), by omega, rfl, HD⟩
          | false =>
            refine reg_start [0, 1, 3, 5, 6, 8, 2, 7, 4, 9, 10] 11 (fun w' => Below wr.heap.size wr w') (by kernel_rfl) rfl (below_drew1 (Below.refl _ _)) (fun hHeld => ?_)
            generalize wr.drew = V1 at hHeld ⊢
            repeat (first | (refine reg_pure (v := ?_) (a' := ?_) rfl rfl rfl (by kernel_rfl) (fun _ _ _ h => h) (by rfl) ?_ ?_ ?_; rotate_left; (solve | (intro w'; go_simp; with_reducible rfl)); rotate_left; (solve | (simp only [Act.put, List.setIfInBounds_toArray, List.set_cons_zero, List.set_cons_succ, i64_w, i32_w]; rfl))) | (refine reg_skip (a' := ?_) rfl rfl rfl (by rfl) (by kernel_rfl) (fun _ _ _ h => h) ?_ ?_; rotate_left; (solve | (simp only [Act.put, List.setIfInBounds_toArray, List.set_cons_zero, List.set_cons_succ, i64_w, i32_w]; rfl))) | (refine reg_load (v := ?_) (a' := ?_) rfl rfl rfl (by kernel_rfl) (fun _ _ _ h => h) (by rfl) ?_ hHeld ?_ ?_; rotate_left; (solve | (intro w' hb'; obtain ⟨hc', hf'⟩ := bcellA hb'; clear hb'; go_simp; with_reducible rfl)); rotate_left; (solve | (simp only [Act.put, List.setIfInBounds_toArray, List.set_cons_zero, List.set_cons_succ, i64_w, i32_w]; rfl)); intro hHeld))
            refine reg_call rfl rfl rfl (by kernel_rfl) (by rfl) Try.func14 (by kernel_rfl) rfl #[.agg #[.int .i64 3, .int .i64 0, .slice none 0 0, .float .f64 0, .float .f64 0, .slice A0 l0.length c0], .agg #[.int .i64 a1_0, .int .i64 a1_1, .int .i64 a1_2, .slice A1_3 l1_3.length c1_3, .slice A1_4 l1_4.length c1_4, .slice A1_5 l1_5.length c1_5]] rfl (by (try simp only [List.map_toArray, List.map_cons, List.map_nil]); first | done | rfl) ?_
            refine (holds_at K1 3 0 none 0 [] 0 0 A0 c0 l0 a1_0 a1_1 a1_2 A1_3 c1_3 l1_3 A1_4 c1_4 l1_4 A1_5 c1_5 l1_5 false _ (Kd.C_nil _ _) (Nat.le_refl _) (Kd.C_below HL.out (C2V.out _ hHeld)) HC0.out (HF.out.on (C2V.out _ hHeld)) HK1.out).mono ?_
            rintro e w5 ⟨rfl, hb⟩
            refine ⟨_, rfl, below_step hHeld hb, fun hHeld => ?_⟩
            clear hb
            rintro a' ha'
            simp only [Act.put, List.setIfInBounds_toArray, List.set_cons_zero, List.set_cons_succ, i64_w, i32_w] at ha'
            subst ha'
            repeat (first | (refine reg_pure (v := ?_) (a' := ?_) rfl rfl rfl (by kernel_rfl) (fun _ _ _ h => h) (by rfl) ?_ ?_ ?_; rotate_left; (solve | (intro w'; go_simp; with_reducible rfl)); rotate_left; (solve | (simp only [Act.put, List.setIfInBounds_toArray, List.set_cons_zero, List.set_cons_succ, i64_w, i32_w]; rfl))) | (refine reg_skip (a' := ?_) rfl rfl rfl (by rfl) (by kernel_rfl) (fun _ _ _ h => h) ?_ ?_; rotate_left; (solve | (simp only [Act.put, List.setIfInBounds_toArray, List.set_cons_zero, List.set_cons_succ, i64_w, i32_w]; rfl))) | (refine reg_load (v := ?_) (a' := ?_) rfl rfl rfl (by kernel_rfl) (fun _ _ _ h => h) (by rfl) ?_ hHeld ?_ ?_; rotate_left; (solve | (intro w' hb'; obtain ⟨hc', hf'⟩ := bcellA hb'; clear hb'; go_simp; with_reducible rfl)); rotate_left; (solve | (simp only [Act.put, List.setIfInBounds_toArray, List.set_cons_zero, List.set_cons_succ, i64_w, i32_w]; rfl)); intro hHeld))
            refine reg_call rfl rfl rfl (by kernel_rfl) (by rfl) Try.func14 (by kernel_rfl) rfl #[.agg #[.int .i64 3, .int .i64 0, .slice none 0 0, .float .f64 0, .float .f64 0, .slice A5 mm.length c5], .agg #[.int .i64 a1_0, .int .i64 a1_1, .int .i64 a1_2, .slice A1_3 l1_3.length c1_3, .slice A1_4 l1_4.length c1_4, .slice A1_5 l1_5.length c1_5]] rfl (by (try simp only [List.map_toArray, List.map_cons, List.map_nil]); first | done | rfl) ?_
            refine (holds_at K2 3 0 none 0 [] 0 0 A5 c5 mm a1_0 a1_1 a1_2 A1_3 c1_3 l1_3 A1_4 c1_4 l1_4 A1_5 c1_5 l1_5 false _ (Kd.C_nil _ _) (Nat.le_refl _) (Kd.C_below HM.out (C7V.out _ hHeld)) HCM.out (HF.out.on (C2V.out _ hHeld)) HK2.out).mono ?_
            rintro e w5 ⟨rfl, hb⟩
            refine ⟨_, rfl, below_step hHeld hb, fun hHeld => ?_⟩
            clear hb
            rintro a' ha'
            simp only [Act.put, List.setIfInBounds_toArray, List.set_cons_zero, List.set_cons_succ, i64_w, i32_w] at ha'
            subst ha'
            repeat (first | (refine reg_pure (v := ?_) (a' := ?_) rfl rfl rfl (by kernel_rfl) (fun _ _ _ h => h) (by rfl) ?_ ?_ ?_; rotate_left; (solve | (intro w'; go_simp; with_reducible rfl)); rotate_left; (solve | (simp only [Act.put, List.setIfInBounds_toArray, List.set_cons_zero, List.set_cons_succ, i64_w, i32_w]; rfl))) | (refine reg_skip (a' := ?_) rfl rfl rfl (by rfl) (by kernel_rfl) (fun _ _ _ h => h) ?_ ?_; rotate_left; (solve | (simp only [Act.put, List.setIfInBounds_toArray, List.set_cons_zero, List.set_cons_succ, i64_w, i32_w]; rfl))) | (refine reg_load (v := ?_) (a' := ?_) rfl rfl rfl (by kernel_rfl) (fun _ _ _ h => h) (by rfl) ?_ hHeld ?_ ?_; rotate_left; (solve | (intro w' hb'; obtain ⟨hc', hf'⟩ := bcellA hb'; clear hb'; go_simp; with_reducible rfl)); rotate_left; (solve | (simp only [Act.put, List.setIfInBounds_toArray, List.set_cons_zero, List.set_cons_succ, i64_w, i32_w]; rfl)); intro hHeld))
            refine reg_done (by kernel_rfl) ?_
            have HD := Aside0.mk (C7V.out _ hHeld)
            go_wp2_with fail
            go_roundg 1
            case measure => omega
            case rel => exact ⟨_, by first | exact .inr (.inl rfl) | exact .inr (.inr rfl), by omega, rfl, HD⟩
        · obtain ⟨b, ⟨K1, hK1⟩, K2, hK2⟩ := T4.out
          have HK1 := Aside0.mk hK1
          have HK2 := Aside0.mk hK2
          clear hK1 hK2
          have f0 : wr.cell? ⟨w.heap.size, 0, none⟩ = some (.int .i64 a1_0) := blk_cell (blk_below G1.out HQ2.out) 0
          have f1 : wr.cell? ⟨w.heap.size, 1, none⟩ = some (.int .i64 a1_1) := blk_cell (blk_below G1.out HQ2.out) 1
          have f2 : wr.cell? ⟨w.heap.size, 2, none⟩ = some (.int .i64 a1_2) := blk_cell (blk_below G1.out HQ2.out) 2
          have f3 : wr.cell? ⟨w.heap.size, 3, none⟩ = some (.slice A1_3 l1_3.length c1_3) := blk_cell (blk_below G1.out HQ2.out) 3
          have f4 : wr.cell? ⟨w.heap.size, 4, none⟩ = some (.slice A1_4 l1_4.length c1_4) := blk_cell (blk_below G1.out HQ2.out) 4
          have f5 : wr.cell? ⟨w.heap.size, 5, none⟩ = some (.slice A1_5 l1_5.length c1_5) := blk_cell (blk_below G1.out HQ2.out) 5
          have t1 := blk_lt (blk_below G1.out HQ2.out)
          have C2V := Aside0.mk (fun V (h : Below wr.heap.size wr V) => below_step (below_step HA.out HQ2.out) h)
          have C7V := Aside0.mk (fun V (h : Below wr.heap.size wr V) => below_step HBq.out h)
          go_upto_region 13 with (fail)
          cases b with
          | true =>
            refine reg_start [0, 1, 3, 5, 6, 8, 2, 7, 4, 9, 10] 11 (fun w' => Below wr.heap.size wr w') (by kernel_rfl) rfl (below_drew1 (Below.refl _ _)) (fun hHeld => ?_)
            generalize wr.drew = V1 at hHeld ⊢
            repeat (first | (refine reg_pure (v := ?_) (a' := ?_) rfl rfl rfl (by kernel_rfl) (fun _ _ _ h => h) (by rfl) ?_ ?_ ?_; rotate_left; (solve | (intro w'; go_simp; with_reducible rfl)); rotate_left; (solve | (simp only [Act.put, List.setIfInBounds_toArray, List.set_cons_zero, List.set_cons_succ, i64_w, i32_w]; rfl))) | (refine reg_skip (a' := ?_) rfl rfl rfl (by rfl) (by kernel_rfl) (fun _ _ _ h => h) ?_ ?_; rotate_left; (solve | (simp only [Act.put, List.setIfInBounds_toArray, List.set_cons_zero, List.set_cons_succ, i64_w, i32_w]; rfl))) | (refine reg_load (v := ?_) (a' := ?_) rfl rfl rfl (by kernel_rfl) (fun _ _ _ h => h) (by rfl) ?_ hHeld ?_ ?_; rotate_left; (solve | (intro w' hb'; obtain ⟨hc', hf'⟩ := bcellA hb'; clear hb'; go_simp; with_reducible rfl)); rotate_left; (solve | (simp only [Act.put, List.setIfInBounds_toArray, List.set_cons_zero, List.set_cons_succ, i64_w, i32_w]; rfl)); intro hHeld))
            refine reg_call rfl rfl rfl (by kernel_rfl) (by rfl) Try.func14 (by kernel_rfl) rfl #[.agg #[.int .i64 4, .int .i64 0, .slice none 0 0, .float .f64 0, .float .f64 0, .slice A0 l0.length c0], .agg #[.int .i64 a1_0, .int .i64 a1_1, .int .i64 a1_2, .slice A1_3 l1_3.length c1_3, .slice A1_4 l1_4.length c1_4, .slice A1_5 l1_5.length c1_5]] rfl (by (try simp only [List.map_toArray, List.map_cons, List.map_nil]); first | done | rfl) ?_
            refine (holds_at K1 4 0 none 0 [] 0 0 A0 c0 l0 a1_0 a1_1 a1_2 A1_3 c1_3 l1_3 A1_4 c1_4 l1_4 A1_5 c1_5 l1_5 true _ (Kd.C_nil _ _) (Nat.le_refl _) (Kd.C_below HL.out (C2V.out _ hHeld)) HC0.out (HF.out.on (C2V.out _ hHeld)) HK1.out).mono ?_
            rintro e w5 ⟨rfl, hb⟩
            refine ⟨_, rfl, below_step hHeld hb, fun hHeld => ?_⟩
            clear hb
            rintro a' ha'
            simp only [Act.put, List.setIfInBounds_toArray, List.set_cons_zero, List.set_cons_succ, i64_w, i32_w] at ha'
            subst ha'
            repeat (first | (refine reg_pure (v := ?_) (a' := ?_) rfl rfl rfl (by kernel_rfl) (fun _ _ _ h => h) (by rfl) ?_ ?_ ?_; rotate_left; (solve | (intro w'; go_simp; with_reducible rfl)); rotate_left; (solve | (simp only [Act.put, List.setIfInBounds_toArray, List.set_cons_zero, List.set_cons_succ, i64_w, i32_w]; rfl))) | (refine reg_skip (a' := ?_) rfl rfl rfl (by rfl) (by kernel_rfl) (fun _ _ _ h => h) ?_ ?_; rotate_left; (solve | (simp only [Act.put, List.setIfInBounds_toArray, List.set_cons_zero, List.set_cons_succ, i64_w, i32_w]; rfl))) | (refine reg_load (v := ?_) (a' := ?_) rfl rfl rfl (by kernel_rfl) (fun _ _ _ h => h) (by rfl) ?_ hHeld ?_ ?_; rotate_left; (solve | (intro w' hb'; obtain ⟨hc', hf'⟩ := bcellA hb'; clear hb'; go_simp; with_reducible rfl)); rotate_left; (solve | (simp only [Act.put, List.setIfInBounds_toArray, List.set_cons_zero, List.set_cons_succ, i64_w, i32_w]; rfl)); intro hHeld))
            refine reg_call rfl rfl rfl (by kernel_rfl) (by rfl) Try.func14 (by kernel_rfl) rfl #[.agg #[.int .i64 4, .int .i64 0, .slice none 0 0, .float .f64 0, .float .f64 0, .slice A5 mm.length c5], .agg #[.int .i64 a1_0, .int .i64 a1_1, .int .i64 a1_2, .slice A1_3 l1_3.length c1_3, .slice A1_4 l1_4.length c1_4, .slice A1_5 l1_5.length c1_5]] rfl (by (try simp only [List.map_toArray, List.map_cons, List.map_nil]); first | done | rfl) ?_
            refine (holds_at K2 4 0 none 0 [] 0 0 A5 c5 mm a1_0 a1_1 a1_2 A1_3 c1_3 l1_3 A1_4 c1_4 l1_4 A1_5 c1_5 l1_5 true _ (Kd.C_nil _ _) (Nat.le_refl _) (Kd.C_below HM.out (C7V.out _ hHeld)) HCM.out (HF.out.on (C2V.out _ hHeld)) HK2.out).mono ?_
            rintro e w5 ⟨rfl, hb⟩
            refine ⟨_, rfl, below_step hHeld hb, fun hHeld => ?_⟩
            clear hb
            rintro a' ha'
            simp only [Act.put, List.setIfInBounds_toArray, List.set_cons_zero, List.set_cons_succ, i64_w, i32_w] at ha'
            subst ha'
            repeat (first | (refine reg_pure (v := ?_) (a' := ?_) rfl rfl rfl (by kernel_rfl) (fun _ _ _ h => h) (by rfl) ?_ ?_ ?_; rotate_left; (solve | (intro w'; go_simp; with_reducible rfl)); rotate_left; (solve | (simp only [Act.put, List.setIfInBounds_toArray, List.set_cons_zero, List.set_cons_succ, i64_w, i32_w]; rfl))) | (refine reg_skip (a' := ?_) rfl rfl rfl (by rfl) (by kernel_rfl) (fun _ _ _ h => h) ?_ ?_; rotate_left; (solve | (simp only [Act.put, List.setIfInBounds_toArray, List.set_cons_zero, List.set_cons_succ, i64_w, i32_w]; rfl))) | (refine reg_load (v := ?_) (a' := ?_) rfl rfl rfl (by kernel_rfl) (fun _ _ _ h => h) (by rfl) ?_ hHeld ?_ ?_; rotate_left; (solve | (intro w' hb'; obtain ⟨hc', hf'⟩ := bcellA hb'; clear hb'; go_simp; with_reducible rfl)); rotate_left; (solve | (simp only [Act.put, List.setIfInBounds_toArray, List.set_cons_zero, List.set_cons_succ, i64_w, i32_w]; rfl)); intro hHeld))
            refine reg_done (by kernel_rfl) ?_
            have HD := Aside0.mk (C7V.out _ hHeld)
            go_wp2_with fail
            go_roundg 0
            case measure => omega
            case rel => exact ⟨_, by first | exact .inr (.inl rfl) | exact .inr (.inr rfl), by omega, rfl, HD⟩
          | false =>
            refine reg_start [0, 1, 3, 5, 6, 8, 2, 7, 4, 9, 10] 11 (fun w' => Below wr.heap.size wr w') (by kernel_rfl) rfl (below_drew1 (Below.refl _ _)) (fun hHeld => ?_)
            generalize wr.drew = V1 at hHeld ⊢
            repeat (first | (refine reg_pure (v := ?_) (a' := ?_) rfl rfl rfl (by kernel_rfl) (fun _ _ _ h => h) (by rfl) ?_ ?_ ?_; rotate_left; (solve | (intro w'; go_simp; with_reducible rfl)); rotate_left; (solve | (simp only [Act.put, List.setIfInBounds_toArray, List.set_cons_zero, List.set_cons_succ, i64_w, i32_w]; rfl))) | (refine reg_skip (a' := ?_) rfl rfl rfl (by rfl) (by kernel_rfl) (fun _ _ _ h => h) ?_ ?_; rotate_left; (solve | (simp only [Act.put, List.setIfInBounds_toArray, List.set_cons_zero, List.set_cons_succ, i64_w, i32_w]; rfl))) | (refine reg_load (v := ?_) (a' := ?_) rfl rfl rfl (by kernel_rfl) (fun _ _ _ h => h) (by rfl) ?_ hHeld ?_ ?_; rotate_left; (solve | (intro w' hb'; obtain ⟨hc', hf'⟩ := bcellA hb'; clear hb'; go_simp; with_reducible rfl)); rotate_left; (solve | (simp only [Act.put, List.setIfInBounds_toArray, List.set_cons_zero, List.set_cons_succ, i64_w, i32_w]; rfl)); intro hHeld))
            refine reg_call rfl rfl rfl (by kernel_rfl) (by rfl) Try.func14 (by kernel_rfl) rfl #[.agg #[.int .i64 4, .int .i64 0, .slice none 0 0, .float .f64 0, .float .f64 0, .slice A0 l0.length c0], .agg #[.int .i64 a1_0, .int .i64 a1_1, .int .i64 a1_2, .slice A1_3 l1_3.length c1_3, .slice A1_4 l1_4.length c1_4, .slice A1_5 l1_5.length c1_5]] rfl (by (try simp only [List.map_toArray, List.map_cons, List.map_nil]); first | done | rfl) ?_
            refine (holds_at K1 4 0 none 0 [] 0 0 A0 c0 l0 a1_0 a1_1 a1_2 A1_3 c1_3 l1_3 A1_4 c1_4 l1_4 A1_5 c1_5 l1_5 false _ (Kd.C_nil _ _) (Nat.le_refl _) (Kd.C_below HL.out (C2V.out _ hHeld)) HC0.out (HF.out.on (C2V.out _ hHeld)) HK1.out).mono ?_
            rintro e w5 ⟨rfl, hb⟩
            refine ⟨_, rfl, below_step hHeld hb, fun hHeld => ?_⟩
            clear hb
            rintro a' ha'
            simp only [Act.put, List.setIfInBounds_toArray, List.set_cons_zero, List.set_cons_succ, i64_w, i32_w] at ha'
            subst ha'
            repeat (first | (refine reg_pure (v := ?_) (a' := ?_) rfl rfl rfl (by kernel_rfl) (fun _ _ _ h => h) (by rfl) ?_ ?_ ?_; rotate_left; (solve | (intro w'; go_simp; with_reducible rfl)); rotate_left; (solve | (simp only [Act.put, List.setIfInBounds_toArray, List.set_cons_zero, List.set_cons_succ, i64_w, i32_w]; rfl))) | (refine reg_skip (a' := ?_) rfl rfl rfl (by rfl) (by kernel_rfl) (fun _ _ _ h => h) ?_ ?_; rotate_left; (solve | (simp only [Act.put, List.setIfInBounds_toArray, List.set_cons_zero, List.set_cons_succ, i64_w, i32_w]; rfl))) | (refine reg_load (v := ?_) (a' := ?_) rfl rfl rfl (by kernel_rfl) (fun _ _ _ h => h) (by rfl) ?_ hHeld ?_ ?_; rotate_left; (solve | (intro w' hb'; obtain ⟨hc', hf'⟩ := bcellA hb'; clear hb'; go_simp; with_reducible rfl)); rotate_left; (solve | (simp only [Act.put, List.setIfInBounds_toArray, List.set_cons_zero, List.set_cons_succ, i64_w, i32_w]; rfl)); intro hHeld))
            refine reg_call rfl rfl rfl (by kernel_rfl) (by rfl) Try.func14 (by kernel_rfl) rfl #[.agg #[.int .i64 4, .int .i64 0, .slice none 0 0, .float .f64 0, .float .f64 0, .slice A5 mm.length c5], .agg #[.int .i64 a1_0, .int .i64 a1_1, .int .i64 a1_2, .slice A1_3 l1_3.length c1_3, .slice A1_4 l1_4.length c1_4, .slice A1_5 l1_5.length c1_5]] rfl (by (try simp only [List.map_toArray, List.map_cons, List.map_nil]); first | done | rfl) ?_
            refine (holds_at K2 4 0 none 0 [] 0 0 A5 c5 mm a1_0 a1_1 a1_2 A1_3 c1_3 l1_3 A1_4 c1_4 l1_4 A1_5 c1_5 l1_5 false _ (Kd.C_nil _ _) (Nat.le_refl _) (Kd.C_below HM.out (C7V.out _ hHeld)) HCM.out (HF.out.on (C2V.out _ hHeld)) HK2.out).mono ?_
            rintro e w5 ⟨rfl, hb⟩
            refine ⟨_, rfl, below_step hHeld hb, fun hHeld => ?_⟩
            clear hb
            rintro a' ha'
            simp only [Act.put, List.setIfInBounds_toArray, List.set_cons_zero, List.set_cons_succ, i64_w, i32_w] at ha'
            subst ha'
            repeat (first | (refine reg_pure (v := ?_) (a' := ?_) rfl rfl rfl (by kernel_rfl) (fun _ _ _ h => h) (by rfl) ?_ ?_ ?_; rotate_left; (solve | (intro w'; go_simp; with_reducible rfl)); rotate_left; (solve | (simp only [Act.put, List.setIfInBounds_toArray, List.set_cons_zero, List.set_cons_succ, i64_w, i32_w]; rfl))) | (refine reg_skip (a' := ?_) rfl rfl rfl (by rfl) (by kernel_rfl) (fun _ _ _ h => h) ?_ ?_; rotate_left; (solve | (simp only [Act.put, List.setIfInBounds_toArray, List.set_cons_zero, List.set_cons_succ, i64_w, i32_w]; rfl))) | (refine reg_load (v := ?_) (a' := ?_) rfl rfl rfl (by kernel_rfl) (fun _ _ _ h => h) (by rfl) ?_ hHeld ?_ ?_; rotate_left; (solve | (intro w' hb'; obtain ⟨hc', hf'⟩ := bcellA hb'; clear hb'; go_simp; with_reducible rfl)); rotate_left; (solve | (simp only [Act.put, List.setIfInBounds_toArray, List.set_cons_zero, List.set_cons_succ, i64_w, i32_w]; rfl)); intro hHeld))
            refine reg_done (by kernel_rfl) ?_
            have HD := Aside0.mk (C7V.out _ hHeld)
            go_wp2_with fail
            go_roundg 0
            case measure => omega
            case rel => exact ⟨_, by first | exact .inr (.inl rfl) | exact .inr (.inr rfl), by omega, rfl, HD⟩
        · go_wp2_with fail
          refine (awake15 _).mono ?_
          rintro e w9 ⟨rfl, hb⟩
          have HZ := Aside0.mk (below_step (below_step HA.out HQ2.out) hb)
          clear hb
          go_wp2_with fail
          rw [HT.out]
          exact ⟨rfl, HZ.out⟩
end Go.Proofs.Ytppmcbkcohiodaa.PMeanTells
