-- written by a turned copy of the printer (wip/patchprint.py), put together by wip/asm.py, for this claim: no row of the kit's own printer
import Derived.Test.YtjllahglfpbemaaDoorLexAwake
import Derived.Test.YtjllahglfpbemaaDoorLexRefc
-- halved
namespace Go.Proofs.YtjllahglfpbemaaDoor.PGuardTells
open Go.RowKit Go.Proofs.YtjllahglfpbemaaDoorW.PrintWords Go.Proofs.YtjllahglfpbemaaDoorW.PrintLast Go.Proofs.YtjllahglfpbemaaDoorW.PrintMore
attribute [local go_sem] max2_int min2_int max_two min_two max_three min_three max_four min_four   -- for this text's walks alone
set_option linter.unusedVariables false
set_option linter.unusedSimpArgs false
attribute [local go_sem high] eqA28

/-! ### gatewardenlaw10_LexJoins: function 3 -/
mutual
def gatewardenlaw10_LexJoins.j0 : Nat → ByteArray → ByteArray → Bool → Option (Bool)
 | 0, _, _, _ => none
 | k + 1, x0, x1, x25 => if x25 = true then ((gatewardenlaw10_awake.f).bind fun t114 => (some t114)) else ((lex_Split.f x0).bind fun bt115 => ((lex_Split.f x1).bind fun bt120 => (if x0.size + 1 ≤ 9223372036854775807 then (if (x0 ++ (⟨#[10]⟩ : ByteArray)).size + x1.size ≤ 9223372036854775807 then ((lex_Split.f ((x0 ++ (⟨#[10]⟩ : ByteArray)) ++ x1)).bind fun bt125 => (gatewardenlaw10_LexJoins.l0 k x0 bt115.1 bt115.2.1 bt115.2.2 bt120.1 bt120.2.1 bt120.2.2 bt125.1 bt125.2.1 bt125.2.2 1 0)) else (none)) else (none))))
def gatewardenlaw10_LexJoins.l0 : Nat → ByteArray → List (S28) → Int → Int → List (S28) → Int → Int → List (S28) → Int → Int → Int → Int → Option (Bool)
 | 0, _, _, _, _, _, _, _, _, _, _, _, _ => none
 | k + 1, x0, x5, x6, x7, x8, x9, x10, x11, x12, x13, x14, x15 => if x15 < (x0.size : Int) then (if 0 ≤ x15 then (if (bt x0 x15) = 10 then (gatewardenlaw10_LexJoins.l0 k x0 x5 x6 x7 x8 x9 x10 x11 x12 x13 (wrap64 (x14 + 1)) (wrap64 (x15 + 1))) else (gatewardenlaw10_LexJoins.l0 k x0 x5 x6 x7 x8 x9 x10 x11 x12 x13 x14 (wrap64 (x15 + 1)))) else (none)) else (if x7 = 0 then (if x10 = 0 then (gatewardenlaw10_LexJoins.l1 k x5 x8 x11 x13 x14 0) else ((gatewardenlaw10_awake.f).bind fun t131 => (if t131 = true then (if x13 = x10 then (if x12 = (wrap64 (x9 + x14)) then (some ((x11.length : Int) == 0)) else (some false)) else (some false)) else (some false)))) else ((gatewardenlaw10_awake.f).bind fun t130 => (if t130 = true then (if x13 = x7 then (some (x12 == x6)) else (some false)) else (some false))))
def gatewardenlaw10_LexJoins.l1 : Nat → List (S28) → List (S28) → List (S28) → Int → Int → Int → Option (Bool)
 | 0, _, _, _, _, _, _ => none
 | k + 1, x5, x8, x11, x13, x14, x16 => if x16 < (x8.length : Int) then (if 0 ≤ x16 then ((some (([] : List (S28)) : List (S28))).bind fun y134 => (if y134.length + x5.length < 3518437208883 then ((some (y134 ++ x5 : List (S28))).bind fun y137 => ((some (([(⟨(rd_T28 x8 x16).f0, (rd_T28 x8 x16).f1, (rd_T28 x8 x16).f2, wrap64 (((rd_T28 x8 x16).f3) + x14)⟩ : S28)] : List (S28)) : List (S28))).bind fun y140 => (if y137.length + y140.length < 3518437208883 then (gatewardenlaw10_LexJoins.l1 k (y137 ++ y140) x8 x11 x13 x14 (wrap64 (x16 + 1))) else (none)))) else (none))) else (none)) else ((gatewardenlaw10_awake.f).bind fun t146 => (if t146 = true then (if x13 = 0 then ((gatewardenref10_Same.f k x5 x11).bind fun t147 => (some t147)) else (some false)) else (some false)))
end
def gatewardenlaw10_LexJoins.f (k : Nat) (a0 : ByteArray) (a1 : ByteArray) : Option (Bool) := if (a0.size : Int) > 1000 then (gatewardenlaw10_LexJoins.j0 k a0 a1 true) else (gatewardenlaw10_LexJoins.j0 k a0 a1 (decide ((a1.size : Int) > 1000)))
theorem gatewardenlaw10_LexJoins.mono_l : ∀ k, (∀ y0 y1 y2, LeO (gatewardenlaw10_LexJoins.j0 k y0 y1 y2) (gatewardenlaw10_LexJoins.j0 (k + 1) y0 y1 y2)) ∧ (∀ y0 y1 y2 y3 y4 y5 y6 y7 y8 y9 y10 y11, LeO (gatewardenlaw10_LexJoins.l0 k y0 y1 y2 y3 y4 y5 y6 y7 y8 y9 y10 y11) (gatewardenlaw10_LexJoins.l0 (k + 1) y0 y1 y2 y3 y4 y5 y6 y7 y8 y9 y10 y11)) ∧ (∀ y0 y1 y2 y3 y4 y5, LeO (gatewardenlaw10_LexJoins.l1 k y0 y1 y2 y3 y4 y5) (gatewardenlaw10_LexJoins.l1 (k + 1) y0 y1 y2 y3 y4 y5))
 | 0 => ⟨fun _ _ _ r h => by simp [gatewardenlaw10_LexJoins.j0] at h, fun _ _ _ _ _ _ _ _ _ _ _ _ r h => by simp [gatewardenlaw10_LexJoins.l0] at h, fun _ _ _ _ _ _ r h => by simp [gatewardenlaw10_LexJoins.l1] at h⟩
 | k + 1 => by
  obtain ⟨ih0, ih1, ih2⟩ := gatewardenlaw10_LexJoins.mono_l k
  refine ⟨?_, ?_, ?_⟩
  ·intro y0 y1 y2
   unfold gatewardenlaw10_LexJoins.j0
   repeat' first
   | (with_reducible exact ih0 _ _ _)
   | (with_reducible exact ih1 _ _ _ _ _ _ _ _ _ _ _ _)
   | (with_reducible exact ih2 _ _ _ _ _ _)
   | (with_reducible exact gatewardenref10_Same.mono _ _ _)
   | (with_reducible exact LeO.refl _)
   | (with_reducible exact LeO.none _)
   | (with_reducible refine LeO.ite ?_ ?_)
   | (with_reducible refine LeO.bind ?_ (fun _ => ?_))
   | exact ih0 _ _ _
   | exact ih1 _ _ _ _ _ _ _ _ _ _ _ _
   | exact ih2 _ _ _ _ _ _
   | exact gatewardenref10_Same.mono _ _ _
   | exact LeO.none _
   | refine LeO.ite ?_ ?_
   | refine LeO.bind ?_ (fun _ => ?_)
  ·intro y0 y1 y2 y3 y4 y5 y6 y7 y8 y9 y10 y11
   unfold gatewardenlaw10_LexJoins.l0
   repeat' first
   | (with_reducible exact ih0 _ _ _)
   | (with_reducible exact ih1 _ _ _ _ _ _ _ _ _ _ _ _)
   | (with_reducible exact ih2 _ _ _ _ _ _)
   | (with_reducible exact gatewardenref10_Same.mono _ _ _)
   | (with_reducible exact LeO.refl _)
   | (with_reducible exact LeO.none _)
   | (with_reducible refine LeO.ite ?_ ?_)
   | (with_reducible refine LeO.bind ?_ (fun _ => ?_))
   | exact ih0 _ _ _
   | exact ih1 _ _ _ _ _ _ _ _ _ _ _ _
   | exact ih2 _ _ _ _ _ _
   | exact gatewardenref10_Same.mono _ _ _
   | exact LeO.none _
   | refine LeO.ite ?_ ?_
   | refine LeO.bind ?_ (fun _ => ?_)
  ·intro y0 y1 y2 y3 y4 y5
   unfold gatewardenlaw10_LexJoins.l1
   repeat' first
   | (with_reducible exact ih0 _ _ _)
   | (with_reducible exact ih1 _ _ _ _ _ _ _ _ _ _ _ _)
   | (with_reducible exact ih2 _ _ _ _ _ _)
   | (with_reducible exact gatewardenref10_Same.mono _ _ _)
   | (with_reducible exact LeO.refl _)
   | (with_reducible exact LeO.none _)
   | (with_reducible refine LeO.ite ?_ ?_)
   | (with_reducible refine LeO.bind ?_ (fun _ => ?_))
   | exact ih0 _ _ _
   | exact ih1 _ _ _ _ _ _ _ _ _ _ _ _
   | exact ih2 _ _ _ _ _ _
   | exact gatewardenref10_Same.mono _ _ _
   | exact LeO.none _
   | refine LeO.ite ?_ ?_
   | refine LeO.bind ?_ (fun _ => ?_)
theorem gatewardenlaw10_LexJoins.mono : ∀ a0 a1 k, LeO (gatewardenlaw10_LexJoins.f k a0 a1) (gatewardenlaw10_LexJoins.f (k + 1) a0 a1) := by
 intro a0 a1 k
 obtain ⟨ih0, ih1, ih2⟩ := gatewardenlaw10_LexJoins.mono_l k
 unfold gatewardenlaw10_LexJoins.f
 repeat' first
   | (with_reducible exact ih0 _ _ _)
   | (with_reducible exact ih1 _ _ _ _ _ _ _ _ _ _ _ _)
   | (with_reducible exact ih2 _ _ _ _ _ _)
   | (with_reducible exact gatewardenref10_Same.mono _ _ _)
   | (with_reducible exact LeO.refl _)
   | (with_reducible exact LeO.none _)
   | (with_reducible refine LeO.ite ?_ ?_)
   | (with_reducible refine LeO.bind ?_ (fun _ => ?_))
   | exact ih0 _ _ _
   | exact ih1 _ _ _ _ _ _ _ _ _ _ _ _
   | exact ih2 _ _ _ _ _ _
   | exact gatewardenref10_Same.mono _ _ _
   | exact LeO.none _
   | refine LeO.ite ?_ ?_
   | refine LeO.bind ?_ (fun _ => ?_)
set_option maxHeartbeats 8000000 in
set_option maxRecDepth 100000 in
theorem gatewardenlaw10_LexJoins.calls (k : Nat) (a0 : ByteArray) (a1 : ByteArray) (r : Bool) (w : World) (h : gatewardenlaw10_LexJoins.f k a0 a1 = some r) :
  Calls Tryd.prog 3 #[.string a0, .string a1] w fun e w' => e = .returned (.bool r) ∧ Below w.heap.size w w' := by
 have hu28 := Tryd.underlying28
 have HB := Aside0.mk (Below.refl w.heap.size w)
 have H : (if (a0.size : Int) > 1000 then (gatewardenlaw10_LexJoins.j0 k a0 a1 true) else (gatewardenlaw10_LexJoins.j0 k a0 a1 (decide ((a1.size : Int) > 1000)))) = some r := h
 clear h
 have HC3 := Aside0.mk H
 clear H
 go_enter Tryd.func3, Tryd.ntmps3
 go_upto_region 1 with (fail)
 go_cut [25] (fun v25 wc => ∃ (kq : Nat) (x25_2 : Bool), v25 = .bool x25_2 ∧ Aside0 (gatewardenlaw10_LexJoins.j0 kq a0 a1 x25_2 = some r) ∧ Aside0 (kq ≤ k) ∧ Aside0 (Below w.heap.size w wc))
 case first =>
  have H := HC3.out
  clear HC3
  by_cases c4 : (a0.size : Int) > 1000
  ·rw [if_pos c4] at H
   have c4b0 : decide (1000 < (a0.size : Int)) = true := decide_eq_true c4
   have c4b1 : decide (1000 < a0.size) = true := decide_eq_true (by omega)
   clear c4
   (first | rw [c4b0] | (simp only [i64_w, i32_w]; rw [c4b0]) | skip)
   have H' := Aside0.mk H
   clear H
   go_wp2
   go_meet
   case rel => exact ⟨_, (true), (by first | rfl | (simp; done) | (simp [*]; done)), H', ⟨by first | omega | exact Nat.le_refl _⟩, ⟨by repeat (first | (with_reducible first | exact HB.out | apply below_alloc | apply pw_below_drewN | apply below_drew1) | exact HB.out)⟩⟩
  ·rw [if_neg c4] at H
   have c4b0 : decide (1000 < (a0.size : Int)) = false := decide_eq_false c4
   have c4b1 : decide (1000 < a0.size) = false := decide_eq_false (by omega)
   clear c4
   (first | rw [c4b0] | (simp only [i64_w, i32_w]; rw [c4b0]) | skip)
   have H' := Aside0.mk H
   clear H
   go_wp2
   go_meet
   case rel => exact ⟨_, (decide ((a1.size : Int) > 1000)), (by first | rfl | (simp; done) | (simp [*]; done)), H', ⟨by first | omega | exact Nat.le_refl _⟩, ⟨by repeat (first | (with_reducible first | exact HB.out | apply below_alloc | apply pw_below_drewN | apply below_drew1) | exact HB.out)⟩⟩
 case rest =>
  clear HC3
  try clear p2
  try clear c3
  try clear c4
  try clear c4b0
  try clear c4b1
  obtain ⟨kq, x25_2, rfl, HA, HJ2, HB⟩ := hcut
  cases kq with
  | zero => exact absurd HA.out (by simp [gatewardenlaw10_LexJoins.j0])
  | succ kj2 =>
   have H := HA.out
   clear HA
   simp only [gatewardenlaw10_LexJoins.j0] at H
   by_cases c5 : x25_2 = true
   ·subst c5
    have H1 : ((gatewardenlaw10_awake.f).bind fun t114 => (some t114)) = some r := by rw [if_pos rfl] at H; exact H
    clear H
    have H := H1
    clear H1
    replace H := Option.bind_eq_some_iff.mp H
    obtain ⟨t114, A60, H⟩ := H
    replace H : (some t114) = some r := H
    have A6 := Aside0.mk A60
    clear A60
    obtain rfl := Option.some.inj H
    go_wp2_with (first | ((with_reducible refine gate_callee (f := 11) rfl ?_); refine goesL_ (some 26) rfl rfl Tryd.func11 (by kernel_rfl) rfl #[] rfl (by (try simp only [List.map_toArray, List.map_cons, List.map_nil]); first | done | rfl | (simp only [List.length_drop, List.length_take]; rfl)) ?_; (with_reducible refine (gatewardenlaw10_awake.calls  t114 _ A6.out).mono ?_); rintro e w7 ⟨rfl, hb⟩; refine ⟨_, rfl, ?_⟩; have n0_ := Aside0.mk (below_step (by repeat (first | (with_reducible first | exact HB.out | apply below_alloc | apply pw_below_drewN | apply below_drew1) | exact HB.out)) hb); clear HB; have HB := n0_; clear n0_; (try clear hb); (try clear hb2); (try clear hk); (try clear hi)))
    go_ret
    exact ⟨by first | rfl | (simp [errW_none, errW_some] <;> rfl) | (simp [*, errW_none, errW_some] <;> rfl), by repeat (first | (with_reducible first | exact HB.out | apply below_alloc | apply pw_below_drewN | apply below_drew1) | exact HB.out)⟩
   ·replace c5 := Bool.eq_false_iff.mpr c5
    subst c5
    have H1 : ((lex_Split.f a0).bind fun bt115 => ((lex_Split.f a1).bind fun bt120 => (if a0.size + 1 ≤ 9223372036854775807 then (if (a0 ++ (⟨#[10]⟩ : ByteArray)).size + a1.size ≤ 9223372036854775807 then ((lex_Split.f ((a0 ++ (⟨#[10]⟩ : ByteArray)) ++ a1)).bind fun bt125 => (gatewardenlaw10_LexJoins.l0 kj2 a0 bt115.1 bt115.2.1 bt115.2.2 bt120.1 bt120.2.1 bt120.2.2 bt125.1 bt125.2.1 bt125.2.2 1 0)) else (none)) else (none)))) = some r := by rw [if_neg (show ¬ (false = true) by decide)] at H; exact H
    clear H
    have H := H1
    clear H1
    replace H := Option.bind_eq_some_iff.mp H
    obtain ⟨⟨t115, t116, t117⟩, A80, H⟩ := H
    replace H : ((lex_Split.f a1).bind fun bt120 => (if a0.size + 1 ≤ 9223372036854775807 then (if (a0 ++ (⟨#[10]⟩ : ByteArray)).size + a1.size ≤ 9223372036854775807 then ((lex_Split.f ((a0 ++ (⟨#[10]⟩ : ByteArray)) ++ a1)).bind fun bt125 => (gatewardenlaw10_LexJoins.l0 kj2 a0 t115 t116 t117 bt120.1 bt120.2.1 bt120.2.2 bt125.1 bt125.2.1 bt125.2.2 1 0)) else (none)) else (none))) = some r := H
    have A8 := Aside0.mk A80
    clear A80
    replace H := Option.bind_eq_some_iff.mp H
    obtain ⟨⟨t120, t121, t122⟩, A90, H⟩ := H
    replace H : (if a0.size + 1 ≤ 9223372036854775807 then (if (a0 ++ (⟨#[10]⟩ : ByteArray)).size + a1.size ≤ 9223372036854775807 then ((lex_Split.f ((a0 ++ (⟨#[10]⟩ : ByteArray)) ++ a1)).bind fun bt125 => (gatewardenlaw10_LexJoins.l0 kj2 a0 t115 t116 t117 t120 t121 t122 bt125.1 bt125.2.1 bt125.2.2 1 0)) else (none)) else (none)) = some r := H
    have A9 := Aside0.mk A90
    clear A90
    by_cases c10 : a0.size + 1 ≤ 9223372036854775807
    ·rw [if_pos c10] at H
     have c10b0 := eq_true c10
     have c10b1 : decide (a0.size + 1 ≤ 9223372036854775807) = true := decide_eq_true c10
     try have c10b2 : (9223372036854775807 < a0.size + 1) = False := eq_false (Nat.not_lt.2 c10)
     by_cases c11 : (a0 ++ (⟨#[10]⟩ : ByteArray)).size + a1.size ≤ 9223372036854775807
     ·rw [if_pos c11] at H
      have c11b0 := eq_true c11
      have c11b1 : decide ((a0 ++ (⟨#[10]⟩ : ByteArray)).size + a1.size ≤ 9223372036854775807) = true := decide_eq_true c11
      try have c11b2 : (9223372036854775807 < (a0 ++ (⟨#[10]⟩ : ByteArray)).size + a1.size) = False := eq_false (Nat.not_lt.2 c11)
      (try (have c11b3 := c11b2; simp only [ByteArray.size_append] at c11b3))
      (try (have c11b4 := c11b1; simp only [ByteArray.size_append] at c11b4))
      (try (have c11b5 := c11b0; simp only [ByteArray.size_append] at c11b5))
      replace H := Option.bind_eq_some_iff.mp H
      obtain ⟨⟨t125, t126, t127⟩, A120, H⟩ := H
      replace H : (gatewardenlaw10_LexJoins.l0 kj2 a0 t115 t116 t117 t120 t121 t122 t125 t126 t127 1 0) = some r := H
      have A12 := Aside0.mk A120
      clear A120
      have H' := Aside0.mk H
      clear H
      have tk0_ := True.intro
      go_wp2_with (first | (have t_ := tk0_; clear t_; ((with_reducible refine gate_callee (f := 12) rfl ?_); refine goesL_ (some 29) rfl rfl Tryd.func12 (by kernel_rfl) rfl #[.string a0] rfl (by (try simp only [List.map_toArray, List.map_cons, List.map_nil]); first | done | rfl | (simp only [List.length_drop, List.length_take]; rfl)) ?_; (with_reducible refine (lex_Split.calls a0 t115 t116 t117 _ A8.out).mono ?_); rintro e w13 ⟨v118, rfl, ho0, hb⟩; refine ⟨_, rfl, ?_⟩; have n0_ := Aside0.mk (Kd.R_lower ho0 (below_size (by repeat (first | (with_reducible first | exact HB.out | apply below_alloc | apply pw_below_drewN | apply below_drew1) | exact HB.out)))); have n1_ := Aside0.mk (below_step (by repeat (first | (with_reducible first | exact HB.out | apply below_alloc | apply pw_below_drewN | apply below_drew1) | exact HB.out)) hb); clear HB; have HO119 := n0_; have HB := n1_; clear n0_ n1_; (try clear hb); (try clear hb2); (try clear hk); (try clear hi); (try clear ho0)); clear tk0_; have tk1_ := True.intro) | (have t_ := tk1_; clear t_; ((with_reducible refine gate_callee (f := 12) rfl ?_); refine goesL_ (some 35) rfl rfl Tryd.func12 (by kernel_rfl) rfl #[.string a1] rfl (by (try simp only [List.map_toArray, List.map_cons, List.map_nil]); first | done | rfl | (simp only [List.length_drop, List.length_take]; rfl)) ?_; (with_reducible refine (lex_Split.calls a1 t120 t121 t122 _ A9.out).mono ?_); rintro e w14 ⟨v123, rfl, ho0, hb⟩; refine ⟨_, rfl, ?_⟩; have n0_ := Aside0.mk (Kd.R_elder' (by (with_reducible repeat (first | apply Kd.R_alloc | apply Kd.R_drewN | apply Kd.R_drew)); exact HO119.out) (Kd.R_base ho0) hb); have n1_ := Aside0.mk (Kd.R_lower (Kd.R_new' ho0 (Kd.R_lt (by (with_reducible repeat (first | apply Kd.R_alloc | apply Kd.R_drewN | apply Kd.R_drew)); exact HO119.out))) (below_size (by repeat (first | (with_reducible first | exact HB.out | apply below_alloc | apply pw_below_drewN | apply below_drew1) | exact HB.out)))); have n2_ := Aside0.mk (below_step (by repeat (first | (with_reducible first | exact HB.out | apply below_alloc | apply pw_below_drewN | apply below_drew1) | exact HB.out)) hb); clear HO119; clear HB; have HO119 := n0_; have HO124 := n1_; have HB := n2_; clear n0_ n1_ n2_; (try clear hb); (try clear hb2); (try clear hk); (try clear hi); (try clear ho0)); clear tk1_; have tk2_ := True.intro) | (have t_ := tk2_; clear t_; ((with_reducible refine gate_callee (f := 12) rfl ?_); refine goesL_ (some 44) rfl rfl Tryd.func12 (by kernel_rfl) rfl #[.string ((a0 ++ (⟨#[10]⟩ : ByteArray)) ++ a1)] rfl (by (try simp only [List.map_toArray, List.map_cons, List.map_nil]); first | done | rfl | (simp only [List.length_drop, List.length_take]; rfl)) ?_; (with_reducible refine (lex_Split.calls ((a0 ++ (⟨#[10]⟩ : ByteArray)) ++ a1) t125 t126 t127 _ A12.out).mono ?_); rintro e w15 ⟨v128, rfl, ho0, hb⟩; refine ⟨_, rfl, ?_⟩; have n0_ := Aside0.mk (Kd.R_elder' (by (with_reducible repeat (first | apply Kd.R_alloc | apply Kd.R_drewN | apply Kd.R_drew)); exact HO119.out) (Kd.R_base ho0) hb); have n1_ := Aside0.mk (Kd.R_elder' (by (with_reducible repeat (first | apply Kd.R_alloc | apply Kd.R_drewN | apply Kd.R_drew)); exact HO124.out) (Kd.R_base ho0) hb); have n2_ := Aside0.mk (Kd.R_lower (Kd.R_new' (Kd.R_new' ho0 (Kd.R_lt (by (with_reducible repeat (first | apply Kd.R_alloc | apply Kd.R_drewN | apply Kd.R_drew)); exact HO119.out))) (Kd.R_lt (by (with_reducible repeat (first | apply Kd.R_alloc | apply Kd.R_drewN | apply Kd.R_drew)); exact HO124.out))) (below_size (by repeat (first | (with_reducible first | exact HB.out | apply below_alloc | apply pw_below_drewN | apply below_drew1) | exact HB.out)))); have n3_ := Aside0.mk (below_step (by repeat (first | (with_reducible first | exact HB.out | apply below_alloc | apply pw_below_drewN | apply below_drew1) | exact HB.out)) hb); clear HO119; clear HO124; clear HB; have HO119 := n0_; have HO124 := n1_; have HO129 := n2_; have HB := n3_; clear n0_ n1_ n2_ n3_; (try clear hb); (try clear hb2); (try clear hk); (try clear hi); (try clear ho0)); clear tk2_; have tk3_ := True.intro))
      go_loopg [14, 15] kj2 (fun kq v14 v15 w' => ∃ (x14_2 : Int) (x15_2 : Int), v14 = .int .i64 x14_2 ∧ v15 = .int .i64 x15_2 ∧ Aside0 (gatewardenlaw10_LexJoins.l0 kq a0 t115 t116 t117 t120 t121 t122 t125 t126 t127 x14_2 x15_2 = some r) ∧ Aside0 (kq ≤ kj2) ∧ Aside0 (Kd.R k28 28 w' w.heap.size (fun k_ => some k_ ≠ (v123 : Value).ownBlock ∧ some k_ ≠ (v128 : Value).ownBlock) v118 t115) ∧ Aside0 (Kd.R k28 28 w' w.heap.size (fun k_ => some k_ ≠ (v118 : Value).ownBlock ∧ some k_ ≠ (v128 : Value).ownBlock) v123 t120) ∧ Aside0 (Kd.R k28 28 w' w.heap.size (fun k_ => some k_ ≠ (v118 : Value).ownBlock ∧ some k_ ≠ (v123 : Value).ownBlock) v128 t125) ∧ Aside0 (Below w.heap.size w w'))
      case atStart => exact ⟨(1), (0), (by first | rfl | (simp; done) | (simp [*]; done)), (by first | rfl | (simp; done) | (simp [*]; done)), H', ⟨Nat.le_refl _⟩, ⟨by (with_reducible repeat (first | apply Kd.R_alloc | apply Kd.R_drewN | apply Kd.R_drew)); exact Kd.R_mono HO119.out (fun _ hk => ⟨hk.1.2, hk.2⟩)⟩, ⟨by (with_reducible repeat (first | apply Kd.R_alloc | apply Kd.R_drewN | apply Kd.R_drew)); exact Kd.R_mono HO124.out (fun _ hk => ⟨hk.1.2, hk.2⟩)⟩, ⟨by (with_reducible repeat (first | apply Kd.R_alloc | apply Kd.R_drewN | apply Kd.R_drew)); exact Kd.R_mono HO129.out (fun _ hk => ⟨hk.1.2, hk.2⟩)⟩, ⟨by repeat (first | (with_reducible first | exact HB.out | apply below_alloc | apply pw_below_drewN | apply below_drew1) | exact HB.out)⟩⟩
      case round =>
       clear H'
       try clear c1
       try clear p2
       try clear c3
       try clear c4
       try clear c4b0
       try clear c4b1
       try clear c5
       try clear c10
       try clear c10b0
       try clear c10b1
       try clear c10b2
       try clear c11
       try clear c11b0
       try clear c11b1
       try clear c11b2
       try clear c12
       try clear p2
       obtain ⟨x14_2, x15_2, rfl, rfl, HA, HK2, HO_5, HO_8, HO_11, HB⟩ := hrel
       cases gk with
       | zero => exact absurd HA.out (by simp [gatewardenlaw10_LexJoins.l0])
       | succ k2 =>
        have H := HA.out
        clear HA
        simp only [gatewardenlaw10_LexJoins.l0] at H
        by_cases c16 : x15_2 < (a0.size : Int)
        ·rw [if_pos c16] at H
         have c16b0 : decide (x15_2 < (a0.size : Int)) = true := decide_eq_true c16
         clear c16
         by_cases c17 : 0 ≤ x15_2
         ·rw [if_pos c17] at H
          have c17b0 : decide (0 ≤ x15_2) = true := decide_eq_true c17
          clear c17
          by_cases c19 : (bt a0 x15_2) = 10
          ·rw [if_pos c19] at H
           have c19b0 : ((bt a0 x15_2) == 10) = true := beq_iff_eq.mpr c19
           have c19b1 : ((bt a0 x15_2) != 10) = false := bne_eq_false_iff_eq.mpr c19
           clear c19
           have H' := Aside0.mk H
           clear H
           have p18 : 0 ≤ (x15_2 : Int) := of_decide_eq_true (by first | (with_reducible assumption) | assumption)
           have q18 : x15_2 < (a0.size : Int) := of_decide_eq_true (by first | (with_reducible assumption) | assumption)
           have hx18 := bt_at a0 x15_2
           replace p18 := eq_true p18
           replace q18 := eq_true q18
           go_wp2
           go_roundg k2
           case measure => have := HJ2.out; have := HK2.out; omega
           case rel => exact ⟨(wrap64 (x14_2 + 1)), (wrap64 (x15_2 + 1)), (by first | rfl | (simp; done) | (simp [*]; done)), (by first | rfl | (simp; done) | (simp [*]; done)), H', ⟨by have := HJ2.out; have := HK2.out; omega⟩, ⟨by (with_reducible repeat (first | apply Kd.R_alloc | apply Kd.R_drewN | apply Kd.R_drew)); exact HO_5.out⟩, ⟨by (with_reducible repeat (first | apply Kd.R_alloc | apply Kd.R_drewN | apply Kd.R_drew)); exact HO_8.out⟩, ⟨by (with_reducible repeat (first | apply Kd.R_alloc | apply Kd.R_drewN | apply Kd.R_drew)); exact HO_11.out⟩, ⟨by repeat (first | (with_reducible first | exact HB.out | apply below_alloc | apply pw_below_drewN | apply below_drew1) | exact HB.out)⟩⟩
          ·rw [if_neg c19] at H
           have c19b0 : ((bt a0 x15_2) == 10) = false := beq_eq_false_iff_ne.mpr c19
           have c19b1 : ((bt a0 x15_2) != 10) = true := bne_iff_ne.mpr c19
           have H' := Aside0.mk H
           clear H
           have p18 : 0 ≤ (x15_2 : Int) := of_decide_eq_true (by first | (with_reducible assumption) | assumption)
           have q18 : x15_2 < (a0.size : Int) := of_decide_eq_true (by first | (with_reducible assumption) | assumption)
           have hx18 := bt_at a0 x15_2
           replace p18 := eq_true p18
           replace q18 := eq_true q18
           go_wp2
           go_roundg k2
           case measure => have := HJ2.out; have := HK2.out; omega
           case rel => exact ⟨(x14_2), (wrap64 (x15_2 + 1)), (by first | rfl | (simp; done) | (simp [*]; done)), (by first | rfl | (simp; done) | (simp [*]; done)), H', ⟨by have := HJ2.out; have := HK2.out; omega⟩, ⟨by (with_reducible repeat (first | apply Kd.R_alloc | apply Kd.R_drewN | apply Kd.R_drew)); exact HO_5.out⟩, ⟨by (with_reducible repeat (first | apply Kd.R_alloc | apply Kd.R_drewN | apply Kd.R_drew)); exact HO_8.out⟩, ⟨by (with_reducible repeat (first | apply Kd.R_alloc | apply Kd.R_drewN | apply Kd.R_drew)); exact HO_11.out⟩, ⟨by repeat (first | (with_reducible first | exact HB.out | apply below_alloc | apply pw_below_drewN | apply below_drew1) | exact HB.out)⟩⟩
         ·rw [if_neg c17] at H
          exact absurd H (by simp)
        ·rw [if_neg c16] at H
         have c16b0 : decide (x15_2 < (a0.size : Int)) = false := decide_eq_false c16
         clear c16
         by_cases c20 : t117 = 0
         ·rw [if_pos c20] at H
          have c20b0 : (t117 == 0) = true := beq_iff_eq.mpr c20
          have c20b1 : (t117 != 0) = false := bne_eq_false_iff_eq.mpr c20
          clear c20
          by_cases c21 : t122 = 0
          ·rw [if_pos c21] at H
           have c21b0 : (t122 == 0) = true := beq_iff_eq.mpr c21
           have c21b1 : (t122 != 0) = false := bne_eq_false_iff_eq.mpr c21
           clear c21
           have H' := Aside0.mk H
           clear H
           go_wp2
           go_loopg [5, 16] k2 (fun kq v5 v16 w' => ∃ (x5_3 : List (S28)) (x16_3 : Int), v16 = .int .i64 x16_3 ∧ Aside0 (gatewardenlaw10_LexJoins.l1 kq x5_3 t120 t125 t127 x14_2 x16_3 = some r) ∧ Aside0 (kq ≤ k2) ∧ Aside0 (Kd.R k28 28 w' w.heap.size (fun k_ => some k_ ≠ (v123 : Value).ownBlock ∧ some k_ ≠ (v128 : Value).ownBlock) v5 x5_3) ∧ Aside0 (Kd.R k28 28 w' w.heap.size (fun k_ => some k_ ≠ (v5 : Value).ownBlock ∧ some k_ ≠ (v128 : Value).ownBlock) v123 t120) ∧ Aside0 (Kd.R k28 28 w' w.heap.size (fun k_ => some k_ ≠ (v5 : Value).ownBlock ∧ some k_ ≠ (v123 : Value).ownBlock) v128 t125) ∧ Aside0 (Below w.heap.size w w'))
           case atStart => exact ⟨(t115), (0), (by first | rfl | (simp; done) | (simp [*]; done)), H', ⟨Nat.le_refl _⟩, ⟨by (with_reducible repeat (first | apply Kd.R_alloc | apply Kd.R_drewN | apply Kd.R_drew)); exact HO_5.out⟩, ⟨by (with_reducible repeat (first | apply Kd.R_alloc | apply Kd.R_drewN | apply Kd.R_drew)); exact HO_8.out⟩, ⟨by (with_reducible repeat (first | apply Kd.R_alloc | apply Kd.R_drewN | apply Kd.R_drew)); exact HO_11.out⟩, ⟨by repeat (first | (with_reducible first | exact HB.out | apply below_alloc | apply pw_below_drewN | apply below_drew1) | exact HB.out)⟩⟩
           case round =>
            clear H'
            try clear c1
            try clear p1
            try clear q1
            try clear hx1
            try clear c2
            try clear p2
            try clear c3
            try clear c4
            try clear c4b0
            try clear c4b1
            try clear c5
            try clear p6
            try clear c10
            try clear c10b0
            try clear c10b1
            try clear c10b2
            try clear c11
            try clear c11b0
            try clear c11b1
            try clear c11b2
            try clear c12
            try clear c16
            try clear c16b0
            try clear c17
            try clear c17b0
            try clear p18
            try clear q18
            try clear hx18
            try clear c19
            try clear c19b0
            try clear c19b1
            try clear c20
            try clear c20b0
            try clear c20b1
            try clear c21
            try clear c21b0
            try clear c21b1
            try clear p18
            try clear p2
            try clear q18
            obtain ⟨x5_3, x16_3, rfl, HA, HK3, HO_5, HO_8, HO_11, HB⟩ := hrel
            cases gk with
            | zero => exact absurd HA.out (by simp [gatewardenlaw10_LexJoins.l1])
            | succ k3 =>
             have H := HA.out
             clear HA
             simp only [gatewardenlaw10_LexJoins.l1] at H
             by_cases c22 : x16_3 < (t120.length : Int)
             ·rw [if_pos c22] at H
              have c22b0 : decide (x16_3 < (t120.length : Int)) = true := decide_eq_true c22
              clear c22
              by_cases c23 : 0 ≤ x16_3
              ·rw [if_pos c23] at H
               have c23b0 : decide (0 ≤ x16_3) = true := decide_eq_true c23
               clear c23
               obtain ⟨y134, hy134⟩ : ∃ y_ : List (S28), y_ = (([] : List (S28))) := ⟨_, rfl⟩
               replace H : (if y134.length + x5_3.length < 3518437208883 then ((some (y134 ++ x5_3 : List (S28))).bind fun y137 => ((some (([(⟨(rd_T28 t120 x16_3).f0, (rd_T28 t120 x16_3).f1, (rd_T28 t120 x16_3).f2, wrap64 (((rd_T28 t120 x16_3).f3) + x14_2)⟩ : S28)] : List (S28)) : List (S28))).bind fun y140 => (if y137.length + y140.length < 3518437208883 then (gatewardenlaw10_LexJoins.l1 k3 (y137 ++ y140) t120 t125 t127 x14_2 (wrap64 (x16_3 + 1))) else (none)))) else (none)) = some r := by first | (rw [hy134]; with_reducible exact H) | (have H2_ := (Option.bind_some _ _).symm.trans H; rw [hy134]; with_reducible exact H2_) | (have H2_ := (Option.bind_some _ _).symm.trans H; with_reducible exact H2_) | with_reducible exact H | (rw [hy134]; exact H) | exact H
               have Ny134 := Aside0.mk hy134
               clear hy134
               by_cases c24 : y134.length + x5_3.length < 3518437208883
               ·rw [if_pos c24] at H
                have LMc24 := Aside0.mk c24
                clear c24
                obtain ⟨y137, hy137⟩ : ∃ y_ : List (S28), y_ = (y134 ++ x5_3) := ⟨_, rfl⟩
                replace H : ((some (([(⟨(rd_T28 t120 x16_3).f0, (rd_T28 t120 x16_3).f1, (rd_T28 t120 x16_3).f2, wrap64 (((rd_T28 t120 x16_3).f3) + x14_2)⟩ : S28)] : List (S28)) : List (S28))).bind fun y140 => (if y137.length + y140.length < 3518437208883 then (gatewardenlaw10_LexJoins.l1 k3 (y137 ++ y140) t120 t125 t127 x14_2 (wrap64 (x16_3 + 1))) else (none))) = some r := by first | (rw [hy137]; with_reducible exact H) | (have H2_ := (Option.bind_some _ _).symm.trans H; rw [hy137]; with_reducible exact H2_) | (have H2_ := (Option.bind_some _ _).symm.trans H; with_reducible exact H2_) | with_reducible exact H | (rw [hy137]; exact H) | exact H
                have Ny137 := Aside0.mk hy137
                clear hy137
                obtain ⟨y140, hy140⟩ : ∃ y_ : List (S28), y_ = (([(⟨(rd_T28 t120 x16_3).f0, (rd_T28 t120 x16_3).f1, (rd_T28 t120 x16_3).f2, wrap64 (((rd_T28 t120 x16_3).f3) + x14_2)⟩ : S28)] : List (S28))) := ⟨_, rfl⟩
                replace H : (if y137.length + y140.length < 3518437208883 then (gatewardenlaw10_LexJoins.l1 k3 (y137 ++ y140) t120 t125 t127 x14_2 (wrap64 (x16_3 + 1))) else (none)) = some r := by first | (rw [hy140]; with_reducible exact H) | (have H2_ := (Option.bind_some _ _).symm.trans H; rw [hy140]; with_reducible exact H2_) | (have H2_ := (Option.bind_some _ _).symm.trans H; with_reducible exact H2_) | with_reducible exact H | (rw [hy140]; exact H) | exact H
                have Ny140 := Aside0.mk hy140
                clear hy140
                by_cases c25 : y137.length + y140.length < 3518437208883
                ·rw [if_pos c25] at H
                 have LMc25 := Aside0.mk c25
                 clear c25
                 obtain ⟨y143, hy143⟩ : ∃ y_ : List (S28), y_ = (y137 ++ y140) := ⟨_, rfl⟩
                 replace H : (gatewardenlaw10_LexJoins.l1 k3 y143 t120 t125 t127 x14_2 (wrap64 (x16_3 + 1))) = some r := by first | (rw [hy143]; with_reducible exact H) | (have H2_ := (Option.bind_some _ _).symm.trans H; rw [hy143]; with_reducible exact H2_) | (have H2_ := (Option.bind_some _ _).symm.trans H; with_reducible exact H2_) | with_reducible exact H | (rw [hy143]; exact H) | exact H
                 have Ny143 := Aside0.mk hy143
                 clear hy143
                 have H' := Aside0.mk H
                 clear H
                 obtain ⟨Ao26, co26, eo26⟩ := Kd.R_slice HO_8.out
                 subst eo26
                 have p132 : 0 ≤ (x16_3 : Int) := of_decide_eq_true (by first | (with_reducible assumption) | assumption)
                 have q132 : x16_3 < (t120.length : Int) := of_decide_eq_true (by first | (with_reducible assumption) | assumption)
                 obtain ⟨ad132, e132, hx132_0, hx132_1, hx132_2, hx132_3⟩ := at_T28 (Kd.R_reads' HO_8.out).2.2 x16_3 p132 q132
                 cases e132
                 replace p132 := eq_true p132
                 replace q132 := eq_true q132
                 try go_wp2_with (first | ((with_reducible refine gate_dst (N := 17) rfl ?_); (try (refine gate_guard (by rfl) ?_; dsimp only)); refine box_event ?hg (N := 17) ?hd (cs := #[.int .i64 0, .string (⟨#[]⟩ : ByteArray), .int .i64 0, .int .i64 0]) (t := 28) ?hr ?_; (case hd => rfl); (case hg => rfl); (case hr => first | (go_simp; done) | (go_simp; rfl)); intro gb133 hg w27 hbox hb; have n0_ := Aside0.mk (Kd.R_below (Kd.R_elderB (by (with_reducible repeat (first | apply Kd.R_alloc | apply Kd.R_drewN | apply Kd.R_drew)); exact HO_5.out) gb133 (Nat.le_of_eq hg.symm)) hb); have n1_ := Aside0.mk (Kd.R_below (Kd.R_elderB (by (with_reducible repeat (first | apply Kd.R_alloc | apply Kd.R_drewN | apply Kd.R_drew)); exact HO_8.out) gb133 (Nat.le_of_eq hg.symm)) hb); have n2_ := Aside0.mk (Kd.R_below (Kd.R_elderB (by (with_reducible repeat (first | apply Kd.R_alloc | apply Kd.R_drewN | apply Kd.R_drew)); exact HO_11.out) gb133 (Nat.le_of_eq hg.symm)) hb); have n3_ := Aside0.mk (below_step (by repeat (first | (with_reducible first | exact HB.out | apply below_alloc | apply pw_below_drewN | apply below_drew1) | exact HB.out)) hb); have n4_ := Aside0.mk (hbox); have n5_ := Aside0.mk ((by rw [hg]; exact (below_size (by repeat (first | (with_reducible first | exact HB.out | apply below_alloc | apply pw_below_drewN | apply below_drew1) | exact HB.out))) : w.heap.size ≤ gb133)); have n6_ := Aside0.mk ((by rw [hg]; exact (below_size (by repeat (first | (with_reducible first | exact HB.out | apply below_alloc | apply pw_below_drewN | apply below_drew1) | exact HB.out))) : w.heap.size ≤ gb133)); clear HO_5; clear HO_8; clear HO_11; clear HB; have HO_5 := n0_; have HO_8 := n1_; have HO_11 := n2_; have HB := n3_; have BK133 := n4_; have GW133 := n5_; have GE133 := n6_; clear n0_ n1_ n2_ n3_ n4_ n5_ n6_; clear hb hbox hg; have hcz28_0 : w27.cell? ⟨gb133, 0, none⟩ = some (.int .i64 0) := (blk_cell BK133.out 0).trans rfl; have hcz28_1 : w27.cell? ⟨gb133, 1, none⟩ = some (.string (⟨#[]⟩ : ByteArray)) := (blk_cell BK133.out 1).trans rfl; have hcz28_2 : w27.cell? ⟨gb133, 2, none⟩ = some (.int .i64 0) := (blk_cell BK133.out 2).trans rfl; have hcz28_3 : w27.cell? ⟨gb133, 3, none⟩ = some (.int .i64 0) := (blk_cell BK133.out 3).trans rfl; have hfz28_0 := blk_frozen BK133.out 0; have hfz28_1 := blk_frozen BK133.out 1; have hfz28_2 := blk_frozen BK133.out 2; have hfz28_3 := blk_frozen BK133.out 3; obtain ⟨Ao29, co29, eo29⟩ := Kd.R_slice HO_5.out; subst eo29))
                 have n0_ : Aside0 (Kd.R k28 28 (((((w27.setCell ⟨gb133, 0, none⟩ (.int .i64 ((rd_T28 t120 x16_3).f0))).setCell ⟨gb133, 1, none⟩ (.string ((rd_T28 t120 x16_3).f1))).setCell ⟨gb133, 2, none⟩ (.int .i64 ((rd_T28 t120 x16_3).f2))).setCell ⟨gb133, 3, none⟩ (.int .i64 ((rd_T28 t120 x16_3).f3))).setCell ⟨gb133, 3, none⟩ (.int .i64 (wrap64 (((rd_T28 t120 x16_3).f3) + x14_2)))) w.heap.size (fun k_ => some k_ ≠ (.slice (some ad132) t120.length co26 : Value).ownBlock ∧ some k_ ≠ (v128 : Value).ownBlock ∧ k_ ≠ gb133) (.slice Ao29 x5_3.length co29) x5_3) := ⟨by (with_reducible repeat (first | apply Kd.R_alloc | apply Kd.R_drewN | apply Kd.R_drew)); exact Kd.R_mono (Kd.R_far (p := ⟨gb133, 3, none⟩) (Kd.R_far (p := ⟨gb133, 3, none⟩) (Kd.R_far (p := ⟨gb133, 2, none⟩) (Kd.R_far (p := ⟨gb133, 1, none⟩) (Kd.R_far (p := ⟨gb133, 0, none⟩) (Kd.R_mono HO_5.out (fun k_ hk => (⟨hk, hk.2⟩ : _ ∧ k_ ≠ gb133))) (fun _ hk => hk.2) (.int .i64 ((rd_T28 t120 x16_3).f0))) (fun _ hk => hk.2) (.string ((rd_T28 t120 x16_3).f1))) (fun _ hk => hk.2) (.int .i64 ((rd_T28 t120 x16_3).f2))) (fun _ hk => hk.2) (.int .i64 ((rd_T28 t120 x16_3).f3))) (fun _ hk => hk.2) (.int .i64 (wrap64 (((rd_T28 t120 x16_3).f3) + x14_2)))) (fun _ hk => ⟨hk.1.1.1, ⟨hk.1.1.2, hk.1.2⟩⟩)⟩
                 have n1_ : Aside0 (Kd.R k28 28 (((((w27.setCell ⟨gb133, 0, none⟩ (.int .i64 ((rd_T28 t120 x16_3).f0))).setCell ⟨gb133, 1, none⟩ (.string ((rd_T28 t120 x16_3).f1))).setCell ⟨gb133, 2, none⟩ (.int .i64 ((rd_T28 t120 x16_3).f2))).setCell ⟨gb133, 3, none⟩ (.int .i64 ((rd_T28 t120 x16_3).f3))).setCell ⟨gb133, 3, none⟩ (.int .i64 (wrap64 (((rd_T28 t120 x16_3).f3) + x14_2)))) w.heap.size (fun k_ => some k_ ≠ (.slice Ao29 x5_3.length co29 : Value).ownBlock ∧ some k_ ≠ (v128 : Value).ownBlock ∧ k_ ≠ gb133) (.slice (some ad132) t120.length co26) t120) := ⟨by (with_reducible repeat (first | apply Kd.R_alloc | apply Kd.R_drewN | apply Kd.R_drew)); exact Kd.R_mono (Kd.R_far (p := ⟨gb133, 3, none⟩) (Kd.R_far (p := ⟨gb133, 3, none⟩) (Kd.R_far (p := ⟨gb133, 2, none⟩) (Kd.R_far (p := ⟨gb133, 1, none⟩) (Kd.R_far (p := ⟨gb133, 0, none⟩) (Kd.R_mono HO_8.out (fun k_ hk => (⟨hk, hk.2⟩ : _ ∧ k_ ≠ gb133))) (fun _ hk => hk.2) (.int .i64 ((rd_T28 t120 x16_3).f0))) (fun _ hk => hk.2) (.string ((rd_T28 t120 x16_3).f1))) (fun _ hk => hk.2) (.int .i64 ((rd_T28 t120 x16_3).f2))) (fun _ hk => hk.2) (.int .i64 ((rd_T28 t120 x16_3).f3))) (fun _ hk => hk.2) (.int .i64 (wrap64 (((rd_T28 t120 x16_3).f3) + x14_2)))) (fun _ hk => ⟨hk.1.1.1, ⟨hk.1.1.2, hk.1.2⟩⟩)⟩
                 have n2_ : Aside0 (Kd.R k28 28 (((((w27.setCell ⟨gb133, 0, none⟩ (.int .i64 ((rd_T28 t120 x16_3).f0))).setCell ⟨gb133, 1, none⟩ (.string ((rd_T28 t120 x16_3).f1))).setCell ⟨gb133, 2, none⟩ (.int .i64 ((rd_T28 t120 x16_3).f2))).setCell ⟨gb133, 3, none⟩ (.int .i64 ((rd_T28 t120 x16_3).f3))).setCell ⟨gb133, 3, none⟩ (.int .i64 (wrap64 (((rd_T28 t120 x16_3).f3) + x14_2)))) w.heap.size (fun k_ => some k_ ≠ (.slice Ao29 x5_3.length co29 : Value).ownBlock ∧ some k_ ≠ (.slice (some ad132) t120.length co26 : Value).ownBlock ∧ k_ ≠ gb133) v128 t125) := ⟨by (with_reducible repeat (first | apply Kd.R_alloc | apply Kd.R_drewN | apply Kd.R_drew)); exact Kd.R_mono (Kd.R_far (p := ⟨gb133, 3, none⟩) (Kd.R_far (p := ⟨gb133, 3, none⟩) (Kd.R_far (p := ⟨gb133, 2, none⟩) (Kd.R_far (p := ⟨gb133, 1, none⟩) (Kd.R_far (p := ⟨gb133, 0, none⟩) (Kd.R_mono HO_11.out (fun k_ hk => (⟨hk, hk.2⟩ : _ ∧ k_ ≠ gb133))) (fun _ hk => hk.2) (.int .i64 ((rd_T28 t120 x16_3).f0))) (fun _ hk => hk.2) (.string ((rd_T28 t120 x16_3).f1))) (fun _ hk => hk.2) (.int .i64 ((rd_T28 t120 x16_3).f2))) (fun _ hk => hk.2) (.int .i64 ((rd_T28 t120 x16_3).f3))) (fun _ hk => hk.2) (.int .i64 (wrap64 (((rd_T28 t120 x16_3).f3) + x14_2)))) (fun _ hk => ⟨hk.1.1.1, ⟨hk.1.1.2, hk.1.2⟩⟩)⟩
                 have n3_ : Aside0 ((((((w27.setCell ⟨gb133, 0, none⟩ (.int .i64 ((rd_T28 t120 x16_3).f0))).setCell ⟨gb133, 1, none⟩ (.string ((rd_T28 t120 x16_3).f1))).setCell ⟨gb133, 2, none⟩ (.int .i64 ((rd_T28 t120 x16_3).f2))).setCell ⟨gb133, 3, none⟩ (.int .i64 ((rd_T28 t120 x16_3).f3))).setCell ⟨gb133, 3, none⟩ (.int .i64 (wrap64 (((rd_T28 t120 x16_3).f3) + x14_2)))).heap[gb133]? = some (.cells #[.int .i64 ((rd_T28 t120 x16_3).f0), .string ((rd_T28 t120 x16_3).f1), .int .i64 ((rd_T28 t120 x16_3).f2), .int .i64 (wrap64 (((rd_T28 t120 x16_3).f3) + x14_2))] 28 (0, 0))) := ⟨by (with_reducible repeat (first | refine blk_drewN ?_ _ | refine blk_drew ?_ | refine blk_alloc ?_ _)); refine blk_put (cs := #[.int .i64 ((rd_T28 t120 x16_3).f0), .string ((rd_T28 t120 x16_3).f1), .int .i64 ((rd_T28 t120 x16_3).f2), .int .i64 ((rd_T28 t120 x16_3).f3)]) ?_ 3 _ rfl; (with_reducible repeat (first | refine blk_drewN ?_ _ | refine blk_drew ?_ | refine blk_alloc ?_ _)); refine blk_put (cs := #[.int .i64 ((rd_T28 t120 x16_3).f0), .string ((rd_T28 t120 x16_3).f1), .int .i64 ((rd_T28 t120 x16_3).f2), .int .i64 0]) ?_ 3 _ rfl; (with_reducible repeat (first | refine blk_drewN ?_ _ | refine blk_drew ?_ | refine blk_alloc ?_ _)); refine blk_put (cs := #[.int .i64 ((rd_T28 t120 x16_3).f0), .string ((rd_T28 t120 x16_3).f1), .int .i64 0, .int .i64 0]) ?_ 2 _ rfl; (with_reducible repeat (first | refine blk_drewN ?_ _ | refine blk_drew ?_ | refine blk_alloc ?_ _)); refine blk_put (cs := #[.int .i64 ((rd_T28 t120 x16_3).f0), .string (⟨#[]⟩ : ByteArray), .int .i64 0, .int .i64 0]) ?_ 1 _ rfl; (with_reducible repeat (first | refine blk_drewN ?_ _ | refine blk_drew ?_ | refine blk_alloc ?_ _)); refine blk_put (cs := #[.int .i64 0, .string (⟨#[]⟩ : ByteArray), .int .i64 0, .int .i64 0]) ?_ 0 _ rfl; (with_reducible repeat (first | refine blk_drewN ?_ _ | refine blk_drew ?_ | refine blk_alloc ?_ _)); exact BK133.out⟩
                 have n4_ : Aside0 (Below w.heap.size w (((((w27.setCell ⟨gb133, 0, none⟩ (.int .i64 ((rd_T28 t120 x16_3).f0))).setCell ⟨gb133, 1, none⟩ (.string ((rd_T28 t120 x16_3).f1))).setCell ⟨gb133, 2, none⟩ (.int .i64 ((rd_T28 t120 x16_3).f2))).setCell ⟨gb133, 3, none⟩ (.int .i64 ((rd_T28 t120 x16_3).f3))).setCell ⟨gb133, 3, none⟩ (.int .i64 (wrap64 (((rd_T28 t120 x16_3).f3) + x14_2))))) := ⟨by repeat (first | (with_reducible first | exact HB.out | apply below_alloc | apply pw_below_drewN | apply below_drew1 | refine below_set ?_ GE133.out) | exact HB.out)⟩
                 (try clear HO_5)
                 (try clear HO_8)
                 (try clear HO_11)
                 (try clear BK133)
                 (try clear HB)
                 generalize (((((w27.setCell ⟨gb133, 0, none⟩ (.int .i64 ((rd_T28 t120 x16_3).f0))).setCell ⟨gb133, 1, none⟩ (.string ((rd_T28 t120 x16_3).f1))).setCell ⟨gb133, 2, none⟩ (.int .i64 ((rd_T28 t120 x16_3).f2))).setCell ⟨gb133, 3, none⟩ (.int .i64 ((rd_T28 t120 x16_3).f3))).setCell ⟨gb133, 3, none⟩ (.int .i64 (wrap64 (((rd_T28 t120 x16_3).f3) + x14_2)))) = w30 at n0_ n1_ n2_ n3_ n4_ ⊢
                 have HO_5 := n0_
                 have HO_8 := n1_
                 have HO_11 := n2_
                 have BK133 := n3_
                 have HB := n4_
                 clear n0_ n1_ n2_ n3_ n4_
                 (try (rw [drewN_self w30]; generalize hq_ : World.drewN w30 _ = w30; have n0_ := Aside0.mk (Kd.R_at hq_ HO_5.out); have n1_ := Aside0.mk (Kd.R_at hq_ HO_8.out); have n2_ := Aside0.mk (Kd.R_at hq_ HO_11.out); have n3_ := Aside0.mk (blk_at hq_ BK133.out); have n4_ := Aside0.mk (below_at hq_ HB.out); clear hq_ HO_5 HO_8 HO_11 BK133 HB; have HO_5 := n0_; have HO_8 := n1_; have HO_11 := n2_; have BK133 := n3_; have HB := n4_; clear n0_ n1_ n2_ n3_ n4_))
                 have n0_ := Aside0.mk (Kd.R_drew HO_5.out)
                 have n1_ := Aside0.mk (Kd.R_drew HO_8.out)
                 have n2_ := Aside0.mk (Kd.R_drew HO_11.out)
                 have n3_ := Aside0.mk (blk_drew BK133.out)
                 have n4_ := Aside0.mk (below_drew1 HB.out)
                 clear HO_5
                 clear HO_8
                 clear HO_11
                 clear BK133
                 clear HB
                 have HO_5 := n0_
                 have HO_8 := n1_
                 have HO_11 := n2_
                 have BK133 := n3_
                 have HB := n4_
                 clear n0_ n1_ n2_ n3_ n4_
                 refine start_ (n := 7) (S := fun w' => w'.cell? ⟨gb133, 0, none⟩ = some (.int .i64 ((rd_T28 t120 x16_3).f0)) ∧ w'.cell? ⟨gb133, 1, none⟩ = some (.string ((rd_T28 t120 x16_3).f1)) ∧ w'.cell? ⟨gb133, 2, none⟩ = some (.int .i64 ((rd_T28 t120 x16_3).f2)) ∧ w'.cell? ⟨gb133, 3, none⟩ = some (.int .i64 (wrap64 (((rd_T28 t120 x16_3).f3) + x14_2)))) (ds := []) #[false, false, false, false, false, false, false] (by kernel_rfl) rfl rfl ⟨(blk_cell BK133.out 0).trans rfl, (blk_cell BK133.out 1).trans rfl, (blk_cell BK133.out 2).trans rfl, (blk_cell BK133.out 3).trans rfl⟩ (fun hHeld => ?_)
                 generalize w30.drew = w31 at HO_5 HO_8 HO_11 BK133 HB hHeld ⊢
                 refine pure_ (i := 1) (N := some 109) (v := ?_) (a' := ?_) #[false, true, false, false, false, false, false] rfl rfl (by kernel_rfl) (fun _ _ _ h => h) (Or.inl ⟨by rfl, ?_⟩) ?_ ?_
                 rotate_left
                 ·intro w'
                  go_simp
                  with_reducible rfl
                 rotate_left
                 ·simp only [Act.put, List.setIfInBounds_toArray, List.set_cons_zero, List.set_cons_succ, i64_w, i32_w]
                  rfl
                 refine take_ (i := 3) (N := some 111) (v := ?_) (a' := ?_) #[false, true, false, true, false, false, false] rfl rfl (by kernel_rfl) (fun _ _ _ h => h) (Or.inl ⟨by rfl, ?_⟩) hHeld ?_ ?_
                 rotate_left
                 ·rintro w' ⟨s0, s1, s2, s3⟩
                  go_simp
                  with_reducible rfl
                 rotate_left
                 ·simp only [Act.put, List.setIfInBounds_toArray, List.set_cons_zero, List.set_cons_succ, i64_w, i32_w]
                  rfl
                 refine join_ (σ := Value × Value × Value) 2 #[true, true, true, true, true, false, false] (fun s_ => [(108, s_.1), (110, s_.2.1), (112, s_.2.2)]) (fun s_ w' => (w'.cell? ⟨gb133, 0, none⟩ = some (.int .i64 ((rd_T28 t120 x16_3).f0)) ∧ w'.cell? ⟨gb133, 1, none⟩ = some (.string ((rd_T28 t120 x16_3).f1)) ∧ w'.cell? ⟨gb133, 2, none⟩ = some (.int .i64 ((rd_T28 t120 x16_3).f2)) ∧ w'.cell? ⟨gb133, 3, none⟩ = some (.int .i64 (wrap64 (((rd_T28 t120 x16_3).f3) + x14_2)))) ∧ (Kd.R k28 28 w' w.heap.size (fun k_ => some k_ ≠ (s_.2.2 : Value).ownBlock ∧ some k_ ≠ (v128 : Value).ownBlock ∧ some k_ ≠ (.slice Ao29 x5_3.length co29 : Value).ownBlock ∧ some k_ ≠ (.slice (some ad132) t120.length co26 : Value).ownBlock ∧ k_ ≠ gb133) s_.2.1 y137) ∧ (Kd.R k28 28 w' w.heap.size (fun k_ => some k_ ≠ (s_.2.1 : Value).ownBlock ∧ some k_ ≠ (v128 : Value).ownBlock ∧ some k_ ≠ (.slice Ao29 x5_3.length co29 : Value).ownBlock ∧ some k_ ≠ (.slice (some ad132) t120.length co26 : Value).ownBlock ∧ k_ ≠ gb133) s_.2.2 y140) ∧ (Kd.R k28 28 w' w.heap.size (fun k_ => some k_ ≠ (s_.2.1 : Value).ownBlock ∧ some k_ ≠ (s_.2.2 : Value).ownBlock ∧ some k_ ≠ (.slice Ao29 x5_3.length co29 : Value).ownBlock ∧ some k_ ≠ (.slice (some ad132) t120.length co26 : Value).ownBlock ∧ k_ ≠ gb133) v128 t125) ∧ (Kd.R k28 28 w' w.heap.size (fun k_ => some k_ ≠ (s_.2.1 : Value).ownBlock ∧ some k_ ≠ (s_.2.2 : Value).ownBlock ∧ some k_ ≠ (v128 : Value).ownBlock ∧ some k_ ≠ (.slice (some ad132) t120.length co26 : Value).ownBlock ∧ k_ ≠ gb133) (.slice Ao29 x5_3.length co29) x5_3) ∧ (Kd.R k28 28 w' w.heap.size (fun k_ => some k_ ≠ (s_.2.1 : Value).ownBlock ∧ some k_ ≠ (s_.2.2 : Value).ownBlock ∧ some k_ ≠ (v128 : Value).ownBlock ∧ some k_ ≠ (.slice Ao29 x5_3.length co29 : Value).ownBlock ∧ k_ ≠ gb133) (.slice (some ad132) t120.length co26) t120) ∧ (w'.heap[gb133]? = some (.cells #[.int .i64 ((rd_T28 t120 x16_3).f0), .string ((rd_T28 t120 x16_3).f1), .int .i64 ((rd_T28 t120 x16_3).f2), .int .i64 (wrap64 (((rd_T28 t120 x16_3).f3) + x14_2))] 28 (0, 0))) ∧ (Below w.heap.size w w')) ?_ ?_
                 rotate_left
                 ·intro hCont
                  refine two_ (i := 0) (j := 4) (Ni := some 108) (Nj := some 112) #[true, true, false, true, false, false, false] #[false, true, false, true, true, false, false] rfl rfl rfl rfl (by kernel_rfl) (by decide) (by decide) (fun K hK => ?_) (fun K hK => ?_)
                  ·skip
                   refine Kd.R_lit_step k28 _ 28 ?hg (N := 108) ?hd (xs := ([] : List (S28))) (inner := []) (ok := fun _ => True) (okp := fun _ => True) ?hr ?hp (fun _ hk => hk) trivial (Below.refl _ _) (Nat.le_refl _) (by simp) ?_; (case hd => rfl); (case hg => rfl); (case hr => first | (go_simp; done) | (go_simp; rfl)); (case hp => exact (Reps.none _ _))
                   intro v135 w32 ho33 hb hg_ hnew_
                   clear hg_ hnew_
                   (first | rw [← Ny134.out] at ho33 | (simp only [Int.reduceToNat] at ho33; rw [← Ny134.out] at ho33))
                   have n0_ := Aside0.mk (Kd.R_elder' (by (with_reducible repeat (first | apply Kd.R_alloc | apply Kd.R_drewN | apply Kd.R_drew)); exact HO_5.out) (Kd.R_base ho33) hb)
                   have n1_ := Aside0.mk (Kd.R_elder' (by (with_reducible repeat (first | apply Kd.R_alloc | apply Kd.R_drewN | apply Kd.R_drew)); exact HO_8.out) (Kd.R_base ho33) hb)
                   have n2_ := Aside0.mk (Kd.R_elder' (by (with_reducible repeat (first | apply Kd.R_alloc | apply Kd.R_drewN | apply Kd.R_drew)); exact HO_11.out) (Kd.R_base ho33) hb)
                   have n3_ := Aside0.mk (Kd.R_lower (Kd.R_newB (Kd.R_new' (Kd.R_new' (Kd.R_new' ho33 (Kd.R_lt (by (with_reducible repeat (first | apply Kd.R_alloc | apply Kd.R_drewN | apply Kd.R_drew)); exact HO_5.out))) (Kd.R_lt (by (with_reducible repeat (first | apply Kd.R_alloc | apply Kd.R_drewN | apply Kd.R_drew)); exact HO_8.out))) (Kd.R_lt (by (with_reducible repeat (first | apply Kd.R_alloc | apply Kd.R_drewN | apply Kd.R_drew)); exact HO_11.out))) (g := gb133) (o := .cells #[.int .i64 ((rd_T28 t120 x16_3).f0), .string ((rd_T28 t120 x16_3).f1), .int .i64 ((rd_T28 t120 x16_3).f2), .int .i64 (wrap64 (((rd_T28 t120 x16_3).f3) + x14_2))] 28 (0, 0)) (by (with_reducible repeat (first | refine blk_drewN ?_ _ | refine blk_drew ?_ | refine blk_alloc ?_ _)); exact BK133.out)) (below_size (by repeat (first | (with_reducible first | exact HB.out | apply below_alloc | apply pw_below_drewN | apply below_drew1 | refine below_set ?_ GE133.out) | exact HB.out))))
                   have n4_ := Aside0.mk (blk_below (g := gb133) (o := .cells #[.int .i64 ((rd_T28 t120 x16_3).f0), .string ((rd_T28 t120 x16_3).f1), .int .i64 ((rd_T28 t120 x16_3).f2), .int .i64 (wrap64 (((rd_T28 t120 x16_3).f3) + x14_2))] 28 (0, 0)) (by (with_reducible repeat (first | refine blk_drewN ?_ _ | refine blk_drew ?_ | refine blk_alloc ?_ _)); exact BK133.out) hb)
                   have n5_ := Aside0.mk (below_step (by repeat (first | (with_reducible first | exact HB.out | apply below_alloc | apply pw_below_drewN | apply below_drew1 | refine below_set ?_ GE133.out) | exact HB.out)) hb)
                   clear HO_5
                   clear HO_8
                   clear HO_11
                   clear BK133
                   clear HB
                   have HO_5 := n0_
                   have HO_8 := n1_
                   have HO_11 := n2_
                   have HO136 := n3_
                   have BK133 := n4_
                   have HB := n5_
                   clear n0_ n1_ n2_ n3_ n4_ n5_
                   clear hb ho33
                   refine hK.out _ _ ⟨(blk_cell BK133.out 0).trans rfl, (blk_cell BK133.out 1).trans rfl, (blk_cell BK133.out 2).trans rfl, (blk_cell BK133.out 3).trans rfl⟩ (fun hHeld => ?_)
                   clear hK K
                   refine norm_ (a' := ?_) ?_ ?_
                   rotate_left
                   ·show Act.put _ (some 108) _ = _
                    simp only [Act.put, List.setIfInBounds_toArray, List.set_cons_zero, List.set_cons_succ, i64_w, i32_w]
                    rfl
                   refine two_ (i := 2) (j := 4) (Ni := some 110) (Nj := some 112) #[true, true, true, true, false, false, false] #[true, true, false, true, true, false, false] rfl rfl rfl rfl (by kernel_rfl) (by decide) (by decide) (fun K hK => ?_) (fun K hK => ?_)
                   ·skip
                    refine Kd.R_append_rows_step k28 (w0 := w) w.heap.size (by rfl) (.tmp 108) (.tmp 109) 23 28 (.agg #[(.int .i64 0), (.string ⟨#[]⟩), (.int .i64 0), (.int .i64 0)]) 40 rfl Tryd.underlying23 info28 rfl (by decide) (by omega) v135 y134 x5_3 _ _ _ (fun k_ => some k_ ≠ (.slice Ao29 x5_3.length co29 : Value).ownBlock ∧ some k_ ≠ (.slice (some ad132) t120.length co26 : Value).ownBlock ∧ some k_ ≠ (v128 : Value).ownBlock ∧ k_ ≠ gb133) (fun _ => False) rfl rfl ?aO ?aR (fun _ _ h => h) (fun _ h => h.elim) ?aF ?aB ?aS ?aL ?_
                    (case aR => repeat (first | exact (Kd.R_reads' HO_5.out).2.2 | (with_reducible refine Kd.C_alloc ?_ _) | (with_reducible refine Kd.C_drewN ?_ _) | (with_reducible refine Kd.C_drew ?_)))
                    (case aB => exact (by repeat (first | (with_reducible first | exact HB.out | apply below_alloc | apply pw_below_drewN | apply below_drew1 | refine below_set ?_ GE133.out) | exact HB.out)))
                    (case aF => exact (fun k_ hk => ⟨Kd.fresh' (Kd.R_lt (by (with_reducible repeat (first | apply Kd.R_alloc | apply Kd.R_drewN | apply Kd.R_drew)); exact HO_5.out)) k_ hk, Kd.fresh' (Kd.R_lt (by (with_reducible repeat (first | apply Kd.R_alloc | apply Kd.R_drewN | apply Kd.R_drew)); exact HO_8.out)) k_ hk, Kd.fresh' (Kd.R_lt (by (with_reducible repeat (first | apply Kd.R_alloc | apply Kd.R_drewN | apply Kd.R_drew)); exact HO_11.out)) k_ hk, Kd.freshB (g := gb133) (o := .cells #[.int .i64 ((rd_T28 t120 x16_3).f0), .string ((rd_T28 t120 x16_3).f1), .int .i64 ((rd_T28 t120 x16_3).f2), .int .i64 (wrap64 (((rd_T28 t120 x16_3).f3) + x14_2))] 28 (0, 0)) (by (with_reducible repeat (first | refine blk_drewN ?_ _ | refine blk_drew ?_ | refine blk_alloc ?_ _)); exact BK133.out) k_ hk⟩))
                    (case aO => exact (by (with_reducible repeat (first | apply Kd.R_alloc | apply Kd.R_drewN | apply Kd.R_drew)); exact Kd.R_mono HO136.out (fun _ hk => ⟨hk.1.1.1.2, ⟨hk.1.1.2, ⟨hk.1.2, hk.2⟩⟩⟩)))
                    (case aS => exact (below_size (by repeat (first | (with_reducible first | exact HB.out | apply below_alloc | apply pw_below_drewN | apply below_drew1 | refine below_set ?_ GE133.out) | exact HB.out))))
                    (case aL => have := LMc24.out; omega)
                    intro v138 w34 ho hb hg hat
                    rw [← Ny137.out] at ho
                    have n0_ := Aside0.mk (Kd.R_after (ok := (fun k_ => some k_ ≠ (.slice (some ad132) t120.length co26 : Value).ownBlock ∧ some k_ ≠ (v128 : Value).ownBlock ∧ k_ ≠ gb133)) (by (with_reducible repeat (first | apply Kd.R_alloc | apply Kd.R_drewN | apply Kd.R_drew)); exact HO_5.out) hg hat)
                    have n1_ := Aside0.mk (Kd.R_after (ok := (fun k_ => some k_ ≠ (.slice Ao29 x5_3.length co29 : Value).ownBlock ∧ some k_ ≠ (v128 : Value).ownBlock ∧ k_ ≠ gb133)) (by (with_reducible repeat (first | apply Kd.R_alloc | apply Kd.R_drewN | apply Kd.R_drew)); exact HO_8.out) hg hat)
                    have n2_ := Aside0.mk (Kd.R_after (ok := (fun k_ => some k_ ≠ (.slice Ao29 x5_3.length co29 : Value).ownBlock ∧ some k_ ≠ (.slice (some ad132) t120.length co26 : Value).ownBlock ∧ k_ ≠ gb133)) (by (with_reducible repeat (first | apply Kd.R_alloc | apply Kd.R_drewN | apply Kd.R_drew)); exact HO_11.out) hg hat)
                    have n3_ := Aside0.mk (blk_grown (g := gb133) (o := .cells #[.int .i64 ((rd_T28 t120 x16_3).f0), .string ((rd_T28 t120 x16_3).f1), .int .i64 ((rd_T28 t120 x16_3).f2), .int .i64 (wrap64 (((rd_T28 t120 x16_3).f3) + x14_2))] 28 (0, 0)) (by (with_reducible repeat (first | refine blk_drewN ?_ _ | refine blk_drew ?_ | refine blk_alloc ?_ _)); exact BK133.out) hg (Kd.R_away HO136.out (fun _ hk => hk.2)))
                    have n4_ := Aside0.mk (hb)
                    have n5_ := Aside0.mk (ho)
                    clear HO_5
                    clear HO_8
                    clear HO_11
                    clear BK133
                    clear HB
                    clear HO136
                    have HO_5 := n0_
                    have HO_8 := n1_
                    have HO_11 := n2_
                    have BK133 := n3_
                    have HB := n4_
                    have HO139 := n5_
                    clear n0_ n1_ n2_ n3_ n4_ n5_
                    clear ho hb hg hat
                    refine hK.out _ _ ⟨(blk_cell BK133.out 0).trans rfl, (blk_cell BK133.out 1).trans rfl, (blk_cell BK133.out 2).trans rfl, (blk_cell BK133.out 3).trans rfl⟩ (fun hHeld => ?_)
                    clear hK K
                    refine norm_ (a' := ?_) ?_ ?_
                    rotate_left
                    ·show Act.put _ (some 110) _ = _
                     simp only [Act.put, List.setIfInBounds_toArray, List.set_cons_zero, List.set_cons_succ, i64_w, i32_w]
                     rfl
                    refine one_ (i := 4) (N := some 112) #[true, true, true, true, true, false, false] rfl rfl (by kernel_rfl) (by decide) (fun K hK => ?_)
                    refine Kd.R_lit_step k28 _ 28 ?hg (N := 112) ?hd (xs := ([(⟨(rd_T28 t120 x16_3).f0, (rd_T28 t120 x16_3).f1, (rd_T28 t120 x16_3).f2, wrap64 (((rd_T28 t120 x16_3).f3) + x14_2)⟩ : S28)] : List (S28))) (inner := [.int .i64 ((rd_T28 t120 x16_3).f0), .string ((rd_T28 t120 x16_3).f1), .int .i64 ((rd_T28 t120 x16_3).f2), .int .i64 (wrap64 (((rd_T28 t120 x16_3).f3) + x14_2))]) (ok := fun _ => True) (okp := fun _ => True) ?hr ?hp (fun _ hk => hk) trivial (Below.refl _ _) (Nat.le_refl _) (by simp) ?_; (case hd => rfl); (case hg => rfl); (case hr => first | (go_simp; done) | (go_simp; rfl)); (case hp => exact (Reps.c4 (show Kd.M k28 _ _ _ (⟨(rd_T28 t120 x16_3).f0, (rd_T28 t120 x16_3).f1, (rd_T28 t120 x16_3).f2, wrap64 (((rd_T28 t120 x16_3).f3) + x14_2)⟩ : S28) [.int .i64 ((rd_T28 t120 x16_3).f0), .string ((rd_T28 t120 x16_3).f1), .int .i64 ((rd_T28 t120 x16_3).f2), .int .i64 (wrap64 (((rd_T28 t120 x16_3).f3) + x14_2))] from (k28_mkM _ _ _ (⟨(rd_T28 t120 x16_3).f0, (rd_T28 t120 x16_3).f1, (rd_T28 t120 x16_3).f2, wrap64 (((rd_T28 t120 x16_3).f3) + x14_2)⟩ : S28) )) (Reps.none _ _)))
                    intro v141 w35 ho36 hb hg_ hnew_
                    clear hg_ hnew_
                    (first | rw [← Ny140.out] at ho36 | (simp only [Int.reduceToNat] at ho36; rw [← Ny140.out] at ho36))
                    have n0_ := Aside0.mk (Kd.R_elder' (by (with_reducible repeat (first | apply Kd.R_alloc | apply Kd.R_drewN | apply Kd.R_drew)); exact HO_5.out) (Kd.R_base ho36) hb)
                    have n1_ := Aside0.mk (Kd.R_elder' (by (with_reducible repeat (first | apply Kd.R_alloc | apply Kd.R_drewN | apply Kd.R_drew)); exact HO_8.out) (Kd.R_base ho36) hb)
                    have n2_ := Aside0.mk (Kd.R_elder' (by (with_reducible repeat (first | apply Kd.R_alloc | apply Kd.R_drewN | apply Kd.R_drew)); exact HO_11.out) (Kd.R_base ho36) hb)
                    have n3_ := Aside0.mk (Kd.R_elder' (by (with_reducible repeat (first | apply Kd.R_alloc | apply Kd.R_drewN | apply Kd.R_drew)); exact HO139.out) (Kd.R_base ho36) hb)
                    have n4_ := Aside0.mk (Kd.R_lower (Kd.R_newB (Kd.R_new' (Kd.R_new' (Kd.R_new' (Kd.R_new' ho36 (Kd.R_lt (by (with_reducible repeat (first | apply Kd.R_alloc | apply Kd.R_drewN | apply Kd.R_drew)); exact HO_5.out))) (Kd.R_lt (by (with_reducible repeat (first | apply Kd.R_alloc | apply Kd.R_drewN | apply Kd.R_drew)); exact HO_8.out))) (Kd.R_lt (by (with_reducible repeat (first | apply Kd.R_alloc | apply Kd.R_drewN | apply Kd.R_drew)); exact HO_11.out))) (Kd.R_lt (by (with_reducible repeat (first | apply Kd.R_alloc | apply Kd.R_drewN | apply Kd.R_drew)); exact HO139.out))) (g := gb133) (o := .cells #[.int .i64 ((rd_T28 t120 x16_3).f0), .string ((rd_T28 t120 x16_3).f1), .int .i64 ((rd_T28 t120 x16_3).f2), .int .i64 (wrap64 (((rd_T28 t120 x16_3).f3) + x14_2))] 28 (0, 0)) (by (with_reducible repeat (first | refine blk_drewN ?_ _ | refine blk_drew ?_ | refine blk_alloc ?_ _)); exact BK133.out)) (below_size (by repeat (first | (with_reducible first | exact HB.out | apply below_alloc | apply pw_below_drewN | apply below_drew1 | refine below_set ?_ GE133.out) | exact HB.out))))
                    have n5_ := Aside0.mk (blk_below (g := gb133) (o := .cells #[.int .i64 ((rd_T28 t120 x16_3).f0), .string ((rd_T28 t120 x16_3).f1), .int .i64 ((rd_T28 t120 x16_3).f2), .int .i64 (wrap64 (((rd_T28 t120 x16_3).f3) + x14_2))] 28 (0, 0)) (by (with_reducible repeat (first | refine blk_drewN ?_ _ | refine blk_drew ?_ | refine blk_alloc ?_ _)); exact BK133.out) hb)
                    have n6_ := Aside0.mk (below_step (by repeat (first | (with_reducible first | exact HB.out | apply below_alloc | apply pw_below_drewN | apply below_drew1 | refine below_set ?_ GE133.out) | exact HB.out)) hb)
                    clear HO_5
                    clear HO_8
                    clear HO_11
                    clear HO139
                    clear BK133
                    clear HB
                    have HO_5 := n0_
                    have HO_8 := n1_
                    have HO_11 := n2_
                    have HO139 := n3_
                    have HO142 := n4_
                    have BK133 := n5_
                    have HB := n6_
                    clear n0_ n1_ n2_ n3_ n4_ n5_ n6_
                    clear hb ho36
                    refine hK.out _ _ ⟨(blk_cell BK133.out 0).trans rfl, (blk_cell BK133.out 1).trans rfl, (blk_cell BK133.out 2).trans rfl, (blk_cell BK133.out 3).trans rfl⟩ (fun hHeld => ?_)
                    clear hK K
                    refine norm_ (a' := ?_) ?_ ?_
                    rotate_left
                    ·show Act.put _ (some 112) _ = _
                     simp only [Act.put, List.setIfInBounds_toArray, List.set_cons_zero, List.set_cons_succ, i64_w, i32_w]
                     rfl
                    exact norm_ (by simp only [putAll, Act.put, List.setIfInBounds_toArray, List.set_cons_zero, List.set_cons_succ]) (hCont (v135, v138, v141) _ ⟨hHeld, (by (with_reducible repeat (first | apply Kd.R_alloc | apply Kd.R_drewN | apply Kd.R_drew)); exact Kd.R_mono HO139.out (fun _ hk => ⟨hk.2, ⟨hk.1.2.2.1, ⟨hk.1.1, ⟨hk.1.2.1, hk.1.2.2.2⟩⟩⟩⟩)), (by (with_reducible repeat (first | apply Kd.R_alloc | apply Kd.R_drewN | apply Kd.R_drew)); exact Kd.R_mono HO142.out (fun _ hk => ⟨hk.1.2, ⟨hk.1.1.2, ⟨hk.1.1.1.1.2, ⟨hk.1.1.1.2, hk.2⟩⟩⟩⟩)), (by (with_reducible repeat (first | apply Kd.R_alloc | apply Kd.R_drewN | apply Kd.R_drew)); exact Kd.R_mono HO_11.out (fun _ hk => ⟨hk.1.2, ⟨hk.2, ⟨hk.1.1.1, ⟨hk.1.1.2.1, hk.1.1.2.2⟩⟩⟩⟩)), (by (with_reducible repeat (first | apply Kd.R_alloc | apply Kd.R_drewN | apply Kd.R_drew)); exact Kd.R_mono HO_5.out (fun _ hk => ⟨hk.1.2, ⟨hk.2, ⟨hk.1.1.2.1, ⟨hk.1.1.1, hk.1.1.2.2⟩⟩⟩⟩)), (by (with_reducible repeat (first | apply Kd.R_alloc | apply Kd.R_drewN | apply Kd.R_drew)); exact Kd.R_mono HO_8.out (fun _ hk => ⟨hk.1.2, ⟨hk.2, ⟨hk.1.1.2.1, ⟨hk.1.1.1, hk.1.1.2.2⟩⟩⟩⟩)), (by (with_reducible repeat (first | refine blk_drewN ?_ _ | refine blk_drew ?_ | refine blk_alloc ?_ _)); exact BK133.out), (by repeat (first | (with_reducible first | exact HB.out | apply below_alloc | apply pw_below_drewN | apply below_drew1 | refine below_set ?_ GE133.out) | exact HB.out))⟩)
                   ·skip
                    refine Kd.R_lit_step k28 _ 28 ?hg (N := 112) ?hd (xs := ([(⟨(rd_T28 t120 x16_3).f0, (rd_T28 t120 x16_3).f1, (rd_T28 t120 x16_3).f2, wrap64 (((rd_T28 t120 x16_3).f3) + x14_2)⟩ : S28)] : List (S28))) (inner := [.int .i64 ((rd_T28 t120 x16_3).f0), .string ((rd_T28 t120 x16_3).f1), .int .i64 ((rd_T28 t120 x16_3).f2), .int .i64 (wrap64 (((rd_T28 t120 x16_3).f3) + x14_2))]) (ok := fun _ => True) (okp := fun _ => True) ?hr ?hp (fun _ hk => hk) trivial (Below.refl _ _) (Nat.le_refl _) (by simp) ?_; (case hd => rfl); (case hg => rfl); (case hr => first | (go_simp; done) | (go_simp; rfl)); (case hp => exact (Reps.c4 (show Kd.M k28 _ _ _ (⟨(rd_T28 t120 x16_3).f0, (rd_T28 t120 x16_3).f1, (rd_T28 t120 x16_3).f2, wrap64 (((rd_T28 t120 x16_3).f3) + x14_2)⟩ : S28) [.int .i64 ((rd_T28 t120 x16_3).f0), .string ((rd_T28 t120 x16_3).f1), .int .i64 ((rd_T28 t120 x16_3).f2), .int .i64 (wrap64 (((rd_T28 t120 x16_3).f3) + x14_2))] from (k28_mkM _ _ _ (⟨(rd_T28 t120 x16_3).f0, (rd_T28 t120 x16_3).f1, (rd_T28 t120 x16_3).f2, wrap64 (((rd_T28 t120 x16_3).f3) + x14_2)⟩ : S28) )) (Reps.none _ _)))
                    intro v141 w34 ho35 hb hg_ hnew_
                    clear hg_ hnew_
                    (first | rw [← Ny140.out] at ho35 | (simp only [Int.reduceToNat] at ho35; rw [← Ny140.out] at ho35))
                    have n0_ := Aside0.mk (Kd.R_elder' (by (with_reducible repeat (first | apply Kd.R_alloc | apply Kd.R_drewN | apply Kd.R_drew)); exact HO_5.out) (Kd.R_base ho35) hb)
                    have n1_ := Aside0.mk (Kd.R_elder' (by (with_reducible repeat (first | apply Kd.R_alloc | apply Kd.R_drewN | apply Kd.R_drew)); exact HO_8.out) (Kd.R_base ho35) hb)
                    have n2_ := Aside0.mk (Kd.R_elder' (by (with_reducible repeat (first | apply Kd.R_alloc | apply Kd.R_drewN | apply Kd.R_drew)); exact HO_11.out) (Kd.R_base ho35) hb)
                    have n3_ := Aside0.mk (Kd.R_elder' (by (with_reducible repeat (first | apply Kd.R_alloc | apply Kd.R_drewN | apply Kd.R_drew)); exact HO136.out) (Kd.R_base ho35) hb)
                    have n4_ := Aside0.mk (Kd.R_lower (Kd.R_newB (Kd.R_new' (Kd.R_new' (Kd.R_new' (Kd.R_new' ho35 (Kd.R_lt (by (with_reducible repeat (first | apply Kd.R_alloc | apply Kd.R_drewN | apply Kd.R_drew)); exact HO_5.out))) (Kd.R_lt (by (with_reducible repeat (first | apply Kd.R_alloc | apply Kd.R_drewN | apply Kd.R_drew)); exact HO_8.out))) (Kd.R_lt (by (with_reducible repeat (first | apply Kd.R_alloc | apply Kd.R_drewN | apply Kd.R_drew)); exact HO_11.out))) (Kd.R_lt (by (with_reducible repeat (first | apply Kd.R_alloc | apply Kd.R_drewN | apply Kd.R_drew)); exact HO136.out))) (g := gb133) (o := .cells #[.int .i64 ((rd_T28 t120 x16_3).f0), .string ((rd_T28 t120 x16_3).f1), .int .i64 ((rd_T28 t120 x16_3).f2), .int .i64 (wrap64 (((rd_T28 t120 x16_3).f3) + x14_2))] 28 (0, 0)) (by (with_reducible repeat (first | refine blk_drewN ?_ _ | refine blk_drew ?_ | refine blk_alloc ?_ _)); exact BK133.out)) (below_size (by repeat (first | (with_reducible first | exact HB.out | apply below_alloc | apply pw_below_drewN | apply below_drew1 | refine below_set ?_ GE133.out) | exact HB.out))))
                    have n5_ := Aside0.mk (blk_below (g := gb133) (o := .cells #[.int .i64 ((rd_T28 t120 x16_3).f0), .string ((rd_T28 t120 x16_3).f1), .int .i64 ((rd_T28 t120 x16_3).f2), .int .i64 (wrap64 (((rd_T28 t120 x16_3).f3) + x14_2))] 28 (0, 0)) (by (with_reducible repeat (first | refine blk_drewN ?_ _ | refine blk_drew ?_ | refine blk_alloc ?_ _)); exact BK133.out) hb)
                    have n6_ := Aside0.mk (below_step (by repeat (first | (with_reducible first | exact HB.out | apply below_alloc | apply pw_below_drewN | apply below_drew1 | refine below_set ?_ GE133.out) | exact HB.out)) hb)
                    clear HO_5
                    clear HO_8
                    clear HO_11
                    clear HO136
                    clear BK133
                    clear HB
                    have HO_5 := n0_
                    have HO_8 := n1_
                    have HO_11 := n2_
                    have HO136 := n3_
                    have HO142 := n4_
                    have BK133 := n5_
                    have HB := n6_
                    clear n0_ n1_ n2_ n3_ n4_ n5_ n6_
                    clear hb ho35
                    refine hK.out _ _ ⟨(blk_cell BK133.out 0).trans rfl, (blk_cell BK133.out 1).trans rfl, (blk_cell BK133.out 2).trans rfl, (blk_cell BK133.out 3).trans rfl⟩ (fun hHeld => ?_)
                    clear hK K
                    refine norm_ (a' := ?_) ?_ ?_
                    rotate_left
                    ·show Act.put _ (some 112) _ = _
                     simp only [Act.put, List.setIfInBounds_toArray, List.set_cons_zero, List.set_cons_succ, i64_w, i32_w]
                     rfl
                    refine one_ (i := 2) (N := some 110) #[true, true, true, true, true, false, false] rfl rfl (by kernel_rfl) (by decide) (fun K hK => ?_)
                    refine Kd.R_append_rows_step k28 (w0 := w) w.heap.size (by rfl) (.tmp 108) (.tmp 109) 23 28 (.agg #[(.int .i64 0), (.string ⟨#[]⟩), (.int .i64 0), (.int .i64 0)]) 40 rfl Tryd.underlying23 info28 rfl (by decide) (by omega) v135 y134 x5_3 _ _ _ (fun k_ => some k_ ≠ (.slice Ao29 x5_3.length co29 : Value).ownBlock ∧ some k_ ≠ (.slice (some ad132) t120.length co26 : Value).ownBlock ∧ some k_ ≠ (v128 : Value).ownBlock ∧ some k_ ≠ (v141 : Value).ownBlock ∧ k_ ≠ gb133) (fun _ => False) rfl rfl ?aO ?aR (fun _ _ h => h) (fun _ h => h.elim) ?aF ?aB ?aS ?aL ?_
                    (case aR => repeat (first | exact (Kd.R_reads' HO_5.out).2.2 | (with_reducible refine Kd.C_alloc ?_ _) | (with_reducible refine Kd.C_drewN ?_ _) | (with_reducible refine Kd.C_drew ?_)))
                    (case aB => exact (by repeat (first | (with_reducible first | exact HB.out | apply below_alloc | apply pw_below_drewN | apply below_drew1 | refine below_set ?_ GE133.out) | exact HB.out)))
                    (case aF => exact (fun k_ hk => ⟨Kd.fresh' (Kd.R_lt (by (with_reducible repeat (first | apply Kd.R_alloc | apply Kd.R_drewN | apply Kd.R_drew)); exact HO_5.out)) k_ hk, Kd.fresh' (Kd.R_lt (by (with_reducible repeat (first | apply Kd.R_alloc | apply Kd.R_drewN | apply Kd.R_drew)); exact HO_8.out)) k_ hk, Kd.fresh' (Kd.R_lt (by (with_reducible repeat (first | apply Kd.R_alloc | apply Kd.R_drewN | apply Kd.R_drew)); exact HO_11.out)) k_ hk, Kd.fresh' (Kd.R_lt (by (with_reducible repeat (first | apply Kd.R_alloc | apply Kd.R_drewN | apply Kd.R_drew)); exact HO142.out)) k_ hk, Kd.freshB (g := gb133) (o := .cells #[.int .i64 ((rd_T28 t120 x16_3).f0), .string ((rd_T28 t120 x16_3).f1), .int .i64 ((rd_T28 t120 x16_3).f2), .int .i64 (wrap64 (((rd_T28 t120 x16_3).f3) + x14_2))] 28 (0, 0)) (by (with_reducible repeat (first | refine blk_drewN ?_ _ | refine blk_drew ?_ | refine blk_alloc ?_ _)); exact BK133.out) k_ hk⟩))
                    (case aO => exact (by (with_reducible repeat (first | apply Kd.R_alloc | apply Kd.R_drewN | apply Kd.R_drew)); exact Kd.R_mono HO136.out (fun _ hk => ⟨hk.1.1.1.1.2, ⟨hk.1.1.1.2, ⟨hk.1.1.2, ⟨hk.2, hk.1.2⟩⟩⟩⟩)))
                    (case aS => exact (below_size (by repeat (first | (with_reducible first | exact HB.out | apply below_alloc | apply pw_below_drewN | apply below_drew1 | refine below_set ?_ GE133.out) | exact HB.out))))
                    (case aL => have := LMc24.out; omega)
                    intro v138 w36 ho hb hg hat
                    rw [← Ny137.out] at ho
                    have n0_ := Aside0.mk (Kd.R_after (ok := (fun k_ => some k_ ≠ (.slice (some ad132) t120.length co26 : Value).ownBlock ∧ some k_ ≠ (v128 : Value).ownBlock ∧ some k_ ≠ (v141 : Value).ownBlock ∧ k_ ≠ gb133)) (by (with_reducible repeat (first | apply Kd.R_alloc | apply Kd.R_drewN | apply Kd.R_drew)); exact Kd.R_mono HO_5.out (fun _ hk => ⟨⟨hk.1.1.1, ⟨hk.1.1.2.1, ⟨hk.2, hk.1.1.2.2⟩⟩⟩, hk.1.2⟩)) hg hat)
                    have n1_ := Aside0.mk (Kd.R_after (ok := (fun k_ => some k_ ≠ (.slice Ao29 x5_3.length co29 : Value).ownBlock ∧ some k_ ≠ (v128 : Value).ownBlock ∧ some k_ ≠ (v141 : Value).ownBlock ∧ k_ ≠ gb133)) (by (with_reducible repeat (first | apply Kd.R_alloc | apply Kd.R_drewN | apply Kd.R_drew)); exact Kd.R_mono HO_8.out (fun _ hk => ⟨⟨hk.1.1.1, ⟨hk.1.1.2.1, ⟨hk.2, hk.1.1.2.2⟩⟩⟩, hk.1.2⟩)) hg hat)
                    have n2_ := Aside0.mk (Kd.R_after (ok := (fun k_ => some k_ ≠ (.slice Ao29 x5_3.length co29 : Value).ownBlock ∧ some k_ ≠ (.slice (some ad132) t120.length co26 : Value).ownBlock ∧ some k_ ≠ (v141 : Value).ownBlock ∧ k_ ≠ gb133)) (by (with_reducible repeat (first | apply Kd.R_alloc | apply Kd.R_drewN | apply Kd.R_drew)); exact Kd.R_mono HO_11.out (fun _ hk => ⟨⟨hk.1.1.1, ⟨hk.1.1.2.1, ⟨hk.2, hk.1.1.2.2⟩⟩⟩, hk.1.2⟩)) hg hat)
                    have n3_ := Aside0.mk (blk_grown (g := gb133) (o := .cells #[.int .i64 ((rd_T28 t120 x16_3).f0), .string ((rd_T28 t120 x16_3).f1), .int .i64 ((rd_T28 t120 x16_3).f2), .int .i64 (wrap64 (((rd_T28 t120 x16_3).f3) + x14_2))] 28 (0, 0)) (by (with_reducible repeat (first | refine blk_drewN ?_ _ | refine blk_drew ?_ | refine blk_alloc ?_ _)); exact BK133.out) hg (Kd.R_away HO136.out (fun _ hk => hk.1.2)))
                    have n4_ := Aside0.mk (Kd.R_after (ok := (fun k_ => some k_ ≠ (.slice Ao29 x5_3.length co29 : Value).ownBlock ∧ some k_ ≠ (.slice (some ad132) t120.length co26 : Value).ownBlock ∧ some k_ ≠ (v128 : Value).ownBlock ∧ k_ ≠ gb133)) (by (with_reducible repeat (first | apply Kd.R_alloc | apply Kd.R_drewN | apply Kd.R_drew)); exact Kd.R_mono HO142.out (fun _ hk => ⟨⟨hk.1.1.1.1.2, ⟨hk.1.1.1.2, ⟨hk.1.1.2, hk.2⟩⟩⟩, hk.1.2⟩)) hg hat)
                    have n5_ := Aside0.mk (hb)
                    have n6_ := Aside0.mk (ho)
                    clear HO_5
                    clear HO_8
                    clear HO_11
                    clear BK133
                    clear HO142
                    clear HB
                    clear HO136
                    have HO_5 := n0_
                    have HO_8 := n1_
                    have HO_11 := n2_
                    have BK133 := n3_
                    have HO142 := n4_
                    have HB := n5_
                    have HO139 := n6_
                    clear n0_ n1_ n2_ n3_ n4_ n5_ n6_
                    clear ho hb hg hat
                    refine hK.out _ _ ⟨(blk_cell BK133.out 0).trans rfl, (blk_cell BK133.out 1).trans rfl, (blk_cell BK133.out 2).trans rfl, (blk_cell BK133.out 3).trans rfl⟩ (fun hHeld => ?_)
                    clear hK K
                    refine norm_ (a' := ?_) ?_ ?_
                    rotate_left
                    ·show Act.put _ (some 110) _ = _
                     simp only [Act.put, List.setIfInBounds_toArray, List.set_cons_zero, List.set_cons_succ, i64_w, i32_w]
                     rfl
                    exact norm_ (by simp only [putAll, Act.put, List.setIfInBounds_toArray, List.set_cons_zero, List.set_cons_succ]) (hCont (v135, v138, v141) _ ⟨hHeld, (by (with_reducible repeat (first | apply Kd.R_alloc | apply Kd.R_drewN | apply Kd.R_drew)); exact Kd.R_mono HO139.out (fun _ hk => ⟨hk.2.2.2.1, ⟨hk.2.2.1, ⟨hk.1, ⟨hk.2.1, hk.2.2.2.2⟩⟩⟩⟩)), (by (with_reducible repeat (first | apply Kd.R_alloc | apply Kd.R_drewN | apply Kd.R_drew)); exact Kd.R_mono HO142.out (fun _ hk => ⟨hk.2, ⟨hk.1.2.2.1, ⟨hk.1.1, ⟨hk.1.2.1, hk.1.2.2.2⟩⟩⟩⟩)), (by (with_reducible repeat (first | apply Kd.R_alloc | apply Kd.R_drewN | apply Kd.R_drew)); exact Kd.R_mono HO_11.out (fun _ hk => ⟨hk.2, ⟨hk.1.2.2.1, ⟨hk.1.1, ⟨hk.1.2.1, hk.1.2.2.2⟩⟩⟩⟩)), (by (with_reducible repeat (first | apply Kd.R_alloc | apply Kd.R_drewN | apply Kd.R_drew)); exact Kd.R_mono HO_5.out (fun _ hk => ⟨hk.2, ⟨hk.1.2.2.1, ⟨hk.1.2.1, ⟨hk.1.1, hk.1.2.2.2⟩⟩⟩⟩)), (by (with_reducible repeat (first | apply Kd.R_alloc | apply Kd.R_drewN | apply Kd.R_drew)); exact Kd.R_mono HO_8.out (fun _ hk => ⟨hk.2, ⟨hk.1.2.2.1, ⟨hk.1.2.1, ⟨hk.1.1, hk.1.2.2.2⟩⟩⟩⟩)), (by (with_reducible repeat (first | refine blk_drewN ?_ _ | refine blk_drew ?_ | refine blk_alloc ?_ _)); exact BK133.out), (by repeat (first | (with_reducible first | exact HB.out | apply below_alloc | apply pw_below_drewN | apply below_drew1 | refine below_set ?_ GE133.out) | exact HB.out))⟩)
                  ·skip
                   refine Kd.R_lit_step k28 _ 28 ?hg (N := 112) ?hd (xs := ([(⟨(rd_T28 t120 x16_3).f0, (rd_T28 t120 x16_3).f1, (rd_T28 t120 x16_3).f2, wrap64 (((rd_T28 t120 x16_3).f3) + x14_2)⟩ : S28)] : List (S28))) (inner := [.int .i64 ((rd_T28 t120 x16_3).f0), .string ((rd_T28 t120 x16_3).f1), .int .i64 ((rd_T28 t120 x16_3).f2), .int .i64 (wrap64 (((rd_T28 t120 x16_3).f3) + x14_2))]) (ok := fun _ => True) (okp := fun _ => True) ?hr ?hp (fun _ hk => hk) trivial (Below.refl _ _) (Nat.le_refl _) (by simp) ?_; (case hd => rfl); (case hg => rfl); (case hr => first | (go_simp; done) | (go_simp; rfl)); (case hp => exact (Reps.c4 (show Kd.M k28 _ _ _ (⟨(rd_T28 t120 x16_3).f0, (rd_T28 t120 x16_3).f1, (rd_T28 t120 x16_3).f2, wrap64 (((rd_T28 t120 x16_3).f3) + x14_2)⟩ : S28) [.int .i64 ((rd_T28 t120 x16_3).f0), .string ((rd_T28 t120 x16_3).f1), .int .i64 ((rd_T28 t120 x16_3).f2), .int .i64 (wrap64 (((rd_T28 t120 x16_3).f3) + x14_2))] from (k28_mkM _ _ _ (⟨(rd_T28 t120 x16_3).f0, (rd_T28 t120 x16_3).f1, (rd_T28 t120 x16_3).f2, wrap64 (((rd_T28 t120 x16_3).f3) + x14_2)⟩ : S28) )) (Reps.none _ _)))
                   intro v141 w32 ho33 hb hg_ hnew_
                   clear hg_ hnew_
                   (first | rw [← Ny140.out] at ho33 | (simp only [Int.reduceToNat] at ho33; rw [← Ny140.out] at ho33))
                   have n0_ := Aside0.mk (Kd.R_elder' (by (with_reducible repeat (first | apply Kd.R_alloc | apply Kd.R_drewN | apply Kd.R_drew)); exact HO_5.out) (Kd.R_base ho33) hb)
                   have n1_ := Aside0.mk (Kd.R_elder' (by (with_reducible repeat (first | apply Kd.R_alloc | apply Kd.R_drewN | apply Kd.R_drew)); exact HO_8.out) (Kd.R_base ho33) hb)
                   have n2_ := Aside0.mk (Kd.R_elder' (by (with_reducible repeat (first | apply Kd.R_alloc | apply Kd.R_drewN | apply Kd.R_drew)); exact HO_11.out) (Kd.R_base ho33) hb)
                   have n3_ := Aside0.mk (Kd.R_lower (Kd.R_newB (Kd.R_new' (Kd.R_new' (Kd.R_new' ho33 (Kd.R_lt (by (with_reducible repeat (first | apply Kd.R_alloc | apply Kd.R_drewN | apply Kd.R_drew)); exact HO_5.out))) (Kd.R_lt (by (with_reducible repeat (first | apply Kd.R_alloc | apply Kd.R_drewN | apply Kd.R_drew)); exact HO_8.out))) (Kd.R_lt (by (with_reducible repeat (first | apply Kd.R_alloc | apply Kd.R_drewN | apply Kd.R_drew)); exact HO_11.out))) (g := gb133) (o := .cells #[.int .i64 ((rd_T28 t120 x16_3).f0), .string ((rd_T28 t120 x16_3).f1), .int .i64 ((rd_T28 t120 x16_3).f2), .int .i64 (wrap64 (((rd_T28 t120 x16_3).f3) + x14_2))] 28 (0, 0)) (by (with_reducible repeat (first | refine blk_drewN ?_ _ | refine blk_drew ?_ | refine blk_alloc ?_ _)); exact BK133.out)) (below_size (by repeat (first | (with_reducible first | exact HB.out | apply below_alloc | apply pw_below_drewN | apply below_drew1 | refine below_set ?_ GE133.out) | exact HB.out))))
                   have n4_ := Aside0.mk (blk_below (g := gb133) (o := .cells #[.int .i64 ((rd_T28 t120 x16_3).f0), .string ((rd_T28 t120 x16_3).f1), .int .i64 ((rd_T28 t120 x16_3).f2), .int .i64 (wrap64 (((rd_T28 t120 x16_3).f3) + x14_2))] 28 (0, 0)) (by (with_reducible repeat (first | refine blk_drewN ?_ _ | refine blk_drew ?_ | refine blk_alloc ?_ _)); exact BK133.out) hb)
                   have n5_ := Aside0.mk (below_step (by repeat (first | (with_reducible first | exact HB.out | apply below_alloc | apply pw_below_drewN | apply below_drew1 | refine below_set ?_ GE133.out) | exact HB.out)) hb)
                   clear HO_5
                   clear HO_8
                   clear HO_11
                   clear BK133
                   clear HB
                   have HO_5 := n0_
                   have HO_8 := n1_
                   have HO_11 := n2_
                   have HO142 := n3_
                   have BK133 := n4_
                   have HB := n5_
                   clear n0_ n1_ n2_ n3_ n4_ n5_
                   clear hb ho33
                   refine hK.out _ _ ⟨(blk_cell BK133.out 0).trans rfl, (blk_cell BK133.out 1).trans rfl, (blk_cell BK133.out 2).trans rfl, (blk_cell BK133.out 3).trans rfl⟩ (fun hHeld => ?_)
                   clear hK K
                   refine norm_ (a' := ?_) ?_ ?_
                   rotate_left
                   ·show Act.put _ (some 112) _ = _
                    simp only [Act.put, List.setIfInBounds_toArray, List.set_cons_zero, List.set_cons_succ, i64_w, i32_w]
                    rfl
                   refine one_ (i := 0) (N := some 108) #[true, true, false, true, true, false, false] rfl rfl (by kernel_rfl) (by decide) (fun K hK => ?_)
                   refine Kd.R_lit_step k28 _ 28 ?hg (N := 108) ?hd (xs := ([] : List (S28))) (inner := []) (ok := fun _ => True) (okp := fun _ => True) ?hr ?hp (fun _ hk => hk) trivial (Below.refl _ _) (Nat.le_refl _) (by simp) ?_; (case hd => rfl); (case hg => rfl); (case hr => first | (go_simp; done) | (go_simp; rfl)); (case hp => exact (Reps.none _ _))
                   intro v135 w34 ho35 hb hg_ hnew_
                   clear hg_ hnew_
                   (first | rw [← Ny134.out] at ho35 | (simp only [Int.reduceToNat] at ho35; rw [← Ny134.out] at ho35))
                   have n0_ := Aside0.mk (Kd.R_elder' (by (with_reducible repeat (first | apply Kd.R_alloc | apply Kd.R_drewN | apply Kd.R_drew)); exact HO_5.out) (Kd.R_base ho35) hb)
                   have n1_ := Aside0.mk (Kd.R_elder' (by (with_reducible repeat (first | apply Kd.R_alloc | apply Kd.R_drewN | apply Kd.R_drew)); exact HO_8.out) (Kd.R_base ho35) hb)
                   have n2_ := Aside0.mk (Kd.R_elder' (by (with_reducible repeat (first | apply Kd.R_alloc | apply Kd.R_drewN | apply Kd.R_drew)); exact HO_11.out) (Kd.R_base ho35) hb)
                   have n3_ := Aside0.mk (Kd.R_elder' (by (with_reducible repeat (first | apply Kd.R_alloc | apply Kd.R_drewN | apply Kd.R_drew)); exact HO142.out) (Kd.R_base ho35) hb)
                   have n4_ := Aside0.mk (Kd.R_lower (Kd.R_newB (Kd.R_new' (Kd.R_new' (Kd.R_new' (Kd.R_new' ho35 (Kd.R_lt (by (with_reducible repeat (first | apply Kd.R_alloc | apply Kd.R_drewN | apply Kd.R_drew)); exact HO_5.out))) (Kd.R_lt (by (with_reducible repeat (first | apply Kd.R_alloc | apply Kd.R_drewN | apply Kd.R_drew)); exact HO_8.out))) (Kd.R_lt (by (with_reducible repeat (first | apply Kd.R_alloc | apply Kd.R_drewN | apply Kd.R_drew)); exact HO_11.out))) (Kd.R_lt (by (with_reducible repeat (first | apply Kd.R_alloc | apply Kd.R_drewN | apply Kd.R_drew)); exact HO142.out))) (g := gb133) (o := .cells #[.int .i64 ((rd_T28 t120 x16_3).f0), .string ((rd_T28 t120 x16_3).f1), .int .i64 ((rd_T28 t120 x16_3).f2), .int .i64 (wrap64 (((rd_T28 t120 x16_3).f3) + x14_2))] 28 (0, 0)) (by (with_reducible repeat (first | refine blk_drewN ?_ _ | refine blk_drew ?_ | refine blk_alloc ?_ _)); exact BK133.out)) (below_size (by repeat (first | (with_reducible first | exact HB.out | apply below_alloc | apply pw_below_drewN | apply below_drew1 | refine below_set ?_ GE133.out) | exact HB.out))))
                   have n5_ := Aside0.mk (blk_below (g := gb133) (o := .cells #[.int .i64 ((rd_T28 t120 x16_3).f0), .string ((rd_T28 t120 x16_3).f1), .int .i64 ((rd_T28 t120 x16_3).f2), .int .i64 (wrap64 (((rd_T28 t120 x16_3).f3) + x14_2))] 28 (0, 0)) (by (with_reducible repeat (first | refine blk_drewN ?_ _ | refine blk_drew ?_ | refine blk_alloc ?_ _)); exact BK133.out) hb)
                   have n6_ := Aside0.mk (below_step (by repeat (first | (with_reducible first | exact HB.out | apply below_alloc | apply pw_below_drewN | apply below_drew1 | refine below_set ?_ GE133.out) | exact HB.out)) hb)
                   clear HO_5
                   clear HO_8
                   clear HO_11
                   clear HO142
                   clear BK133
                   clear HB
                   have HO_5 := n0_
                   have HO_8 := n1_
                   have HO_11 := n2_
                   have HO142 := n3_
                   have HO136 := n4_
                   have BK133 := n5_
                   have HB := n6_
                   clear n0_ n1_ n2_ n3_ n4_ n5_ n6_
                   clear hb ho35
                   refine hK.out _ _ ⟨(blk_cell BK133.out 0).trans rfl, (blk_cell BK133.out 1).trans rfl, (blk_cell BK133.out 2).trans rfl, (blk_cell BK133.out 3).trans rfl⟩ (fun hHeld => ?_)
                   clear hK K
                   refine norm_ (a' := ?_) ?_ ?_
                   rotate_left
                   ·show Act.put _ (some 108) _ = _
                    simp only [Act.put, List.setIfInBounds_toArray, List.set_cons_zero, List.set_cons_succ, i64_w, i32_w]
                    rfl
                   refine one_ (i := 2) (N := some 110) #[true, true, true, true, true, false, false] rfl rfl (by kernel_rfl) (by decide) (fun K hK => ?_)
                   refine Kd.R_append_rows_step k28 (w0 := w) w.heap.size (by rfl) (.tmp 108) (.tmp 109) 23 28 (.agg #[(.int .i64 0), (.string ⟨#[]⟩), (.int .i64 0), (.int .i64 0)]) 40 rfl Tryd.underlying23 info28 rfl (by decide) (by omega) v135 y134 x5_3 _ _ _ (fun k_ => some k_ ≠ (.slice Ao29 x5_3.length co29 : Value).ownBlock ∧ some k_ ≠ (.slice (some ad132) t120.length co26 : Value).ownBlock ∧ some k_ ≠ (v128 : Value).ownBlock ∧ some k_ ≠ (v141 : Value).ownBlock ∧ k_ ≠ gb133) (fun _ => False) rfl rfl ?aO ?aR (fun _ _ h => h) (fun _ h => h.elim) ?aF ?aB ?aS ?aL ?_
                   (case aR => repeat (first | exact (Kd.R_reads' HO_5.out).2.2 | (with_reducible refine Kd.C_alloc ?_ _) | (with_reducible refine Kd.C_drewN ?_ _) | (with_reducible refine Kd.C_drew ?_)))
                   (case aB => exact (by repeat (first | (with_reducible first | exact HB.out | apply below_alloc | apply pw_below_drewN | apply below_drew1 | refine below_set ?_ GE133.out) | exact HB.out)))
                   (case aF => exact (fun k_ hk => ⟨Kd.fresh' (Kd.R_lt (by (with_reducible repeat (first | apply Kd.R_alloc | apply Kd.R_drewN | apply Kd.R_drew)); exact HO_5.out)) k_ hk, Kd.fresh' (Kd.R_lt (by (with_reducible repeat (first | apply Kd.R_alloc | apply Kd.R_drewN | apply Kd.R_drew)); exact HO_8.out)) k_ hk, Kd.fresh' (Kd.R_lt (by (with_reducible repeat (first | apply Kd.R_alloc | apply Kd.R_drewN | apply Kd.R_drew)); exact HO_11.out)) k_ hk, Kd.fresh' (Kd.R_lt (by (with_reducible repeat (first | apply Kd.R_alloc | apply Kd.R_drewN | apply Kd.R_drew)); exact HO142.out)) k_ hk, Kd.freshB (g := gb133) (o := .cells #[.int .i64 ((rd_T28 t120 x16_3).f0), .string ((rd_T28 t120 x16_3).f1), .int .i64 ((rd_T28 t120 x16_3).f2), .int .i64 (wrap64 (((rd_T28 t120 x16_3).f3) + x14_2))] 28 (0, 0)) (by (with_reducible repeat (first | refine blk_drewN ?_ _ | refine blk_drew ?_ | refine blk_alloc ?_ _)); exact BK133.out) k_ hk⟩))
                   (case aO => exact (by (with_reducible repeat (first | apply Kd.R_alloc | apply Kd.R_drewN | apply Kd.R_drew)); exact Kd.R_mono HO136.out (fun _ hk => ⟨hk.1.1.1.1.2, ⟨hk.1.1.1.2, ⟨hk.1.1.2, ⟨hk.1.2, hk.2⟩⟩⟩⟩)))
                   (case aS => exact (below_size (by repeat (first | (with_reducible first | exact HB.out | apply below_alloc | apply pw_below_drewN | apply below_drew1 | refine below_set ?_ GE133.out) | exact HB.out))))
                   (case aL => have := LMc24.out; omega)
                   intro v138 w36 ho hb hg hat
                   rw [← Ny137.out] at ho
                   have n0_ := Aside0.mk (Kd.R_after (ok := (fun k_ => some k_ ≠ (.slice (some ad132) t120.length co26 : Value).ownBlock ∧ some k_ ≠ (v128 : Value).ownBlock ∧ some k_ ≠ (v141 : Value).ownBlock ∧ k_ ≠ gb133)) (by (with_reducible repeat (first | apply Kd.R_alloc | apply Kd.R_drewN | apply Kd.R_drew)); exact Kd.R_mono HO_5.out (fun _ hk => ⟨⟨hk.1.1.1, ⟨hk.1.1.2.1, ⟨hk.1.2, hk.1.1.2.2⟩⟩⟩, hk.2⟩)) hg hat)
                   have n1_ := Aside0.mk (Kd.R_after (ok := (fun k_ => some k_ ≠ (.slice Ao29 x5_3.length co29 : Value).ownBlock ∧ some k_ ≠ (v128 : Value).ownBlock ∧ some k_ ≠ (v141 : Value).ownBlock ∧ k_ ≠ gb133)) (by (with_reducible repeat (first | apply Kd.R_alloc | apply Kd.R_drewN | apply Kd.R_drew)); exact Kd.R_mono HO_8.out (fun _ hk => ⟨⟨hk.1.1.1, ⟨hk.1.1.2.1, ⟨hk.1.2, hk.1.1.2.2⟩⟩⟩, hk.2⟩)) hg hat)
                   have n2_ := Aside0.mk (Kd.R_after (ok := (fun k_ => some k_ ≠ (.slice Ao29 x5_3.length co29 : Value).ownBlock ∧ some k_ ≠ (.slice (some ad132) t120.length co26 : Value).ownBlock ∧ some k_ ≠ (v141 : Value).ownBlock ∧ k_ ≠ gb133)) (by (with_reducible repeat (first | apply Kd.R_alloc | apply Kd.R_drewN | apply Kd.R_drew)); exact Kd.R_mono HO_11.out (fun _ hk => ⟨⟨hk.1.1.1, ⟨hk.1.1.2.1, ⟨hk.1.2, hk.1.1.2.2⟩⟩⟩, hk.2⟩)) hg hat)
                   have n3_ := Aside0.mk (blk_grown (g := gb133) (o := .cells #[.int .i64 ((rd_T28 t120 x16_3).f0), .string ((rd_T28 t120 x16_3).f1), .int .i64 ((rd_T28 t120 x16_3).f2), .int .i64 (wrap64 (((rd_T28 t120 x16_3).f3) + x14_2))] 28 (0, 0)) (by (with_reducible repeat (first | refine blk_drewN ?_ _ | refine blk_drew ?_ | refine blk_alloc ?_ _)); exact BK133.out) hg (Kd.R_away HO136.out (fun _ hk => hk.2)))
                   have n4_ := Aside0.mk (Kd.R_after (ok := (fun k_ => some k_ ≠ (.slice Ao29 x5_3.length co29 : Value).ownBlock ∧ some k_ ≠ (.slice (some ad132) t120.length co26 : Value).ownBlock ∧ some k_ ≠ (v128 : Value).ownBlock ∧ k_ ≠ gb133)) (by (with_reducible repeat (first | apply Kd.R_alloc | apply Kd.R_drewN | apply Kd.R_drew)); exact Kd.R_mono HO142.out (fun _ hk => ⟨⟨hk.1.1.1.1.2, ⟨hk.1.1.1.2, ⟨hk.1.1.2, hk.1.2⟩⟩⟩, hk.2⟩)) hg hat)
                   have n5_ := Aside0.mk (hb)
                   have n6_ := Aside0.mk (ho)
                   clear HO_5
                   clear HO_8
                   clear HO_11
                   clear BK133
                   clear HO142
                   clear HB
                   clear HO136
                   have HO_5 := n0_
                   have HO_8 := n1_
                   have HO_11 := n2_
                   have BK133 := n3_
                   have HO142 := n4_
                   have HB := n5_
                   have HO139 := n6_
                   clear n0_ n1_ n2_ n3_ n4_ n5_ n6_
                   clear ho hb hg hat
                   refine hK.out _ _ ⟨(blk_cell BK133.out 0).trans rfl, (blk_cell BK133.out 1).trans rfl, (blk_cell BK133.out 2).trans rfl, (blk_cell BK133.out 3).trans rfl⟩ (fun hHeld => ?_)
                   clear hK K
                   refine norm_ (a' := ?_) ?_ ?_
                   rotate_left
                   ·show Act.put _ (some 110) _ = _
                    simp only [Act.put, List.setIfInBounds_toArray, List.set_cons_zero, List.set_cons_succ, i64_w, i32_w]
                    rfl
                   exact norm_ (by simp only [putAll, Act.put, List.setIfInBounds_toArray, List.set_cons_zero, List.set_cons_succ]) (hCont (v135, v138, v141) _ ⟨hHeld, (by (with_reducible repeat (first | apply Kd.R_alloc | apply Kd.R_drewN | apply Kd.R_drew)); exact Kd.R_mono HO139.out (fun _ hk => ⟨hk.2.2.2.1, ⟨hk.2.2.1, ⟨hk.1, ⟨hk.2.1, hk.2.2.2.2⟩⟩⟩⟩)), (by (with_reducible repeat (first | apply Kd.R_alloc | apply Kd.R_drewN | apply Kd.R_drew)); exact Kd.R_mono HO142.out (fun _ hk => ⟨hk.2, ⟨hk.1.2.2.1, ⟨hk.1.1, ⟨hk.1.2.1, hk.1.2.2.2⟩⟩⟩⟩)), (by (with_reducible repeat (first | apply Kd.R_alloc | apply Kd.R_drewN | apply Kd.R_drew)); exact Kd.R_mono HO_11.out (fun _ hk => ⟨hk.2, ⟨hk.1.2.2.1, ⟨hk.1.1, ⟨hk.1.2.1, hk.1.2.2.2⟩⟩⟩⟩)), (by (with_reducible repeat (first | apply Kd.R_alloc | apply Kd.R_drewN | apply Kd.R_drew)); exact Kd.R_mono HO_5.out (fun _ hk => ⟨hk.2, ⟨hk.1.2.2.1, ⟨hk.1.2.1, ⟨hk.1.1, hk.1.2.2.2⟩⟩⟩⟩)), (by (with_reducible repeat (first | apply Kd.R_alloc | apply Kd.R_drewN | apply Kd.R_drew)); exact Kd.R_mono HO_8.out (fun _ hk => ⟨hk.2, ⟨hk.1.2.2.1, ⟨hk.1.2.1, ⟨hk.1.1, hk.1.2.2.2⟩⟩⟩⟩)), (by (with_reducible repeat (first | refine blk_drewN ?_ _ | refine blk_drew ?_ | refine blk_alloc ?_ _)); exact BK133.out), (by repeat (first | (with_reducible first | exact HB.out | apply below_alloc | apply pw_below_drewN | apply below_drew1 | refine below_set ?_ GE133.out) | exact HB.out))⟩)
                 rintro ⟨v135, v138, v141⟩ w37 ⟨hS_, h0_, h1_, h2_, h3_, h4_, h5_, h6_⟩
                 have n0_ : Aside0 (Kd.R k28 28 w37 w.heap.size (fun k_ => some k_ ≠ (v141 : Value).ownBlock ∧ some k_ ≠ (v128 : Value).ownBlock ∧ some k_ ≠ (.slice Ao29 x5_3.length co29 : Value).ownBlock ∧ some k_ ≠ (.slice (some ad132) t120.length co26 : Value).ownBlock ∧ k_ ≠ gb133) v138 y137) := ⟨h0_⟩
                 have n1_ : Aside0 (Kd.R k28 28 w37 w.heap.size (fun k_ => some k_ ≠ (v138 : Value).ownBlock ∧ some k_ ≠ (v128 : Value).ownBlock ∧ some k_ ≠ (.slice Ao29 x5_3.length co29 : Value).ownBlock ∧ some k_ ≠ (.slice (some ad132) t120.length co26 : Value).ownBlock ∧ k_ ≠ gb133) v141 y140) := ⟨h1_⟩
                 have n2_ : Aside0 (Kd.R k28 28 w37 w.heap.size (fun k_ => some k_ ≠ (v138 : Value).ownBlock ∧ some k_ ≠ (v141 : Value).ownBlock ∧ some k_ ≠ (.slice Ao29 x5_3.length co29 : Value).ownBlock ∧ some k_ ≠ (.slice (some ad132) t120.length co26 : Value).ownBlock ∧ k_ ≠ gb133) v128 t125) := ⟨h2_⟩
                 have n3_ : Aside0 (Kd.R k28 28 w37 w.heap.size (fun k_ => some k_ ≠ (v138 : Value).ownBlock ∧ some k_ ≠ (v141 : Value).ownBlock ∧ some k_ ≠ (v128 : Value).ownBlock ∧ some k_ ≠ (.slice (some ad132) t120.length co26 : Value).ownBlock ∧ k_ ≠ gb133) (.slice Ao29 x5_3.length co29) x5_3) := ⟨h3_⟩
                 have n4_ : Aside0 (Kd.R k28 28 w37 w.heap.size (fun k_ => some k_ ≠ (v138 : Value).ownBlock ∧ some k_ ≠ (v141 : Value).ownBlock ∧ some k_ ≠ (v128 : Value).ownBlock ∧ some k_ ≠ (.slice Ao29 x5_3.length co29 : Value).ownBlock ∧ k_ ≠ gb133) (.slice (some ad132) t120.length co26) t120) := ⟨h4_⟩
                 have n5_ : Aside0 (w37.heap[gb133]? = some (.cells #[.int .i64 ((rd_T28 t120 x16_3).f0), .string ((rd_T28 t120 x16_3).f1), .int .i64 ((rd_T28 t120 x16_3).f2), .int .i64 (wrap64 (((rd_T28 t120 x16_3).f3) + x14_2))] 28 (0, 0))) := ⟨h5_⟩
                 have n6_ : Aside0 (Below w.heap.size w w37) := ⟨h6_⟩
                 clear HO_5
                 clear HO_8
                 clear HO_11
                 clear BK133
                 clear HB
                 clear h0_ h1_ h2_ h3_ h4_ h5_ h6_
                 have HO139 := n0_
                 have HO142 := n1_
                 have HO_11 := n2_
                 have HO_5 := n3_
                 have HO_8 := n4_
                 have BK133 := n5_
                 have HB := n6_
                 clear n0_ n1_ n2_ n3_ n4_ n5_ n6_
                 have hHeld : w37.cell? ⟨gb133, 0, none⟩ = some (.int .i64 ((rd_T28 t120 x16_3).f0)) ∧ w37.cell? ⟨gb133, 1, none⟩ = some (.string ((rd_T28 t120 x16_3).f1)) ∧ w37.cell? ⟨gb133, 2, none⟩ = some (.int .i64 ((rd_T28 t120 x16_3).f2)) ∧ w37.cell? ⟨gb133, 3, none⟩ = some (.int .i64 (wrap64 (((rd_T28 t120 x16_3).f3) + x14_2))) := hS_
                 obtain ⟨Ao39, co39, eo39⟩ := Kd.R_slice HO142.out
                 (first | subst eo39 | (injection eo39 with f1_ f2_ f3_; have f4_ := f1_.symm; have f5_ := f3_.symm; clear f1_ f2_ f3_; subst f4_; subst f5_))
                 refine norm_ (a' := ?_) ?_ ?_
                 rotate_left
                 ·simp only [putAll, Act.put, List.setIfInBounds_toArray, List.set_cons_zero, List.set_cons_succ]
                  rfl
                 refine one_ (i := 5) (N := some 113) #[true, true, true, true, true, true, false] rfl rfl (by kernel_rfl) (by decide) (fun K hK => ?_)
                 refine Kd.R_append_rows_step k28 (w0 := w) w.heap.size (by rfl) (.tmp 110) (.tmp 112) 23 28 (.agg #[(.int .i64 0), (.string ⟨#[]⟩), (.int .i64 0), (.int .i64 0)]) 40 rfl Tryd.underlying23 info28 rfl (by decide) (by omega) v138 y137 y140 _ _ _ (fun k_ => some k_ ≠ (.slice Ao29 x5_3.length co29 : Value).ownBlock ∧ some k_ ≠ (.slice (some ad132) t120.length co26 : Value).ownBlock ∧ some k_ ≠ (v128 : Value).ownBlock ∧ some k_ ≠ (.slice Ao39 y140.length co39 : Value).ownBlock ∧ k_ ≠ gb133) (fun _ => False) rfl rfl ?aO ?aR (fun _ _ h => h) (fun _ h => h.elim) ?aF ?aB ?aS ?aL ?_
                 (case aR => repeat (first | exact (Kd.R_reads' HO142.out).2.2 | (with_reducible refine Kd.C_alloc ?_ _) | (with_reducible refine Kd.C_drewN ?_ _) | (with_reducible refine Kd.C_drew ?_)))
                 (case aB => exact (by repeat (first | (with_reducible first | exact HB.out | apply below_alloc | apply pw_below_drewN | apply below_drew1 | refine below_set ?_ GE133.out) | exact HB.out)))
                 (case aF => exact (fun k_ hk => ⟨Kd.fresh' (Kd.R_lt (by (with_reducible repeat (first | apply Kd.R_alloc | apply Kd.R_drewN | apply Kd.R_drew)); exact HO_5.out)) k_ hk, Kd.fresh' (Kd.R_lt (by (with_reducible repeat (first | apply Kd.R_alloc | apply Kd.R_drewN | apply Kd.R_drew)); exact HO_8.out)) k_ hk, Kd.fresh' (Kd.R_lt (by (with_reducible repeat (first | apply Kd.R_alloc | apply Kd.R_drewN | apply Kd.R_drew)); exact HO_11.out)) k_ hk, Kd.fresh' (Kd.R_lt (by (with_reducible repeat (first | apply Kd.R_alloc | apply Kd.R_drewN | apply Kd.R_drew)); exact HO142.out)) k_ hk, Kd.freshB (g := gb133) (o := .cells #[.int .i64 ((rd_T28 t120 x16_3).f0), .string ((rd_T28 t120 x16_3).f1), .int .i64 ((rd_T28 t120 x16_3).f2), .int .i64 (wrap64 (((rd_T28 t120 x16_3).f3) + x14_2))] 28 (0, 0)) (by (with_reducible repeat (first | refine blk_drewN ?_ _ | refine blk_drew ?_ | refine blk_alloc ?_ _)); exact BK133.out) k_ hk⟩))
                 (case aO => exact (by (with_reducible repeat (first | apply Kd.R_alloc | apply Kd.R_drewN | apply Kd.R_drew)); exact Kd.R_mono HO139.out (fun _ hk => ⟨hk.2.2.1, ⟨hk.2.2.2.1, ⟨hk.2.1, ⟨hk.1, hk.2.2.2.2⟩⟩⟩⟩)))
                 (case aS => exact (below_size (by repeat (first | (with_reducible first | exact HB.out | apply below_alloc | apply pw_below_drewN | apply below_drew1 | refine below_set ?_ GE133.out) | exact HB.out))))
                 (case aL => have := LMc25.out; omega)
                 intro v144 w38 ho hb hg hat
                 rw [← Ny143.out] at ho
                 have n0_ := Aside0.mk (Kd.R_after (ok := (fun k_ => some k_ ≠ (.slice (some ad132) t120.length co26 : Value).ownBlock ∧ some k_ ≠ (v128 : Value).ownBlock ∧ some k_ ≠ (.slice Ao39 y140.length co39 : Value).ownBlock ∧ k_ ≠ gb133)) (by (with_reducible repeat (first | apply Kd.R_alloc | apply Kd.R_drewN | apply Kd.R_drew)); exact Kd.R_mono HO_5.out (fun _ hk => ⟨⟨hk.2.2.2.1, ⟨hk.2.2.1, ⟨hk.2.1, hk.2.2.2.2⟩⟩⟩, hk.1⟩)) hg hat)
                 have n1_ := Aside0.mk (Kd.R_after (ok := (fun k_ => some k_ ≠ (.slice Ao29 x5_3.length co29 : Value).ownBlock ∧ some k_ ≠ (v128 : Value).ownBlock ∧ some k_ ≠ (.slice Ao39 y140.length co39 : Value).ownBlock ∧ k_ ≠ gb133)) (by (with_reducible repeat (first | apply Kd.R_alloc | apply Kd.R_drewN | apply Kd.R_drew)); exact Kd.R_mono HO_8.out (fun _ hk => ⟨⟨hk.2.2.2.1, ⟨hk.2.2.1, ⟨hk.2.1, hk.2.2.2.2⟩⟩⟩, hk.1⟩)) hg hat)
                 have n2_ := Aside0.mk (Kd.R_after (ok := (fun k_ => some k_ ≠ (.slice Ao29 x5_3.length co29 : Value).ownBlock ∧ some k_ ≠ (.slice (some ad132) t120.length co26 : Value).ownBlock ∧ some k_ ≠ (.slice Ao39 y140.length co39 : Value).ownBlock ∧ k_ ≠ gb133)) (by (with_reducible repeat (first | apply Kd.R_alloc | apply Kd.R_drewN | apply Kd.R_drew)); exact Kd.R_mono HO_11.out (fun _ hk => ⟨⟨hk.2.2.1, ⟨hk.2.2.2.1, ⟨hk.2.1, hk.2.2.2.2⟩⟩⟩, hk.1⟩)) hg hat)
                 have n3_ := Aside0.mk (blk_grown (g := gb133) (o := .cells #[.int .i64 ((rd_T28 t120 x16_3).f0), .string ((rd_T28 t120 x16_3).f1), .int .i64 ((rd_T28 t120 x16_3).f2), .int .i64 (wrap64 (((rd_T28 t120 x16_3).f3) + x14_2))] 28 (0, 0)) (by (with_reducible repeat (first | refine blk_drewN ?_ _ | refine blk_drew ?_ | refine blk_alloc ?_ _)); exact BK133.out) hg (Kd.R_away HO139.out (fun _ hk => hk.2.2.2.2)))
                 have n4_ := Aside0.mk (Kd.R_after (ok := (fun k_ => some k_ ≠ (.slice Ao29 x5_3.length co29 : Value).ownBlock ∧ some k_ ≠ (.slice (some ad132) t120.length co26 : Value).ownBlock ∧ some k_ ≠ (v128 : Value).ownBlock ∧ k_ ≠ gb133)) (by (with_reducible repeat (first | apply Kd.R_alloc | apply Kd.R_drewN | apply Kd.R_drew)); exact Kd.R_mono HO142.out (fun _ hk => ⟨⟨hk.2.2.1, ⟨hk.2.2.2.1, ⟨hk.2.1, hk.2.2.2.2⟩⟩⟩, hk.1⟩)) hg hat)
                 have n5_ := Aside0.mk (hb)
                 have n6_ := Aside0.mk (ho)
                 clear HO_5
                 clear HO_8
                 clear HO_11
                 clear BK133
                 clear HO142
                 clear HB
                 clear HO139
                 have HO_5 := n0_
                 have HO_8 := n1_
                 have HO_11 := n2_
                 have BK133 := n3_
                 have HO142 := n4_
                 have HB := n5_
                 have HO145 := n6_
                 clear n0_ n1_ n2_ n3_ n4_ n5_ n6_
                 clear ho hb hg hat
                 refine hK.out _ _ ⟨(blk_cell BK133.out 0).trans rfl, (blk_cell BK133.out 1).trans rfl, (blk_cell BK133.out 2).trans rfl, (blk_cell BK133.out 3).trans rfl⟩ (fun hHeld => ?_)
                 clear hK K
                 refine norm_ (a' := ?_) ?_ ?_
                 rotate_left
                 ·show Act.put _ (some 113) _ = _
                  simp only [Act.put, List.setIfInBounds_toArray, List.set_cons_zero, List.set_cons_succ, i64_w, i32_w]
                  rfl
                 refine pure_ (i := 6) (N := some 5) (v := ?_) (a' := ?_) #[true, true, true, true, true, true, true] rfl rfl (by kernel_rfl) (fun _ _ _ h => h) (Or.inl ⟨by rfl, ?_⟩) ?_ ?_
                 rotate_left
                 ·intro w'
                  go_simp
                  with_reducible rfl
                 rotate_left
                 ·simp only [Act.put, List.setIfInBounds_toArray, List.set_cons_zero, List.set_cons_succ, i64_w, i32_w]
                  rfl
                 refine done_ (by kernel_rfl) ?_
                 try go_wp2
                 go_roundg k3
                 case measure => have := HJ2.out; have := HK2.out; have := HK3.out; omega
                 case rel => exact ⟨(y143), (wrap64 (x16_3 + 1)), (by first | rfl | (simp; done) | (simp [*]; done)), H', ⟨by have := HJ2.out; have := HK2.out; have := HK3.out; omega⟩, ⟨by (with_reducible repeat (first | apply Kd.R_alloc | apply Kd.R_drewN | apply Kd.R_drew)); exact Kd.R_mono HO145.out (fun _ hk => ⟨hk.2.1, hk.2.2.1⟩)⟩, ⟨by (with_reducible repeat (first | apply Kd.R_alloc | apply Kd.R_drewN | apply Kd.R_drew)); exact Kd.R_mono HO_8.out (fun _ hk => ⟨hk.2, hk.1.2.1⟩)⟩, ⟨by (with_reducible repeat (first | apply Kd.R_alloc | apply Kd.R_drewN | apply Kd.R_drew)); exact Kd.R_mono HO_11.out (fun _ hk => ⟨hk.2, hk.1.2.1⟩)⟩, ⟨by repeat (first | (with_reducible first | exact HB.out | apply below_alloc | apply pw_below_drewN | apply below_drew1 | refine below_set ?_ GE133.out) | exact HB.out)⟩⟩
                ·rw [if_neg c25] at H
                 exact absurd H (by simp)
               ·rw [if_neg c24] at H
                exact absurd H (by simp)
              ·rw [if_neg c23] at H
               exact absurd H (by simp)
             ·rw [if_neg c22] at H
              have c22b0 : decide (x16_3 < (t120.length : Int)) = false := decide_eq_false c22
              clear c22
              replace H := Option.bind_eq_some_iff.mp H
              obtain ⟨t146, A400, H⟩ := H
              replace H : (if t146 = true then (if t127 = 0 then ((gatewardenref10_Same.f k3 x5_3 t125).bind fun t147 => (some t147)) else (some false)) else (some false)) = some r := H
              have A40 := Aside0.mk A400
              clear A400
              by_cases c41 : t146 = true
              ·subst c41
               have H1 : (if t127 = 0 then ((gatewardenref10_Same.f k3 x5_3 t125).bind fun t147 => (some t147)) else (some false)) = some r := by rw [if_pos rfl] at H; exact H
               clear H
               have H := H1
               clear H1
               by_cases c42 : t127 = 0
               ·rw [if_pos c42] at H
                have c42b0 : (t127 == 0) = true := beq_iff_eq.mpr c42
                have c42b1 : (t127 != 0) = false := bne_eq_false_iff_eq.mpr c42
                clear c42
                replace H := Option.bind_eq_some_iff.mp H
                obtain ⟨t147, A430, H⟩ := H
                replace H : (some t147) = some r := H
                have A43 := Aside0.mk A430
                clear A430
                obtain rfl := Option.some.inj H
                obtain ⟨Ao44, co44, eo44⟩ := Kd.R_slice HO_8.out
                subst eo44
                go_wp2_with (first | ((with_reducible refine gate_callee (f := 11) rfl ?_); refine goesL_ (some 114) rfl rfl Tryd.func11 (by kernel_rfl) rfl #[] rfl (by (try simp only [List.map_toArray, List.map_cons, List.map_nil]); first | done | rfl | (simp only [List.length_drop, List.length_take]; rfl)) ?_; (with_reducible refine (gatewardenlaw10_awake.calls  true _ A40.out).mono ?_); rintro e w45 ⟨rfl, hb⟩; refine ⟨_, rfl, ?_⟩; have n0_ := Aside0.mk (Kd.R_below (by (with_reducible repeat (first | apply Kd.R_alloc | apply Kd.R_drewN | apply Kd.R_drew)); exact HO_5.out) hb); have n1_ := Aside0.mk (Kd.R_below (by (with_reducible repeat (first | apply Kd.R_alloc | apply Kd.R_drewN | apply Kd.R_drew)); exact HO_8.out) hb); have n2_ := Aside0.mk (Kd.R_below (by (with_reducible repeat (first | apply Kd.R_alloc | apply Kd.R_drewN | apply Kd.R_drew)); exact HO_11.out) hb); have n3_ := Aside0.mk (below_step (by repeat (first | (with_reducible first | exact HB.out | apply below_alloc | apply pw_below_drewN | apply below_drew1) | exact HB.out)) hb); clear HO_5; clear HO_8; clear HO_11; clear HB; have HO_5 := n0_; have HO_8 := n1_; have HO_11 := n2_; have HB := n3_; clear n0_ n1_ n2_ n3_; (try clear hb); (try clear hb2); (try clear hk); (try clear hi); obtain ⟨Ao46, co46, eo46⟩ := Kd.R_slice HO_5.out; subst eo46; obtain ⟨Ao47, co47, eo47⟩ := Kd.R_slice HO_11.out; subst eo47) | (go_at_call 13; (with_reducible refine (gatewardenref10_Same.calls k3 _ _ x5_3 _ _ t125 t147 _ ?side1 ?side2 ?side3 ?side4 A43.out).mono ?_); (case side1 => repeat (first | exact (Kd.R_reads' HO_5.out).2.2 | (with_reducible refine Kd.C_alloc ?_ _) | (with_reducible refine Kd.C_drewN ?_ _) | (with_reducible refine Kd.C_drew ?_))); (case side2 => exact (Kd.R_reads' HO_5.out).2.1); (case side3 => repeat (first | exact (Kd.R_reads' HO_11.out).2.2 | (with_reducible refine Kd.C_alloc ?_ _) | (with_reducible refine Kd.C_drewN ?_ _) | (with_reducible refine Kd.C_drew ?_))); (case side4 => exact (Kd.R_reads' HO_11.out).2.1); rintro e w' ⟨rfl, ⟨nd, rfl⟩⟩))
                go_ret
                exact ⟨by first | rfl | (simp [errW_none, errW_some] <;> rfl) | (simp [*, errW_none, errW_some] <;> rfl), by repeat (first | (with_reducible first | exact HB.out | apply below_alloc | apply pw_below_drewN | apply below_drew1) | exact HB.out)⟩
               ·rw [if_neg c42] at H
                have c42b0 : (t127 == 0) = false := beq_eq_false_iff_ne.mpr c42
                have c42b1 : (t127 != 0) = true := bne_iff_ne.mpr c42
                obtain rfl := Option.some.inj H
                obtain ⟨Ao48, co48, eo48⟩ := Kd.R_slice HO_8.out
                subst eo48
                go_wp2_with (first | ((with_reducible refine gate_callee (f := 11) rfl ?_); refine goesL_ (some 114) rfl rfl Tryd.func11 (by kernel_rfl) rfl #[] rfl (by (try simp only [List.map_toArray, List.map_cons, List.map_nil]); first | done | rfl | (simp only [List.length_drop, List.length_take]; rfl)) ?_; (with_reducible refine (gatewardenlaw10_awake.calls  true _ A40.out).mono ?_); rintro e w49 ⟨rfl, hb⟩; refine ⟨_, rfl, ?_⟩; have n0_ := Aside0.mk (Kd.R_below (by (with_reducible repeat (first | apply Kd.R_alloc | apply Kd.R_drewN | apply Kd.R_drew)); exact HO_5.out) hb); have n1_ := Aside0.mk (Kd.R_below (by (with_reducible repeat (first | apply Kd.R_alloc | apply Kd.R_drewN | apply Kd.R_drew)); exact HO_8.out) hb); have n2_ := Aside0.mk (Kd.R_below (by (with_reducible repeat (first | apply Kd.R_alloc | apply Kd.R_drewN | apply Kd.R_drew)); exact HO_11.out) hb); have n3_ := Aside0.mk (below_step (by repeat (first | (with_reducible first | exact HB.out | apply below_alloc | apply pw_below_drewN | apply below_drew1) | exact HB.out)) hb); clear HO_5; clear HO_8; clear HO_11; clear HB; have HO_5 := n0_; have HO_8 := n1_; have HO_11 := n2_; have HB := n3_; clear n0_ n1_ n2_ n3_; (try clear hb); (try clear hb2); (try clear hk); (try clear hi)))
                go_ret
                exact ⟨by first | rfl | (simp [errW_none, errW_some] <;> rfl) | (simp [*, errW_none, errW_some] <;> rfl), by repeat (first | (with_reducible first | exact HB.out | apply below_alloc | apply pw_below_drewN | apply below_drew1) | exact HB.out)⟩
              ·replace c41 := Bool.eq_false_iff.mpr c41
               subst c41
               have H1 : (some false) = some r := by rw [if_neg (show ¬ (false = true) by decide)] at H; exact H
               clear H
               have H := H1
               clear H1
               obtain rfl := Option.some.inj H
               obtain ⟨Ao50, co50, eo50⟩ := Kd.R_slice HO_8.out
               subst eo50
               go_wp2_with (first | ((with_reducible refine gate_callee (f := 11) rfl ?_); refine goesL_ (some 114) rfl rfl Tryd.func11 (by kernel_rfl) rfl #[] rfl (by (try simp only [List.map_toArray, List.map_cons, List.map_nil]); first | done | rfl | (simp only [List.length_drop, List.length_take]; rfl)) ?_; (with_reducible refine (gatewardenlaw10_awake.calls  false _ A40.out).mono ?_); rintro e w51 ⟨rfl, hb⟩; refine ⟨_, rfl, ?_⟩; have n0_ := Aside0.mk (Kd.R_below (by (with_reducible repeat (first | apply Kd.R_alloc | apply Kd.R_drewN | apply Kd.R_drew)); exact HO_5.out) hb); have n1_ := Aside0.mk (Kd.R_below (by (with_reducible repeat (first | apply Kd.R_alloc | apply Kd.R_drewN | apply Kd.R_drew)); exact HO_8.out) hb); have n2_ := Aside0.mk (Kd.R_below (by (with_reducible repeat (first | apply Kd.R_alloc | apply Kd.R_drewN | apply Kd.R_drew)); exact HO_11.out) hb); have n3_ := Aside0.mk (below_step (by repeat (first | (with_reducible first | exact HB.out | apply below_alloc | apply pw_below_drewN | apply below_drew1) | exact HB.out)) hb); clear HO_5; clear HO_8; clear HO_11; clear HB; have HO_5 := n0_; have HO_8 := n1_; have HO_11 := n2_; have HB := n3_; clear n0_ n1_ n2_ n3_; (try clear hb); (try clear hb2); (try clear hk); (try clear hi)))
               go_ret
               exact ⟨by first | rfl | (simp [errW_none, errW_some] <;> rfl) | (simp [*, errW_none, errW_some] <;> rfl), by repeat (first | (with_reducible first | exact HB.out | apply below_alloc | apply pw_below_drewN | apply below_drew1) | exact HB.out)⟩
          ·rw [if_neg c21] at H
           have c21b0 : (t122 == 0) = false := beq_eq_false_iff_ne.mpr c21
           have c21b1 : (t122 != 0) = true := bne_iff_ne.mpr c21
           replace H := Option.bind_eq_some_iff.mp H
           obtain ⟨t131, A520, H⟩ := H
           replace H : (if t131 = true then (if t127 = t122 then (if t126 = (wrap64 (t121 + x14_2)) then (some ((t125.length : Int) == 0)) else (some false)) else (some false)) else (some false)) = some r := H
           have A52 := Aside0.mk A520
           clear A520
           by_cases c53 : t131 = true
           ·subst c53
            have H1 : (if t127 = t122 then (if t126 = (wrap64 (t121 + x14_2)) then (some ((t125.length : Int) == 0)) else (some false)) else (some false)) = some r := by rw [if_pos rfl] at H; exact H
            clear H
            have H := H1
            clear H1
            by_cases c54 : t127 = t122
            ·rw [if_pos c54] at H
             have c54b0 : (t127 == t122) = true := beq_iff_eq.mpr c54
             have c54b1 : (t127 != t122) = false := bne_eq_false_iff_eq.mpr c54
             clear c54
             by_cases c55 : t126 = (wrap64 (t121 + x14_2))
             ·rw [if_pos c55] at H
              have c55b0 : (t126 == (wrap64 (t121 + x14_2))) = true := beq_iff_eq.mpr c55
              have c55b1 : (t126 != (wrap64 (t121 + x14_2))) = false := bne_eq_false_iff_eq.mpr c55
              clear c55
              obtain rfl := Option.some.inj H
              go_wp2_with (first | ((with_reducible refine gate_callee (f := 11) rfl ?_); refine goesL_ (some 75) rfl rfl Tryd.func11 (by kernel_rfl) rfl #[] rfl (by (try simp only [List.map_toArray, List.map_cons, List.map_nil]); first | done | rfl | (simp only [List.length_drop, List.length_take]; rfl)) ?_; (with_reducible refine (gatewardenlaw10_awake.calls  true _ A52.out).mono ?_); rintro e w56 ⟨rfl, hb⟩; refine ⟨_, rfl, ?_⟩; have n0_ := Aside0.mk (Kd.R_below (by (with_reducible repeat (first | apply Kd.R_alloc | apply Kd.R_drewN | apply Kd.R_drew)); exact HO_5.out) hb); have n1_ := Aside0.mk (Kd.R_below (by (with_reducible repeat (first | apply Kd.R_alloc | apply Kd.R_drewN | apply Kd.R_drew)); exact HO_8.out) hb); have n2_ := Aside0.mk (Kd.R_below (by (with_reducible repeat (first | apply Kd.R_alloc | apply Kd.R_drewN | apply Kd.R_drew)); exact HO_11.out) hb); have n3_ := Aside0.mk (below_step (by repeat (first | (with_reducible first | exact HB.out | apply below_alloc | apply pw_below_drewN | apply below_drew1) | exact HB.out)) hb); clear HO_5; clear HO_8; clear HO_11; clear HB; have HO_5 := n0_; have HO_8 := n1_; have HO_11 := n2_; have HB := n3_; clear n0_ n1_ n2_ n3_; (try clear hb); (try clear hb2); (try clear hk); (try clear hi); obtain ⟨Ao57, co57, eo57⟩ := Kd.R_slice HO_11.out; subst eo57))
              go_ret
              exact ⟨by first | rfl | (simp [errW_none, errW_some] <;> rfl) | (simp [*, errW_none, errW_some] <;> rfl), by repeat (first | (with_reducible first | exact HB.out | apply below_alloc | apply pw_below_drewN | apply below_drew1) | exact HB.out)⟩
             ·rw [if_neg c55] at H
              have c55b0 : (t126 == (wrap64 (t121 + x14_2))) = false := beq_eq_false_iff_ne.mpr c55
              have c55b1 : (t126 != (wrap64 (t121 + x14_2))) = true := bne_iff_ne.mpr c55
              obtain rfl := Option.some.inj H
              go_wp2_with (first | ((with_reducible refine gate_callee (f := 11) rfl ?_); refine goesL_ (some 75) rfl rfl Tryd.func11 (by kernel_rfl) rfl #[] rfl (by (try simp only [List.map_toArray, List.map_cons, List.map_nil]); first | done | rfl | (simp only [List.length_drop, List.length_take]; rfl)) ?_; (with_reducible refine (gatewardenlaw10_awake.calls  true _ A52.out).mono ?_); rintro e w58 ⟨rfl, hb⟩; refine ⟨_, rfl, ?_⟩; have n0_ := Aside0.mk (Kd.R_below (by (with_reducible repeat (first | apply Kd.R_alloc | apply Kd.R_drewN | apply Kd.R_drew)); exact HO_5.out) hb); have n1_ := Aside0.mk (Kd.R_below (by (with_reducible repeat (first | apply Kd.R_alloc | apply Kd.R_drewN | apply Kd.R_drew)); exact HO_8.out) hb); have n2_ := Aside0.mk (Kd.R_below (by (with_reducible repeat (first | apply Kd.R_alloc | apply Kd.R_drewN | apply Kd.R_drew)); exact HO_11.out) hb); have n3_ := Aside0.mk (below_step (by repeat (first | (with_reducible first | exact HB.out | apply below_alloc | apply pw_below_drewN | apply below_drew1) | exact HB.out)) hb); clear HO_5; clear HO_8; clear HO_11; clear HB; have HO_5 := n0_; have HO_8 := n1_; have HO_11 := n2_; have HB := n3_; clear n0_ n1_ n2_ n3_; (try clear hb); (try clear hb2); (try clear hk); (try clear hi)))
              go_ret
              exact ⟨by first | rfl | (simp [errW_none, errW_some] <;> rfl) | (simp [*, errW_none, errW_some] <;> rfl), by repeat (first | (with_reducible first | exact HB.out | apply below_alloc | apply pw_below_drewN | apply below_drew1) | exact HB.out)⟩
            ·rw [if_neg c54] at H
             have c54b0 : (t127 == t122) = false := beq_eq_false_iff_ne.mpr c54
             have c54b1 : (t127 != t122) = true := bne_iff_ne.mpr c54
             obtain rfl := Option.some.inj H
             go_wp2_with (first | ((with_reducible refine gate_callee (f := 11) rfl ?_); refine goesL_ (some 75) rfl rfl Tryd.func11 (by kernel_rfl) rfl #[] rfl (by (try simp only [List.map_toArray, List.map_cons, List.map_nil]); first | done | rfl | (simp only [List.length_drop, List.length_take]; rfl)) ?_; (with_reducible refine (gatewardenlaw10_awake.calls  true _ A52.out).mono ?_); rintro e w59 ⟨rfl, hb⟩; refine ⟨_, rfl, ?_⟩; have n0_ := Aside0.mk (Kd.R_below (by (with_reducible repeat (first | apply Kd.R_alloc | apply Kd.R_drewN | apply Kd.R_drew)); exact HO_5.out) hb); have n1_ := Aside0.mk (Kd.R_below (by (with_reducible repeat (first | apply Kd.R_alloc | apply Kd.R_drewN | apply Kd.R_drew)); exact HO_8.out) hb); have n2_ := Aside0.mk (Kd.R_below (by (with_reducible repeat (first | apply Kd.R_alloc | apply Kd.R_drewN | apply Kd.R_drew)); exact HO_11.out) hb); have n3_ := Aside0.mk (below_step (by repeat (first | (with_reducible first | exact HB.out | apply below_alloc | apply pw_below_drewN | apply below_drew1) | exact HB.out)) hb); clear HO_5; clear HO_8; clear HO_11; clear HB; have HO_5 := n0_; have HO_8 := n1_; have HO_11 := n2_; have HB := n3_; clear n0_ n1_ n2_ n3_; (try clear hb); (try clear hb2); (try clear hk); (try clear hi)))
             go_ret
             exact ⟨by first | rfl | (simp [errW_none, errW_some] <;> rfl) | (simp [*, errW_none, errW_some] <;> rfl), by repeat (first | (with_reducible first | exact HB.out | apply below_alloc | apply pw_below_drewN | apply below_drew1) | exact HB.out)⟩
           ·replace c53 := Bool.eq_false_iff.mpr c53
            subst c53
            have H1 : (some false) = some r := by rw [if_neg (show ¬ (false = true) by decide)] at H; exact H
            clear H
            have H := H1
            clear H1
            obtain rfl := Option.some.inj H
            go_wp2_with (first | ((with_reducible refine gate_callee (f := 11) rfl ?_); refine goesL_ (some 75) rfl rfl Tryd.func11 (by kernel_rfl) rfl #[] rfl (by (try simp only [List.map_toArray, List.map_cons, List.map_nil]); first | done | rfl | (simp only [List.length_drop, List.length_take]; rfl)) ?_; (with_reducible refine (gatewardenlaw10_awake.calls  false _ A52.out).mono ?_); rintro e w60 ⟨rfl, hb⟩; refine ⟨_, rfl, ?_⟩; have n0_ := Aside0.mk (Kd.R_below (by (with_reducible repeat (first | apply Kd.R_alloc | apply Kd.R_drewN | apply Kd.R_drew)); exact HO_5.out) hb); have n1_ := Aside0.mk (Kd.R_below (by (with_reducible repeat (first | apply Kd.R_alloc | apply Kd.R_drewN | apply Kd.R_drew)); exact HO_8.out) hb); have n2_ := Aside0.mk (Kd.R_below (by (with_reducible repeat (first | apply Kd.R_alloc | apply Kd.R_drewN | apply Kd.R_drew)); exact HO_11.out) hb); have n3_ := Aside0.mk (below_step (by repeat (first | (with_reducible first | exact HB.out | apply below_alloc | apply pw_below_drewN | apply below_drew1) | exact HB.out)) hb); clear HO_5; clear HO_8; clear HO_11; clear HB; have HO_5 := n0_; have HO_8 := n1_; have HO_11 := n2_; have HB := n3_; clear n0_ n1_ n2_ n3_; (try clear hb); (try clear hb2); (try clear hk); (try clear hi)))
            go_ret
            exact ⟨by first | rfl | (simp [errW_none, errW_some] <;> rfl) | (simp [*, errW_none, errW_some] <;> rfl), by repeat (first | (with_reducible first | exact HB.out | apply below_alloc | apply pw_below_drewN | apply below_drew1) | exact HB.out)⟩
         ·rw [if_neg c20] at H
          have c20b0 : (t117 == 0) = false := beq_eq_false_iff_ne.mpr c20
          have c20b1 : (t117 != 0) = true := bne_iff_ne.mpr c20
          replace H := Option.bind_eq_some_iff.mp H
          obtain ⟨t130, A610, H⟩ := H
          replace H : (if t130 = true then (if t127 = t117 then (some (t126 == t116)) else (some false)) else (some false)) = some r := H
          have A61 := Aside0.mk A610
          clear A610
          by_cases c62 : t130 = true
          ·subst c62
           have H1 : (if t127 = t117 then (some (t126 == t116)) else (some false)) = some r := by rw [if_pos rfl] at H; exact H
           clear H
           have H := H1
           clear H1
           by_cases c63 : t127 = t117
           ·rw [if_pos c63] at H
            have c63b0 : (t127 == t117) = true := beq_iff_eq.mpr c63
            have c63b1 : (t127 != t117) = false := bne_eq_false_iff_eq.mpr c63
            clear c63
            obtain rfl := Option.some.inj H
            go_wp2_with (first | ((with_reducible refine gate_callee (f := 11) rfl ?_); refine goesL_ (some 62) rfl rfl Tryd.func11 (by kernel_rfl) rfl #[] rfl (by (try simp only [List.map_toArray, List.map_cons, List.map_nil]); first | done | rfl | (simp only [List.length_drop, List.length_take]; rfl)) ?_; (with_reducible refine (gatewardenlaw10_awake.calls  true _ A61.out).mono ?_); rintro e w64 ⟨rfl, hb⟩; refine ⟨_, rfl, ?_⟩; have n0_ := Aside0.mk (Kd.R_below (by (with_reducible repeat (first | apply Kd.R_alloc | apply Kd.R_drewN | apply Kd.R_drew)); exact HO_5.out) hb); have n1_ := Aside0.mk (Kd.R_below (by (with_reducible repeat (first | apply Kd.R_alloc | apply Kd.R_drewN | apply Kd.R_drew)); exact HO_8.out) hb); have n2_ := Aside0.mk (Kd.R_below (by (with_reducible repeat (first | apply Kd.R_alloc | apply Kd.R_drewN | apply Kd.R_drew)); exact HO_11.out) hb); have n3_ := Aside0.mk (below_step (by repeat (first | (with_reducible first | exact HB.out | apply below_alloc | apply pw_below_drewN | apply below_drew1) | exact HB.out)) hb); clear HO_5; clear HO_8; clear HO_11; clear HB; have HO_5 := n0_; have HO_8 := n1_; have HO_11 := n2_; have HB := n3_; clear n0_ n1_ n2_ n3_; (try clear hb); (try clear hb2); (try clear hk); (try clear hi)))
            go_ret
            exact ⟨by first | rfl | (simp [errW_none, errW_some] <;> rfl) | (simp [*, errW_none, errW_some] <;> rfl), by repeat (first | (with_reducible first | exact HB.out | apply below_alloc | apply pw_below_drewN | apply below_drew1) | exact HB.out)⟩
           ·rw [if_neg c63] at H
            have c63b0 : (t127 == t117) = false := beq_eq_false_iff_ne.mpr c63
            have c63b1 : (t127 != t117) = true := bne_iff_ne.mpr c63
            obtain rfl := Option.some.inj H
            go_wp2_with (first | ((with_reducible refine gate_callee (f := 11) rfl ?_); refine goesL_ (some 62) rfl rfl Tryd.func11 (by kernel_rfl) rfl #[] rfl (by (try simp only [List.map_toArray, List.map_cons, List.map_nil]); first | done | rfl | (simp only [List.length_drop, List.length_take]; rfl)) ?_; (with_reducible refine (gatewardenlaw10_awake.calls  true _ A61.out).mono ?_); rintro e w65 ⟨rfl, hb⟩; refine ⟨_, rfl, ?_⟩; have n0_ := Aside0.mk (Kd.R_below (by (with_reducible repeat (first | apply Kd.R_alloc | apply Kd.R_drewN | apply Kd.R_drew)); exact HO_5.out) hb); have n1_ := Aside0.mk (Kd.R_below (by (with_reducible repeat (first | apply Kd.R_alloc | apply Kd.R_drewN | apply Kd.R_drew)); exact HO_8.out) hb); have n2_ := Aside0.mk (Kd.R_below (by (with_reducible repeat (first | apply Kd.R_alloc | apply Kd.R_drewN | apply Kd.R_drew)); exact HO_11.out) hb); have n3_ := Aside0.mk (below_step (by repeat (first | (with_reducible first | exact HB.out | apply below_alloc | apply pw_below_drewN | apply below_drew1) | exact HB.out)) hb); clear HO_5; clear HO_8; clear HO_11; clear HB; have HO_5 := n0_; have HO_8 := n1_; have HO_11 := n2_; have HB := n3_; clear n0_ n1_ n2_ n3_; (try clear hb); (try clear hb2); (try clear hk); (try clear hi)))
            go_ret
            exact ⟨by first | rfl | (simp [errW_none, errW_some] <;> rfl) | (simp [*, errW_none, errW_some] <;> rfl), by repeat (first | (with_reducible first | exact HB.out | apply below_alloc | apply pw_below_drewN | apply below_drew1) | exact HB.out)⟩
          ·replace c62 := Bool.eq_false_iff.mpr c62
           subst c62
           have H1 : (some false) = some r := by rw [if_neg (show ¬ (false = true) by decide)] at H; exact H
           clear H
           have H := H1
           clear H1
           obtain rfl := Option.some.inj H
           go_wp2_with (first | ((with_reducible refine gate_callee (f := 11) rfl ?_); refine goesL_ (some 62) rfl rfl Tryd.func11 (by kernel_rfl) rfl #[] rfl (by (try simp only [List.map_toArray, List.map_cons, List.map_nil]); first | done | rfl | (simp only [List.length_drop, List.length_take]; rfl)) ?_; (with_reducible refine (gatewardenlaw10_awake.calls  false _ A61.out).mono ?_); rintro e w66 ⟨rfl, hb⟩; refine ⟨_, rfl, ?_⟩; have n0_ := Aside0.mk (Kd.R_below (by (with_reducible repeat (first | apply Kd.R_alloc | apply Kd.R_drewN | apply Kd.R_drew)); exact HO_5.out) hb); have n1_ := Aside0.mk (Kd.R_below (by (with_reducible repeat (first | apply Kd.R_alloc | apply Kd.R_drewN | apply Kd.R_drew)); exact HO_8.out) hb); have n2_ := Aside0.mk (Kd.R_below (by (with_reducible repeat (first | apply Kd.R_alloc | apply Kd.R_drewN | apply Kd.R_drew)); exact HO_11.out) hb); have n3_ := Aside0.mk (below_step (by repeat (first | (with_reducible first | exact HB.out | apply below_alloc | apply pw_below_drewN | apply below_drew1) | exact HB.out)) hb); clear HO_5; clear HO_8; clear HO_11; clear HB; have HO_5 := n0_; have HO_8 := n1_; have HO_11 := n2_; have HB := n3_; clear n0_ n1_ n2_ n3_; (try clear hb); (try clear hb2); (try clear hk); (try clear hi)))
           go_ret
           exact ⟨by first | rfl | (simp [errW_none, errW_some] <;> rfl) | (simp [*, errW_none, errW_some] <;> rfl), by repeat (first | (with_reducible first | exact HB.out | apply below_alloc | apply pw_below_drewN | apply below_drew1) | exact HB.out)⟩
     ·rw [if_neg c11] at H
      exact absurd H (by simp)
    ·rw [if_neg c10] at H
     exact absurd H (by simp)

/-- THE ONE PURE STATEMENT of gatewardenlaw10_LexJoins: yours. -/
def gatewardenlaw10_LexJoins.Pure : Prop := ∀ (a0 : ByteArray) (a1 : ByteArray), a0.size ≤ 140737488351232 → a1.size ≤ 140737488351232 → ∃ k, gatewardenlaw10_LexJoins.f k a0 a1 = some true
theorem gatewardenlaw10_LexJoins.walk (P : gatewardenlaw10_LexJoins.Pure) (a0 : ByteArray) (a1 : ByteArray) (w : World) (w0 : a0.size ≤ 140737488351232) (w1 : a1.size ≤ 140737488351232) :
  Calls Tryd.prog 3 #[.string a0, .string a1] w fun e w' => e = .returned (.bool true) ∧ Below w.heap.size w w' := by
 obtain ⟨k, h⟩ := P a0 a1 w0 w1
 refine (gatewardenlaw10_LexJoins.calls k a0 a1 true w h).mono ?_
 rintro e w' ⟨rfl, hd⟩
 exact ⟨rfl, hd⟩
end Go.Proofs.YtjllahglfpbemaaDoor.PGuardTells
