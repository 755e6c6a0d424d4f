/- Texts of this claim, put together (wip/pack.py): PAskSizesm1, PAskSizesm3. -/
import Derived.Test.YtinoabkfekomcaaK1
import Derived.Test.YtinoabkfekomcaaK23
namespace Go.Proofs.Ytinoabkfekomcaa.PAskSizes
open Go.RowKit Go.Proofs.YtinoabkfekomcaaW.PrintWords Go.Proofs.YtinoabkfekomcaaW.PrintLast Go.Proofs.YtinoabkfekomcaaW.PrintMore
attribute [local go_sem] max2_int min2_int max_two min_two max_three min_three max_four min_four   -- for this text's walks alone
set_option linter.unusedVariables false
set_option linter.unusedSimpArgs false

/-! ### gatewardenlaw21_few: function 37 -/
def gatewardenlaw21_few.l0 : Nat → List (S56) → Int → Option (Bool)
 | 0, _, _ => none
 | k + 1, x0, x3 => if x3 < (x0.length : Int) then (if 0 ≤ x3 then (if (((rd_T56 x0 x3).f5.f5).length : Int) > 2000 then (some false) else (gatewardenlaw21_few.l0 k x0 (wrap64 (x3 + 1)))) else (none)) else (some true)
def gatewardenlaw21_few.f (k : Nat) (l0 : List (S56)) : Option (Bool) := if (l0.length : Int) > 80 then (some false) else (gatewardenlaw21_few.l0 k l0 0)
theorem gatewardenlaw21_few.mono_l : ∀ k, (∀ y0 y1, LeO (gatewardenlaw21_few.l0 k y0 y1) (gatewardenlaw21_few.l0 (k + 1) y0 y1))
 | 0 => fun _ _ r h => by simp [gatewardenlaw21_few.l0] at h
 | k + 1 => by
  have ih0 := gatewardenlaw21_few.mono_l k
  ·intro y0 y1
   unfold gatewardenlaw21_few.l0
   repeat' first
   | (with_reducible exact ih0 _ _)
   | (with_reducible exact LeO.refl _)
   | (with_reducible exact LeO.none _)
   | (with_reducible refine LeO.ite ?_ ?_)
   | (with_reducible refine LeO.bind ?_ (fun _ => ?_))
   | exact ih0 _ _
   | exact LeO.none _
   | refine LeO.ite ?_ ?_
   | refine LeO.bind ?_ (fun _ => ?_)
theorem gatewardenlaw21_few.mono : ∀ a0 k, LeO (gatewardenlaw21_few.f k a0) (gatewardenlaw21_few.f (k + 1) a0) := by
 intro a0 k
 have ih0 := gatewardenlaw21_few.mono_l k
 unfold gatewardenlaw21_few.f
 repeat' first
   | (with_reducible exact ih0 _ _)
   | (with_reducible exact LeO.refl _)
   | (with_reducible exact LeO.none _)
   | (with_reducible refine LeO.ite ?_ ?_)
   | (with_reducible refine LeO.bind ?_ (fun _ => ?_))
   | exact ih0 _ _
   | exact LeO.none _
   | refine LeO.ite ?_ ?_
   | refine LeO.bind ?_ (fun _ => ?_)
set_option maxHeartbeats 8000000 in
set_option maxRecDepth 100000 in
theorem gatewardenlaw21_few.calls (k : Nat) (A0 : Option Addr) (c0 : Nat) (l0 : List (S56)) (r : Bool) (w : World) (hr0 : Kd.C k56 w A0 l0.length l0) (hc0 : l0.length ≤ c0) (h : gatewardenlaw21_few.f k l0 = some r) :
  Calls Try.prog 37 #[.slice A0 l0.length c0] w fun e w' => e = .returned (.bool r) ∧ Drawn0 w w' := by
 have HR0 := Aside0.mk hr0
 have HC0 := Aside0.mk hc0
 clear hr0 hc0
 have H : (if (l0.length : Int) > 80 then (some false) else (gatewardenlaw21_few.l0 k l0 0)) = some r := h
 clear h
 by_cases c2 : (l0.length : Int) > 80
 ·rw [if_pos c2] at H
  have c2b0 : decide (80 < (l0.length : Int)) = true := decide_eq_true c2
  have c2b1 : decide (80 < l0.length) = true := decide_eq_true (by omega)
  clear c2
  obtain rfl := Option.some.inj H
  go_enter Try.func37, Try.ntmps37
  go_wp2
  go_ret
  exact ⟨by first | rfl | (simp; done) | (simp [*]; done), by repeat (first | exact Drawn0.refl _ | apply Drawn0.step)⟩
 ·rw [if_neg c2] at H
  have c2b0 : decide (80 < (l0.length : Int)) = false := decide_eq_false c2
  have c2b1 : decide (80 < l0.length) = false := decide_eq_false (by omega)
  clear c2
  have H' := Aside0.mk H
  clear H
  go_enter Try.func37, Try.ntmps37
  go_wp2
  go_loopg [3] k (fun kq v3 w' => ∃ (x3_1 : Int), v3 = .int .i64 x3_1 ∧ Aside0 (gatewardenlaw21_few.l0 kq l0 x3_1 = some r) ∧ Aside0 (kq ≤ k) ∧ Drawn0 w w')
  case atStart => exact ⟨(0), (by first | rfl | (simp; done) | (simp [*]; done)), H', ⟨Nat.le_refl _⟩, by repeat (first | exact Drawn0.refl _ | apply Drawn0.step)⟩
  case round =>
   clear H'
   try clear c2
   try clear c2b0
   try clear c2b1
   try clear p2
   obtain ⟨x3_1, rfl, HA, HK1, ⟨m1, rfl⟩⟩ := hrel
   cases gk with
   | zero => exact absurd HA.out (by simp [gatewardenlaw21_few.l0])
   | succ k1 =>
    have H := HA.out
    clear HA
    simp only [gatewardenlaw21_few.l0] at H
    by_cases c3 : x3_1 < (l0.length : Int)
    ·rw [if_pos c3] at H
     have c3b0 : decide (x3_1 < (l0.length : Int)) = true := decide_eq_true c3
     clear c3
     by_cases c4 : 0 ≤ x3_1
     ·rw [if_pos c4] at H
      have c4b0 : decide (0 ≤ x3_1) = true := decide_eq_true c4
      clear c4
      by_cases c5 : (((rd_T56 l0 x3_1).f5.f5).length : Int) > 2000
      ·rw [if_pos c5] at H
       have c5b0 : decide (2000 < (((rd_T56 l0 x3_1).f5.f5).length : Int)) = true := decide_eq_true c5
       have c5b1 : decide (2000 < ((rd_T56 l0 x3_1).f5.f5).length) = true := decide_eq_true (by omega)
       clear c5
       obtain rfl := Option.some.inj H
       have p204 : 0 ≤ (x3_1 : Int) := of_decide_eq_true (by first | (with_reducible assumption) | assumption)
       have q204 : x3_1 < (l0.length : Int) := of_decide_eq_true (by first | (with_reducible assumption) | assumption)
       obtain ⟨ad204, A204_10, c204_10, e204, hx204_0, hx204_1, hx204_2, hx204_3, hx204_4, hx204_5, hx204_6, hx204_7, hx204_8, hx204_9, hx204_10, hx204_11, hl204_10, hi204_10⟩ := at_T56 HR0.out x3_1 p204 q204
       cases e204
       have HR204_10 := Aside0.mk hi204_10
       have HC204_10 := Aside0.mk hl204_10
       clear hi204_10 hl204_10
       replace p204 := eq_true p204
       replace q204 := eq_true q204
       go_wp2
       go_ret
       exact ⟨by first | rfl | (simp; done) | (simp [*]; done), by repeat (first | exact Drawn0.refl _ | apply Drawn0.step)⟩
      ·rw [if_neg c5] at H
       have c5b0 : decide (2000 < (((rd_T56 l0 x3_1).f5.f5).length : Int)) = false := decide_eq_false c5
       have c5b1 : decide (2000 < ((rd_T56 l0 x3_1).f5.f5).length) = false := decide_eq_false (by omega)
       clear c5
       have H' := Aside0.mk H
       clear H
       have p204 : 0 ≤ (x3_1 : Int) := of_decide_eq_true (by first | (with_reducible assumption) | assumption)
       have q204 : x3_1 < (l0.length : Int) := of_decide_eq_true (by first | (with_reducible assumption) | assumption)
       obtain ⟨ad204, A204_10, c204_10, e204, hx204_0, hx204_1, hx204_2, hx204_3, hx204_4, hx204_5, hx204_6, hx204_7, hx204_8, hx204_9, hx204_10, hx204_11, hl204_10, hi204_10⟩ := at_T56 HR0.out x3_1 p204 q204
       cases e204
       have HR204_10 := Aside0.mk hi204_10
       have HC204_10 := Aside0.mk hl204_10
       clear hi204_10 hl204_10
       replace p204 := eq_true p204
       replace q204 := eq_true q204
       go_wp2
       go_roundg k1
       case measure => have := HK1.out; omega
       case rel => exact ⟨(wrap64 (x3_1 + 1)), (by first | rfl | (simp; done) | (simp [*]; done)), H', ⟨by have := HK1.out; omega⟩, by repeat (first | exact Drawn0.refl _ | apply Drawn0.step)⟩
     ·rw [if_neg c4] at H
      exact absurd H (by simp)
    ·rw [if_neg c3] at H
     have c3b0 : decide (x3_1 < (l0.length : Int)) = false := decide_eq_false c3
     clear c3
     obtain rfl := Option.some.inj H
     go_wp2
     go_ret
     exact ⟨by first | rfl | (simp; done) | (simp [*]; done), by repeat (first | exact Drawn0.refl _ | apply Drawn0.step)⟩


/-! ### gatewardenref20_Right: function 38 -/
mutual
def gatewardenref20_Right.l0 : Nat → List (S56) → Int → Option (Bool)
 | 0, _, _ => none
 | k + 1, x0, x3 => if x3 < (x0.length : Int) then (gatewardenref20_Right.l1 k x0 x3 0) else (some true)
def gatewardenref20_Right.l1 : Nat → List (S56) → Int → Int → Option (Bool)
 | 0, _, _, _ => none
 | k + 1, x0, x3, x4 => if x4 < x3 then (if 0 ≤ x4 then (if x4 < (x0.length : Int) then (if 0 ≤ x3 then (if x3 < (x0.length : Int) then (if ((rd_T56 x0 x4).f0) = ((rd_T56 x0 x3).f0) then (some false) else (gatewardenref20_Right.l1 k x0 x3 (wrap64 (x4 + 1)))) else (none)) else (none)) else (none)) else (none)) else (gatewardenref20_Right.l0 k x0 (wrap64 (x3 + 1)))
end
def gatewardenref20_Right.f (k : Nat) (l0 : List (S56)) : Option (Bool) := gatewardenref20_Right.l0 k l0 0
theorem gatewardenref20_Right.mono_l : ∀ k, (∀ y0 y1, LeO (gatewardenref20_Right.l0 k y0 y1) (gatewardenref20_Right.l0 (k + 1) y0 y1)) ∧ (∀ y0 y1 y2, LeO (gatewardenref20_Right.l1 k y0 y1 y2) (gatewardenref20_Right.l1 (k + 1) y0 y1 y2))
 | 0 => ⟨fun _ _ r h => by simp [gatewardenref20_Right.l0] at h, fun _ _ _ r h => by simp [gatewardenref20_Right.l1] at h⟩
 | k + 1 => by
  obtain ⟨ih0, ih1⟩ := gatewardenref20_Right.mono_l k
  refine ⟨?_, ?_⟩
  ·intro y0 y1
   unfold gatewardenref20_Right.l0
   repeat' first
   | (with_reducible exact ih0 _ _)
   | (with_reducible exact ih1 _ _ _)
   | (with_reducible exact LeO.refl _)
   | (with_reducible exact LeO.none _)
   | (with_reducible refine LeO.ite ?_ ?_)
   | (with_reducible refine LeO.bind ?_ (fun _ => ?_))
   | exact ih0 _ _
   | exact ih1 _ _ _
   | exact LeO.none _
   | refine LeO.ite ?_ ?_
   | refine LeO.bind ?_ (fun _ => ?_)
  ·intro y0 y1 y2
   unfold gatewardenref20_Right.l1
   repeat' first
   | (with_reducible exact ih0 _ _)
   | (with_reducible exact ih1 _ _ _)
   | (with_reducible exact LeO.refl _)
   | (with_reducible exact LeO.none _)
   | (with_reducible refine LeO.ite ?_ ?_)
   | (with_reducible refine LeO.bind ?_ (fun _ => ?_))
   | exact ih0 _ _
   | exact ih1 _ _ _
   | exact LeO.none _
   | refine LeO.ite ?_ ?_
   | refine LeO.bind ?_ (fun _ => ?_)
theorem gatewardenref20_Right.mono : ∀ a0 k, LeO (gatewardenref20_Right.f k a0) (gatewardenref20_Right.f (k + 1) a0) := by
 intro a0 k
 obtain ⟨ih0, ih1⟩ := gatewardenref20_Right.mono_l k
 unfold gatewardenref20_Right.f
 repeat' first
   | (with_reducible exact ih0 _ _)
   | (with_reducible exact ih1 _ _ _)
   | (with_reducible exact LeO.refl _)
   | (with_reducible exact LeO.none _)
   | (with_reducible refine LeO.ite ?_ ?_)
   | (with_reducible refine LeO.bind ?_ (fun _ => ?_))
   | exact ih0 _ _
   | exact ih1 _ _ _
   | exact LeO.none _
   | refine LeO.ite ?_ ?_
   | refine LeO.bind ?_ (fun _ => ?_)
set_option maxHeartbeats 8000000 in
set_option maxRecDepth 100000 in
theorem gatewardenref20_Right.calls (k : Nat) (A0 : Option Addr) (c0 : Nat) (l0 : List (S56)) (r : Bool) (w : World) (hr0 : Kd.C k56 w A0 l0.length l0) (hc0 : l0.length ≤ c0) (h : gatewardenref20_Right.f k l0 = some r) :
  Calls Try.prog 38 #[.slice A0 l0.length c0] w fun e w' => e = .returned (.bool r) ∧ Drawn0 w w' := by
 have HR0 := Aside0.mk hr0
 have HC0 := Aside0.mk hc0
 clear hr0 hc0
 have H : (gatewardenref20_Right.l0 k l0 0) = some r := h
 clear h
 have H' := Aside0.mk H
 clear H
 go_enter Try.func38, Try.ntmps38
 go_wp2
 repeat (go_quiet (fail); try go_wp2)
 go_loopg [3] k (fun kq v3 w' => ∃ (x3_1 : Int), v3 = .int .i64 x3_1 ∧ Aside0 (gatewardenref20_Right.l0 kq l0 x3_1 = some r) ∧ Aside0 (kq ≤ k) ∧ Drawn0 w w')
 case atStart => exact ⟨(0), (by first | rfl | (simp; done) | (simp [*]; done)), H', ⟨Nat.le_refl _⟩, by repeat (first | exact Drawn0.refl _ | apply Drawn0.step)⟩
 case round =>
  clear H'
  obtain ⟨x3_1, rfl, HA, HK1, ⟨m1, rfl⟩⟩ := hrel
  cases gk with
  | zero => exact absurd HA.out (by simp [gatewardenref20_Right.l0])
  | succ k1 =>
   have H := HA.out
   clear HA
   simp only [gatewardenref20_Right.l0] at H
   by_cases c2 : x3_1 < (l0.length : Int)
   ·rw [if_pos c2] at H
    have c2b0 : decide (x3_1 < (l0.length : Int)) = true := decide_eq_true c2
    clear c2
    have H' := Aside0.mk H
    clear H
    go_wp2
    repeat (go_quiet (fail); try go_wp2)
    go_loopg [4] k1 (fun kq v4 w' => ∃ (x4_2 : Int), v4 = .int .i64 x4_2 ∧ Aside0 (gatewardenref20_Right.l1 kq l0 x3_1 x4_2 = some r) ∧ Aside0 (kq ≤ k1) ∧ Drawn0 w w')
    case atStart => exact ⟨(0), (by first | rfl | (simp; done) | (simp [*]; done)), H', ⟨Nat.le_refl _⟩, by repeat (first | exact Drawn0.refl _ | apply Drawn0.step)⟩
    case round =>
     clear H'
     try clear c2
     try clear c2b0
     try clear p2
     obtain ⟨x4_2, rfl, HA, HK2, ⟨m2, rfl⟩⟩ := hrel
     cases gk with
     | zero => exact absurd HA.out (by simp [gatewardenref20_Right.l1])
     | succ k2 =>
      have H := HA.out
      clear HA
      simp only [gatewardenref20_Right.l1] at H
      by_cases c3 : x4_2 < x3_1
      ·rw [if_pos c3] at H
       have c3b0 : decide (x4_2 < x3_1) = true := decide_eq_true c3
       clear c3
       by_cases c4 : 0 ≤ x4_2
       ·rw [if_pos c4] at H
        have c4b0 : decide (0 ≤ x4_2) = true := decide_eq_true c4
        clear c4
        by_cases c5 : x4_2 < (l0.length : Int)
        ·rw [if_pos c5] at H
         have c5b0 : decide (x4_2 < (l0.length : Int)) = true := decide_eq_true c5
         clear c5
         by_cases c6 : 0 ≤ x3_1
         ·rw [if_pos c6] at H
          have c6b0 : decide (0 ≤ x3_1) = true := decide_eq_true c6
          clear c6
          by_cases c7 : x3_1 < (l0.length : Int)
          ·rw [if_pos c7] at H
           have c7b0 : decide (x3_1 < (l0.length : Int)) = true := decide_eq_true c7
           clear c7
           by_cases c8 : ((rd_T56 l0 x4_2).f0) = ((rd_T56 l0 x3_1).f0)
           ·rw [if_pos c8] at H
            have c8b0 : (((rd_T56 l0 x4_2).f0) == ((rd_T56 l0 x3_1).f0)) = true := beq_iff_eq.mpr c8
            have c8b1 : (((rd_T56 l0 x4_2).f0) != ((rd_T56 l0 x3_1).f0)) = false := bne_eq_false_iff_eq.mpr c8
            clear c8
            obtain rfl := Option.some.inj H
            have p205 : 0 ≤ (x4_2 : Int) := of_decide_eq_true (by first | (with_reducible assumption) | assumption)
            have q205 : x4_2 < (l0.length : Int) := of_decide_eq_true (by first | (with_reducible assumption) | assumption)
            obtain ⟨ad205, A205_10, c205_10, e205, hx205_0, hx205_1, hx205_2, hx205_3, hx205_4, hx205_5, hx205_6, hx205_7, hx205_8, hx205_9, hx205_10, hx205_11, hl205_10, hi205_10⟩ := at_T56 HR0.out x4_2 p205 q205
            cases e205
            have HR205_10 := Aside0.mk hi205_10
            have HC205_10 := Aside0.mk hl205_10
            clear hi205_10 hl205_10
            replace p205 := eq_true p205
            replace q205 := eq_true q205
            have p206 : 0 ≤ (x3_1 : Int) := of_decide_eq_true (by first | (with_reducible assumption) | assumption)
            have q206 : x3_1 < (l0.length : Int) := of_decide_eq_true (by first | (with_reducible assumption) | assumption)
            obtain ⟨ad206, A206_10, c206_10, e206, hx206_0, hx206_1, hx206_2, hx206_3, hx206_4, hx206_5, hx206_6, hx206_7, hx206_8, hx206_9, hx206_10, hx206_11, hl206_10, hi206_10⟩ := at_T56 HR0.out x3_1 p206 q206
            obtain rfl : ad205 = ad206 := (by injection e206)
            have HR206_10 := Aside0.mk hi206_10
            have HC206_10 := Aside0.mk hl206_10
            clear hi206_10 hl206_10
            replace p206 := eq_true p206
            replace q206 := eq_true q206
            go_wp2
            repeat (go_quiet (fail); try go_wp2)
            go_ret
            exact ⟨by first | rfl | (simp; done) | (simp [*]; done), by repeat (first | exact Drawn0.refl _ | apply Drawn0.step)⟩
           ·rw [if_neg c8] at H
            have c8b0 : (((rd_T56 l0 x4_2).f0) == ((rd_T56 l0 x3_1).f0)) = false := beq_eq_false_iff_ne.mpr c8
            have c8b1 : (((rd_T56 l0 x4_2).f0) != ((rd_T56 l0 x3_1).f0)) = true := bne_iff_ne.mpr c8
            have H' := Aside0.mk H
            clear H
            have p205 : 0 ≤ (x4_2 : Int) := of_decide_eq_true (by first | (with_reducible assumption) | assumption)
            have q205 : x4_2 < (l0.length : Int) := of_decide_eq_true (by first | (with_reducible assumption) | assumption)
            obtain ⟨ad205, A205_10, c205_10, e205, hx205_0, hx205_1, hx205_2, hx205_3, hx205_4, hx205_5, hx205_6, hx205_7, hx205_8, hx205_9, hx205_10, hx205_11, hl205_10, hi205_10⟩ := at_T56 HR0.out x4_2 p205 q205
            cases e205
            have HR205_10 := Aside0.mk hi205_10
            have HC205_10 := Aside0.mk hl205_10
            clear hi205_10 hl205_10
            replace p205 := eq_true p205
            replace q205 := eq_true q205
            have p206 : 0 ≤ (x3_1 : Int) := of_decide_eq_true (by first | (with_reducible assumption) | assumption)
            have q206 : x3_1 < (l0.length : Int) := of_decide_eq_true (by first | (with_reducible assumption) | assumption)
            obtain ⟨ad206, A206_10, c206_10, e206, hx206_0, hx206_1, hx206_2, hx206_3, hx206_4, hx206_5, hx206_6, hx206_7, hx206_8, hx206_9, hx206_10, hx206_11, hl206_10, hi206_10⟩ := at_T56 HR0.out x3_1 p206 q206
            obtain rfl : ad205 = ad206 := (by injection e206)
            have HR206_10 := Aside0.mk hi206_10
            have HC206_10 := Aside0.mk hl206_10
            clear hi206_10 hl206_10
            replace p206 := eq_true p206
            replace q206 := eq_true q206
            go_wp2
            repeat (go_quiet (fail); try go_wp2)
            go_roundg k2
            case measure => have := HK1.out; have := HK2.out; omega
            case rel => exact ⟨(wrap64 (x4_2 + 1)), (by first | rfl | (simp; done) | (simp [*]; done)), H', ⟨by have := HK1.out; have := HK2.out; omega⟩, by repeat (first | exact Drawn0.refl _ | apply Drawn0.step)⟩
          ·rw [if_neg c7] at H
           exact absurd H (by simp)
         ·rw [if_neg c6] at H
          exact absurd H (by simp)
        ·rw [if_neg c5] at H
         exact absurd H (by simp)
       ·rw [if_neg c4] at H
        exact absurd H (by simp)
      ·rw [if_neg c3] at H
       have c3b0 : decide (x4_2 < x3_1) = false := decide_eq_false c3
       clear c3
       have H' := Aside0.mk H
       clear H
       go_wp2
       repeat (go_quiet (fail); try go_wp2)
       go_roundg k2
       case measure => have := HK1.out; have := HK2.out; omega
       case rel => exact ⟨(wrap64 (x3_1 + 1)), (by first | rfl | (simp; done) | (simp [*]; done)), H', ⟨by have := HK1.out; have := HK2.out; omega⟩, by repeat (first | exact Drawn0.refl _ | apply Drawn0.step)⟩
   ·rw [if_neg c2] at H
    have c2b0 : decide (x3_1 < (l0.length : Int)) = false := decide_eq_false c2
    clear c2
    obtain rfl := Option.some.inj H
    go_wp2
    repeat (go_quiet (fail); try go_wp2)
    go_ret
    exact ⟨by first | rfl | (simp; done) | (simp [*]; done), by repeat (first | exact Drawn0.refl _ | apply Drawn0.step)⟩

-- NOT PRINTED: function 85 (api_Pending)

-- NOT PRINTED: function 67 (pend_Find)
end Go.Proofs.Ytinoabkfekomcaa.PAskSizes
namespace Go.Proofs.Ytinoabkfekomcaa.PAskSizes
open Go.RowKit Go.Proofs.YtinoabkfekomcaaW.PrintWords Go.Proofs.YtinoabkfekomcaaW.PrintLast Go.Proofs.YtinoabkfekomcaaW.PrintMore
attribute [local go_sem] max2_int min2_int max_two min_two max_three min_three max_four min_four   -- for this text's walks alone
set_option linter.unusedVariables false
set_option linter.unusedSimpArgs false

/-! ### gatewardenref20_Find: function 69 -/
def gatewardenref20_Find.l0 : Nat → List (S56) → Int → Int → Option (Int)
 | 0, _, _, _ => none
 | k + 1, x0, x1, x5 => if x5 < (x0.length : Int) then (if 0 ≤ x5 then (if ((rd_T56 x0 x5).f0) = x1 then (some x5) else (gatewardenref20_Find.l0 k x0 x1 (wrap64 (x5 + 1)))) else (none)) else (some (-1))
def gatewardenref20_Find.f (k : Nat) (l0 : List (S56)) (a1 : Int) : Option (Int) := gatewardenref20_Find.l0 k l0 a1 0
theorem gatewardenref20_Find.mono_l : ∀ k, (∀ y0 y1 y2, LeO (gatewardenref20_Find.l0 k y0 y1 y2) (gatewardenref20_Find.l0 (k + 1) y0 y1 y2))
 | 0 => fun _ _ _ r h => by simp [gatewardenref20_Find.l0] at h
 | k + 1 => by
  have ih0 := gatewardenref20_Find.mono_l k
  ·intro y0 y1 y2
   unfold gatewardenref20_Find.l0
   repeat' first
   | (with_reducible exact ih0 _ _ _)
   | (with_reducible exact LeO.refl _)
   | (with_reducible exact LeO.none _)
   | (with_reducible refine LeO.ite ?_ ?_)
   | (with_reducible refine LeO.bind ?_ (fun _ => ?_))
   | exact ih0 _ _ _
   | exact LeO.none _
   | refine LeO.ite ?_ ?_
   | refine LeO.bind ?_ (fun _ => ?_)
theorem gatewardenref20_Find.mono : ∀ a0 a1 k, LeO (gatewardenref20_Find.f k a0 a1) (gatewardenref20_Find.f (k + 1) a0 a1) := by
 intro a0 a1 k
 have ih0 := gatewardenref20_Find.mono_l k
 unfold gatewardenref20_Find.f
 repeat' first
   | (with_reducible exact ih0 _ _ _)
   | (with_reducible exact LeO.refl _)
   | (with_reducible exact LeO.none _)
   | (with_reducible refine LeO.ite ?_ ?_)
   | (with_reducible refine LeO.bind ?_ (fun _ => ?_))
   | exact ih0 _ _ _
   | exact LeO.none _
   | refine LeO.ite ?_ ?_
   | refine LeO.bind ?_ (fun _ => ?_)
set_option maxHeartbeats 8000000 in
set_option maxRecDepth 100000 in
theorem gatewardenref20_Find.calls (k : Nat) (A0 : Option Addr) (c0 : Nat) (l0 : List (S56)) (a1 : Int) (r : Int) (w : World) (hr0 : Kd.C k56 w A0 l0.length l0) (hc0 : l0.length ≤ c0) (h : gatewardenref20_Find.f k l0 a1 = some r) :
  Calls Try.prog 69 #[.slice A0 l0.length c0, .int .i64 a1] w fun e w' => e = .returned (.int .i64 r) ∧ Drawn0 w w' := by
 have HR0 := Aside0.mk hr0
 have HC0 := Aside0.mk hc0
 clear hr0 hc0
 have H : (gatewardenref20_Find.l0 k l0 a1 0) = some r := h
 clear h
 have H' := Aside0.mk H
 clear H
 go_enter Try.func69, Try.ntmps69
 go_wp2
 go_loopg [5] k (fun kq v5 w' => ∃ (x5_1 : Int), v5 = .int .i64 x5_1 ∧ Aside0 (gatewardenref20_Find.l0 kq l0 a1 x5_1 = some r) ∧ Aside0 (kq ≤ k) ∧ Drawn0 w w')
 case atStart => exact ⟨(0), (by first | rfl | (simp; done) | (simp [*]; done)), H', ⟨Nat.le_refl _⟩, by repeat (first | exact Drawn0.refl _ | apply Drawn0.step)⟩
 case round =>
  clear H'
  try clear p2
  obtain ⟨x5_1, rfl, HA, HK1, ⟨m1, rfl⟩⟩ := hrel
  cases gk with
  | zero => exact absurd HA.out (by simp [gatewardenref20_Find.l0])
  | succ k1 =>
   have H := HA.out
   clear HA
   simp only [gatewardenref20_Find.l0] at H
   by_cases c3 : x5_1 < (l0.length : Int)
   ·rw [if_pos c3] at H
    have c3b0 : decide (x5_1 < (l0.length : Int)) = true := decide_eq_true c3
    clear c3
    by_cases c4 : 0 ≤ x5_1
    ·rw [if_pos c4] at H
     have c4b0 : decide (0 ≤ x5_1) = true := decide_eq_true c4
     clear c4
     by_cases c5 : ((rd_T56 l0 x5_1).f0) = a1
     ·rw [if_pos c5] at H
      have c5b0 : (((rd_T56 l0 x5_1).f0) == a1) = true := beq_iff_eq.mpr c5
      have c5b1 : (((rd_T56 l0 x5_1).f0) != a1) = false := bne_eq_false_iff_eq.mpr c5
      clear c5
      obtain rfl := Option.some.inj H
      have p290 : 0 ≤ (x5_1 : Int) := of_decide_eq_true (by first | (with_reducible assumption) | assumption)
      have q290 : x5_1 < (l0.length : Int) := of_decide_eq_true (by first | (with_reducible assumption) | assumption)
      obtain ⟨ad290, A290_10, c290_10, e290, hx290_0, hx290_1, hx290_2, hx290_3, hx290_4, hx290_5, hx290_6, hx290_7, hx290_8, hx290_9, hx290_10, hx290_11, hl290_10, hi290_10⟩ := at_T56 HR0.out x5_1 p290 q290
      cases e290
      have HR290_10 := Aside0.mk hi290_10
      have HC290_10 := Aside0.mk hl290_10
      clear hi290_10 hl290_10
      replace p290 := eq_true p290
      replace q290 := eq_true q290
      go_wp2
      go_ret
      exact ⟨by first | rfl | (simp; done) | (simp [*]; done), by repeat (first | exact Drawn0.refl _ | apply Drawn0.step)⟩
     ·rw [if_neg c5] at H
      have c5b0 : (((rd_T56 l0 x5_1).f0) == a1) = false := beq_eq_false_iff_ne.mpr c5
      have c5b1 : (((rd_T56 l0 x5_1).f0) != a1) = true := bne_iff_ne.mpr c5
      have H' := Aside0.mk H
      clear H
      have p290 : 0 ≤ (x5_1 : Int) := of_decide_eq_true (by first | (with_reducible assumption) | assumption)
      have q290 : x5_1 < (l0.length : Int) := of_decide_eq_true (by first | (with_reducible assumption) | assumption)
      obtain ⟨ad290, A290_10, c290_10, e290, hx290_0, hx290_1, hx290_2, hx290_3, hx290_4, hx290_5, hx290_6, hx290_7, hx290_8, hx290_9, hx290_10, hx290_11, hl290_10, hi290_10⟩ := at_T56 HR0.out x5_1 p290 q290
      cases e290
      have HR290_10 := Aside0.mk hi290_10
      have HC290_10 := Aside0.mk hl290_10
      clear hi290_10 hl290_10
      replace p290 := eq_true p290
      replace q290 := eq_true q290
      go_wp2
      go_roundg k1
      case measure => have := HK1.out; omega
      case rel => exact ⟨(wrap64 (x5_1 + 1)), (by first | rfl | (simp; done) | (simp [*]; done)), H', ⟨by have := HK1.out; omega⟩, by repeat (first | exact Drawn0.refl _ | apply Drawn0.step)⟩
    ·rw [if_neg c4] at H
     exact absurd H (by simp)
   ·rw [if_neg c3] at H
    have c3b0 : decide (x5_1 < (l0.length : Int)) = false := decide_eq_false c3
    clear c3
    obtain rfl := Option.some.inj H
    go_wp2
    go_ret
    exact ⟨by first | rfl | (simp; done) | (simp [*]; done), by repeat (first | exact Drawn0.refl _ | apply Drawn0.step)⟩
end Go.Proofs.Ytinoabkfekomcaa.PAskSizes
