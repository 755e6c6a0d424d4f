/- Texts of this claim, put together (wip/pack.py): PAskSizesx4. -/
import Derived.Test.YtinoabkfekomcaaK1
import Derived.Test.YtinoabkfekomcaaK2
import Derived.Test.YtinoabkfekomcaaK3
namespace Go.Proofs.Ytinoabkfekomcaa.PAskSizes
open Go.RowKit Go.Proofs.YtinoabkfekomcaaW.PrintWords Go.Proofs.YtinoabkfekomcaaW.PrintLast Go.Proofs.YtinoabkfekomcaaW.PrintMore
attribute [local go_sem] max2_int min2_int max_two min_two max_three min_three max_four min_four   -- for this text's walks alone
set_option linter.unusedVariables false
set_option linter.unusedSimpArgs false

/-! ### twin_Get: function 88 -/
def twin_Get.f (a0 : ByteArray) (a1 : Int) : Option (Int × Bool) := if a1 < 0 then (some (0, false)) else (if a1 > (wrap64 ((a0.size : Int) - 2)) then (some (0, false)) else (if 0 ≤ a1 then (if a1 < (a0.size : Int) then (if 0 ≤ (wrap64 (a1 + 1)) then (if (wrap64 (a1 + 1)) < (a0.size : Int) then (some (Go.bits .or .i64 (wrap64 ((wrap64 (bt a0 a1)) * 256)) (wrap64 (bt a0 (wrap64 (a1 + 1)))), true)) else (none)) else (none)) else (none)) else (none)))
set_option maxHeartbeats 8000000 in
set_option maxRecDepth 100000 in
theorem twin_Get.calls (a0 : ByteArray) (a1 : Int) (r1 : Int) (r2 : Bool) (w : World) (h : twin_Get.f a0 a1 = some (r1, r2)) :
  Calls Try.prog 88 #[.string a0, .int .i64 a1] w fun e w' => e = .returned (.tuple #[.int .i64 r1, .bool r2]) ∧ Drawn0 w w' := by
 have H : (if a1 < 0 then (some (0, false)) else (if a1 > (wrap64 ((a0.size : Int) - 2)) then (some (0, false)) else (if 0 ≤ a1 then (if a1 < (a0.size : Int) then (if 0 ≤ (wrap64 (a1 + 1)) then (if (wrap64 (a1 + 1)) < (a0.size : Int) then (some (Go.bits .or .i64 (wrap64 ((wrap64 (bt a0 a1)) * 256)) (wrap64 (bt a0 (wrap64 (a1 + 1)))), true)) else (none)) else (none)) else (none)) else (none)))) = some (r1, r2) := h
 clear h
 by_cases c3 : a1 < 0
 ·rw [if_pos c3] at H
  have c3b0 : decide (a1 < 0) = true := decide_eq_true c3
  clear c3
  simp only [Option.some.injEq, Prod.mk.injEq] at H
  obtain ⟨rfl, rfl⟩ := H
  go_enter Try.func88, Try.ntmps88
  go_wp2
  repeat (go_quiet (fail); try go_wp2)
  go_ret2
  exact ⟨by first | rfl | (simp; done) | (simp [*]; done), by repeat (first | exact Drawn0.refl _ | apply Drawn0.step)⟩
 ·rw [if_neg c3] at H
  have c3b0 : decide (a1 < 0) = false := decide_eq_false c3
  clear c3
  by_cases c4 : a1 > (wrap64 ((a0.size : Int) - 2))
  ·rw [if_pos c4] at H
   have c4b0 : decide ((wrap64 ((a0.size : Int) - 2)) < a1) = true := decide_eq_true c4
   clear c4
   simp only [Option.some.injEq, Prod.mk.injEq] at H
   obtain ⟨rfl, rfl⟩ := H
   go_enter Try.func88, Try.ntmps88
   go_wp2
   repeat (go_quiet (fail); try go_wp2)
   go_ret2
   exact ⟨by first | rfl | (simp; done) | (simp [*]; done), by repeat (first | exact Drawn0.refl _ | apply Drawn0.step)⟩
  ·rw [if_neg c4] at H
   have c4b0 : decide ((wrap64 ((a0.size : Int) - 2)) < a1) = false := decide_eq_false c4
   clear c4
   by_cases c5 : 0 ≤ a1
   ·rw [if_pos c5] at H
    have c5b0 : decide (0 ≤ a1) = true := decide_eq_true c5
    clear c5
    by_cases c6 : a1 < (a0.size : Int)
    ·rw [if_pos c6] at H
     have c6b0 : decide (a1 < (a0.size : Int)) = true := decide_eq_true c6
     clear c6
     obtain ⟨ji8, hji8⟩ : ∃ j_ : Int, (wrap64 (a1 + 1)) = j_ := ⟨_, rfl⟩
     replace H : (if 0 ≤ (ji8) then (if (ji8) < (a0.size : Int) then (some (Go.bits .or .i64 (wrap64 ((wrap64 (bt a0 a1)) * 256)) (wrap64 (bt a0 (ji8))), true)) else (none)) else (none)) = some (r1, r2) := by first | (rw [hji8] at H; exact H) | (simp only [hji8] at H ⊢; exact H)
     have hji8w : (IntKind.i64.wrap (a1 + 1)) = ji8 := (i64_w _).trans hji8
     by_cases c9 : 0 ≤ (ji8)
     ·rw [if_pos c9] at H
      have c9b0 : decide (0 ≤ (ji8)) = true := decide_eq_true c9
      clear c9
      by_cases c10 : (ji8) < (a0.size : Int)
      ·rw [if_pos c10] at H
       have c10b0 : decide ((ji8) < (a0.size : Int)) = true := decide_eq_true c10
       clear c10
       simp only [Option.some.injEq, Prod.mk.injEq] at H
       obtain ⟨rfl, rfl⟩ := H
       have p7 : 0 ≤ (a1 : Int) := of_decide_eq_true (by first | (with_reducible assumption) | assumption)
       have q7 : a1 < (a0.size : Int) := of_decide_eq_true (by first | (with_reducible assumption) | assumption)
       have hx7 := bt_at a0 a1
       replace p7 := eq_true p7
       replace q7 := eq_true q7
       have p11 : 0 ≤ ((ji8) : Int) := of_decide_eq_true (by first | (with_reducible assumption) | assumption)
       have q11 : (ji8) < (a0.size : Int) := of_decide_eq_true (by first | (with_reducible assumption) | assumption)
       have hx11 := bt_at a0 (ji8)
       replace p11 := eq_true p11
       replace q11 := eq_true q11
       go_enter Try.func88, Try.ntmps88
       go_wp2
       repeat (go_quiet (fail); try go_wp2)
       go_ret2
       exact ⟨by first | rfl | (simp; done) | (simp only [← hji8] <;> (first | rfl | simp)) | (simp [*]; done), by repeat (first | exact Drawn0.refl _ | apply Drawn0.step)⟩
      ·rw [if_neg c10] at H
       exact absurd H (by simp)
     ·rw [if_neg c9] at H
      exact absurd H (by simp)
    ·rw [if_neg c6] at H
     exact absurd H (by simp)
   ·rw [if_neg c5] at H
    exact absurd H (by simp)


/-! ### twin_GetAll: function 80 -/
def twin_GetAll.l0 : Nat → ByteArray → List Int → Int → Int → Option (List Int × Bool)
 | 0, _, _, _, _ => none
 | k + 1, x0, x4, x15, x16 => if x16 < x15 then ((twin_Get.f x0 (wrap64 (2 * x16))).bind fun bt134 => (if 0 ≤ x16 then (if x16 < (x4.length : Int) then (twin_GetAll.l0 k x0 (x4.set (x16 : Int).toNat bt134.1) x15 (wrap64 (x16 + 1))) else (none)) else (none))) else (some (x4, true))
def twin_GetAll.f (k : Nat) (a0 : ByteArray) : Option (List Int × Bool) := if (Go.bits .and .i64 (a0.size : Int) 1) = 1 then (some (([] : List Int), false)) else (if 0 ≤ (wrap64 ((a0.size : Int) / 2)) then (if (wrap64 ((a0.size : Int) / 2) : Int).toNat ≤ 35184372088832 then ((some (List.replicate (wrap64 ((a0.size : Int) / 2) : Int).toNat 0 : List Int)).bind fun y131 => (twin_GetAll.l0 k a0 y131 (y131.length : Int) 0)) else (none)) else (none))
theorem twin_GetAll.mono_l : ∀ k, (∀ y0 y1 y2 y3, LeO (twin_GetAll.l0 k y0 y1 y2 y3) (twin_GetAll.l0 (k + 1) y0 y1 y2 y3))
 | 0 => fun _ _ _ _ r h => by simp [twin_GetAll.l0] at h
 | k + 1 => by
  have ih0 := twin_GetAll.mono_l k
  ·intro y0 y1 y2 y3
   unfold twin_GetAll.l0
   repeat' first
   | (with_reducible exact ih0 _ _ _ _)
   | (with_reducible exact LeO.refl _)
   | (with_reducible exact LeO.none _)
   | (with_reducible refine LeO.ite ?_ ?_)
   | (with_reducible refine LeO.bind ?_ (fun _ => ?_))
   | exact ih0 _ _ _ _
   | exact LeO.none _
   | refine LeO.ite ?_ ?_
   | refine LeO.bind ?_ (fun _ => ?_)
theorem twin_GetAll.mono : ∀ a0 k, LeO (twin_GetAll.f k a0) (twin_GetAll.f (k + 1) a0) := by
 intro a0 k
 have ih0 := twin_GetAll.mono_l k
 unfold twin_GetAll.f
 repeat' first
   | (with_reducible exact ih0 _ _ _ _)
   | (with_reducible exact LeO.refl _)
   | (with_reducible exact LeO.none _)
   | (with_reducible refine LeO.ite ?_ ?_)
   | (with_reducible refine LeO.bind ?_ (fun _ => ?_))
   | exact ih0 _ _ _ _
   | exact LeO.none _
   | refine LeO.ite ?_ ?_
   | refine LeO.bind ?_ (fun _ => ?_)
set_option maxHeartbeats 8000000 in
set_option maxRecDepth 100000 in
theorem twin_GetAll.calls (k : Nat) (a0 : ByteArray) (r1 : List Int) (r2 : Bool) (w : World) (h : twin_GetAll.f k a0 = some (r1, r2)) :
  Calls Try.prog 80 #[.string a0] w fun e w' => ∃ v0_ : Value, e = .returned (.tuple #[v0_, .bool r2]) ∧ Kd.R (Kd.int .i64) 3 w' w.heap.size (fun _ => True) v0_ r1 ∧ Below w.heap.size w w' := by
 have HB := Aside0.mk (Below.refl w.heap.size w)
 have H : (if (Go.bits .and .i64 (a0.size : Int) 1) = 1 then (some (([] : List Int), false)) else (if 0 ≤ (wrap64 ((a0.size : Int) / 2)) then (if (wrap64 ((a0.size : Int) / 2) : Int).toNat ≤ 35184372088832 then ((some (List.replicate (wrap64 ((a0.size : Int) / 2) : Int).toNat 0 : List Int)).bind fun y131 => (twin_GetAll.l0 k a0 y131 (y131.length : Int) 0)) else (none)) else (none))) = some (r1, r2) := h
 clear h
 by_cases c2 : (Go.bits .and .i64 (a0.size : Int) 1) = 1
 ·rw [if_pos c2] at H
  have c2b0 : ((Go.bits .and .i64 (a0.size : Int) 1) == 1) = true := beq_iff_eq.mpr c2
  have c2b1 : ((Go.bits .and .i64 (a0.size : Int) 1) != 1) = false := bne_eq_false_iff_eq.mpr c2
  clear c2
  simp only [Option.some.injEq, Prod.mk.injEq] at H
  obtain ⟨rfl, rfl⟩ := H
  go_enter Try.func80, Try.ntmps80
  go_wp2
  go_ret2
  exact ⟨_, by first | rfl | (simp [errW_none, errW_some] <;> rfl) | (simp [*, errW_none, errW_some] <;> rfl), by first | exact Kd.R_nil _ _ _ _ _ | exact Kd.N_nil _ _ _ _ _ | exact Kd.V_nil _ _ _ _ _ | exact Kd.Q_nil _ _ _ _ _ | exact Kd.S_nil _ _ _ _ _, by repeat (first | (with_reducible first | exact HB.out | apply below_alloc | apply pw_below_drewN | apply below_drew1) | exact HB.out)⟩
 ·rw [if_neg c2] at H
  have c2b0 : ((Go.bits .and .i64 (a0.size : Int) 1) == 1) = false := beq_eq_false_iff_ne.mpr c2
  have c2b1 : ((Go.bits .and .i64 (a0.size : Int) 1) != 1) = true := bne_iff_ne.mpr c2
  obtain ⟨ji3, hji3⟩ : ∃ j_ : Int, (wrap64 ((a0.size : Int) / 2)) = j_ := ⟨_, rfl⟩
  replace H : (if 0 ≤ (ji3) then (if (ji3 : Int).toNat ≤ 35184372088832 then ((some (List.replicate (ji3 : Int).toNat 0 : List Int)).bind fun y131 => (twin_GetAll.l0 k a0 y131 (y131.length : Int) 0)) else (none)) else (none)) = some (r1, r2) := by first | (rw [hji3] at H; exact H) | (simp only [hji3] at H ⊢; exact H)
  have hji3w : (IntKind.i64.wrap ((a0.size : Int) / 2)) = ji3 := (i64_w _).trans hji3
  by_cases c4 : 0 ≤ (ji3)
  ·rw [if_pos c4] at H
   have c4b0 := eq_true c4
   have c4b1 : decide (0 ≤ (ji3)) = true := decide_eq_true c4
   clear c4
   by_cases c5 : (ji3 : Int).toNat ≤ 35184372088832
   ·rw [if_pos c5] at H
    have c5b0 := eq_true c5
    have c5b1 : decide ((ji3 : Int).toNat ≤ 35184372088832) = true := decide_eq_true c5
    clear c5
    obtain ⟨y131, hy131⟩ : ∃ y_ : List Int, y_ = (List.replicate (ji3 : Int).toNat 0) := ⟨_, rfl⟩
    replace H : (twin_GetAll.l0 k a0 y131 (y131.length : Int) 0) = some (r1, r2) := by first | (rw [hy131]; with_reducible exact H) | (have H2_ := (Option.bind_some _ _).symm.trans H; rw [hy131]; with_reducible exact H2_) | (have H2_ := (Option.bind_some _ _).symm.trans H; with_reducible exact H2_) | with_reducible exact H | (rw [hy131]; exact H) | exact H
    have Ny131 := Aside0.mk hy131
    clear hy131
    have H' := Aside0.mk H
    clear H
    go_enter Try.func80, Try.ntmps80
    go_wp2_with (first | ((with_reducible refine gate_dst (N := 13) rfl ?_); refine Kd.R_make (Kd.int .i64) _ 3 rfl (N := 13) rfl 22 _ _ rfl ji3 rfl rfl Try.underlying22 (.int .i64 0) 8 info3 rfl (by decide) (by omega) 0 (ok := fun _ => True) (okp := fun _ => True) rfl (fun _ hk => hk) trivial (of_decide_eq_true (by first | (with_reducible assumption) | assumption)) (Nat.le_trans (Nat.mul_le_mul_right _ (of_decide_eq_true (by first | (with_reducible assumption) | assumption) : ji3.toNat ≤ 35184372088832)) (by omega)) (Below.refl _ _) (Nat.le_refl _) ?_; intro v132 w6 ho7 hb hg_ hnew_; clear hg_ hnew_; (first | rw [← Ny131.out] at ho7 | (simp only [Int.reduceToNat] at ho7; rw [← Ny131.out] at ho7)); have n0_ := Aside0.mk (Kd.R_lower ho7 (below_size (by repeat (first | (with_reducible first | exact HB.out | apply below_alloc | apply pw_below_drewN | apply below_drew1) | exact HB.out)))); have n1_ := Aside0.mk (below_step (by repeat (first | (with_reducible first | exact HB.out | apply below_alloc | apply pw_below_drewN | apply below_drew1) | exact HB.out)) hb); clear HB; have HO133 := n0_; have HB := n1_; clear n0_ n1_; clear hb ho7; obtain ⟨Ao8, co8, eo8⟩ := Kd.R_slice HO133.out; subst eo8))
    go_loopg [16] k (fun kq v16 w' => ∃ (x4_1 : List Int) (x16_1 : Int), v16 = .int .i64 x16_1 ∧ Aside0 (twin_GetAll.l0 kq a0 x4_1 (y131.length : Int) x16_1 = some (r1, r2)) ∧ Aside0 (kq ≤ k) ∧ Aside0 (Kd.R (Kd.int .i64) 3 w' w.heap.size (fun _ => True) (.slice Ao8 y131.length co8) x4_1) ∧ Aside0 (Below w.heap.size w w'))
    case atStart => exact ⟨(y131), (0), (by first | rfl | (simp; done) | (simp [*]; done)), H', ⟨Nat.le_refl _⟩, ⟨by (with_reducible repeat (first | apply Kd.R_alloc | apply Kd.R_drewN | apply Kd.R_drew)); exact HO133.out⟩, ⟨by repeat (first | (with_reducible first | exact HB.out | apply below_alloc | apply pw_below_drewN | apply below_drew1) | exact HB.out)⟩⟩
    case round =>
     clear H'
     try clear c2
     try clear c2b0
     try clear c2b1
     try clear p2
     try clear c4
     try clear c4b0
     try clear c4b1
     try clear c5
     try clear c5b0
     try clear c5b1
     try clear p6
     try clear c8
     obtain ⟨x4_1, x16_1, rfl, HA, HK1, HO_4, HB⟩ := hrel
     have hl4_1 := (Kd.R_reads' HO_4.out).1
     rw [hl4_1] at HO_4
     (try simp only [hl4_1])
     cases gk with
     | zero => exact absurd HA.out (by simp [twin_GetAll.l0])
     | succ k1 =>
      have H := HA.out
      clear HA
      simp only [twin_GetAll.l0] at H
      by_cases c9 : x16_1 < (y131.length : Int)
      ·rw [if_pos c9] at H
       have c9b0 : decide (x16_1 < (y131.length : Int)) = true := decide_eq_true c9
       (try (have c9b0h := c9b0; simp only [hl4_1] at c9b0h))
       clear c9
       replace H := Option.bind_eq_some_iff.mp H
       obtain ⟨⟨t134, t135⟩, A100, H⟩ := H
       replace H : (if 0 ≤ x16_1 then (if x16_1 < (x4_1.length : Int) then (twin_GetAll.l0 k1 a0 (x4_1.set (x16_1 : Int).toNat t134) (y131.length : Int) (wrap64 (x16_1 + 1))) else (none)) else (none)) = some (r1, r2) := H
       have A10 := Aside0.mk A100
       clear A100
       by_cases c11 : 0 ≤ x16_1
       ·rw [if_pos c11] at H
        have c11b0 : decide (0 ≤ x16_1) = true := decide_eq_true c11
        clear c11
        by_cases c12 : x16_1 < (x4_1.length : Int)
        ·rw [if_pos c12] at H
         have c12b0 : decide (x16_1 < (x4_1.length : Int)) = true := decide_eq_true c12
         (try (have c12b0h := c12b0; simp only [hl4_1] at c12b0h))
         clear c12
         obtain ⟨y136, hy136⟩ : ∃ y_ : List Int, y_ = (x4_1.set (x16_1 : Int).toNat t134) := ⟨_, rfl⟩
         replace H : (twin_GetAll.l0 k1 a0 y136 (y131.length : Int) (wrap64 (x16_1 + 1))) = some (r1, r2) := by first | (rw [hy136]; with_reducible exact H) | (have H2_ := (Option.bind_some _ _).symm.trans H; rw [hy136]; with_reducible exact H2_) | (have H2_ := (Option.bind_some _ _).symm.trans H; with_reducible exact H2_) | with_reducible exact H | (rw [hy136]; exact H) | exact H
         have Ny136 := Aside0.mk hy136
         clear hy136
         have H' := Aside0.mk H
         clear H
         go_wp2_with (first | ((with_reducible refine gate_callee (f := 88) rfl ?_); refine goesL_ (some 25) rfl rfl Try.func88 (by kernel_rfl) rfl #[.string a0, .int .i64 (wrap64 (2 * x16_1))] rfl (by (try simp only [List.map_toArray, List.map_cons, List.map_nil]); first | done | rfl | (simp only [List.length_drop, List.length_take]; rfl)) ?_; (with_reducible refine (twin_Get.calls a0 (wrap64 (2 * x16_1)) t134 t135 _ A10.out).mono ?_); rintro e w' ⟨rfl, ⟨nd, rfl⟩⟩; refine ⟨_, rfl, ?_⟩; (try (rw [drewN_self wr]; generalize hq_ : World.drewN wr _ = wr; have n0_ : Aside0 (Kd.R (Kd.int .i64) 3 wr w.heap.size (fun _ => True) (.slice Ao8 x4_1.length co8) x4_1) := ⟨by rw [← hq_]; exact (by (with_reducible repeat (first | apply Kd.R_alloc | apply Kd.R_drewN | apply Kd.R_drew)); exact HO_4.out)⟩; have n1_ : Aside0 (Below w.heap.size w wr) := ⟨by rw [← hq_]; exact (by repeat (first | (with_reducible first | exact HB.out | apply below_alloc | apply pw_below_drewN | apply below_drew1) | exact HB.out))⟩; clear HO_4 HB hq_; have HO_4 := n0_; have HB := n1_; clear n0_ n1_)); have p13 : 0 ≤ (x16_1 : Int) := of_decide_eq_true (by first | (with_reducible assumption) | assumption); have q13 : (x16_1 : Int) < ((x4_1.length : Int) : Int) := of_decide_eq_true (by first | (with_reducible assumption) | assumption); obtain ⟨go13, co13, eo13, gb13, gl13, cl13, HG13⟩ := Kd.R_form HO_4.out (by omega); (first | cases eo13 | (injection eo13 with ea_ en_ ec_; (first | subst ea_ | (injection ea_ with ea_; subst ea_)); subst ec_; clear en_)); have GB13 := Aside0.mk gb13; have GG13 := Aside0.mk HG13; clear gb13 gl13 HG13; obtain ⟨hx13_0, hf13_0⟩ := Kd.R_celln 0 HO_4.out (x16_1 : Int) p13 q13; replace p13 := eq_true p13; replace q13 := eq_true q13; obtain ⟨hy14_, hz14_⟩ := Kd.R_celln 0 HO_4.out (x16_1 : Int) (of_decide_eq_true (by first | (with_reducible assumption) | assumption)) (of_decide_eq_true (by first | (with_reducible assumption) | assumption)); have HP14 := Kd.R_putg HO_4.out (x16_1 : Int) t134) | ((with_reducible refine gate_store (t := 3) (p := 28) rfl ?_); refine store_event (t := 3) (p := 28) (v := ?vo_w15) (w1 := (wr.setCell ⟨go13, (x16_1 : Int).toNat, none⟩ (.int .i64 t134))) ?hg ?ho ?hn ?hr ?_; (case ho => rfl); (case hg => rfl); (case hn => rfl); (case hr => first | (go_simp; done) | (go_simp; rfl)); intro w15 hw; have hg : wr.grownBy w15 (some go13) := (by rw [hw]; exact HP14.2); have hp_ : Kd.R (Kd.int .i64) 3 w15 w.heap.size (fun _ => True) (.slice (some ⟨go13, 0, none⟩) x4_1.length co8) y136 := (by rw [hw, Ny136.out]; exact HP14.1); clear HP14; have n0_ := Aside0.mk (hp_); have n1_ := Aside0.mk ((by rw [hw]; exact below_set (HB.out) GB13.out : Below w.heap.size w w15)); clear HO_4; clear HB; have HO_4 := n0_; have HB := n1_; clear n0_ n1_; clear hg hw hp_))
         (try simp only [← hl4_1])
         go_roundg k1
         case measure => have := HK1.out; omega
         case rel => exact ⟨(y136), (wrap64 (x16_1 + 1)), (by first | rfl | (simp; done) | (simp [*]; done)), H', ⟨by have := HK1.out; omega⟩, ⟨by (try simp only [hl4_1]); (with_reducible repeat (first | apply Kd.R_alloc | apply Kd.R_drewN | apply Kd.R_drew)); exact HO_4.out⟩, ⟨by repeat (first | (with_reducible first | exact HB.out | apply below_alloc | apply pw_below_drewN | apply below_drew1) | exact HB.out)⟩⟩
        ·rw [if_neg c12] at H
         exact absurd H (by simp)
       ·rw [if_neg c11] at H
        exact absurd H (by simp)
      ·rw [if_neg c9] at H
       have c9b0 : decide (x16_1 < (y131.length : Int)) = false := decide_eq_false c9
       (try (have c9b0h := c9b0; simp only [hl4_1] at c9b0h))
       clear c9
       simp only [Option.some.injEq, Prod.mk.injEq] at H
       obtain ⟨rfl, rfl⟩ := H
       go_wp2
       go_ret2
       exact ⟨_, by first | rfl | (simp [errW_none, errW_some] <;> rfl) | (simp only [← hji3]; first | rfl | (simp [errW_none, errW_some] <;> rfl)) | (simp [*, errW_none, errW_some] <;> rfl), by (with_reducible repeat (first | apply Kd.R_alloc | apply Kd.R_drewN | apply Kd.R_drew)); exact HO_4.out, by repeat (first | (with_reducible first | exact HB.out | apply below_alloc | apply pw_below_drewN | apply below_drew1) | exact HB.out)⟩
   ·rw [if_neg c5] at H
    exact absurd H (by simp)
  ·rw [if_neg c4] at H
   exact absurd H (by simp)


/-! ### coil_Get: function 79 -/
mutual
def coil_Get.j0 : Nat → ByteArray → Int → Bool → Option (List Int × Bool)
 | 0, _, _, _ => none
 | k + 1, x0, x1, x23 => if x23 = true then (some (([] : List Int), false)) else (if 0 ≤ x1 then (if (x1 : Int).toNat ≤ 35184372088832 then ((some (List.replicate (x1 : Int).toNat 0 : List Int)).bind fun y142 => (coil_Get.l0 k x0 x1 y142 (y142.length : Int) 0)) else (none)) else (none))
def coil_Get.l0 : Nat → ByteArray → Int → List Int → Int → Int → Option (List Int × Bool)
 | 0, _, _, _, _, _ => none
 | k + 1, x0, x1, x6, x27, x28 => if x28 < x27 then (if 0 ≤ (x28 / 8) then (if (x28 / 8) < (x0.size : Int) then (if 0 ≤ (IntKind.u64.wrap (Go.bits .and .i64 x28 7)) then (if 0 ≤ x28 then (if x28 < (x6.length : Int) then (coil_Get.l0 k x0 x1 (x6.set (x28 : Int).toNat (Go.bits .and .i64 (wrap64 (shr .u8 (bt x0 (x28 / 8)) (IntKind.u64.wrap (Go.bits .and .i64 x28 7)))) 1)) x27 (wrap64 (x28 + 1))) else (none)) else (none)) else (none)) else (none)) else (none)) else (if (Go.bits .and .i64 x1 7) = 0 then (some (x6, true)) else (if 0 ≤ (wrap64 ((x0.size : Int) - 1)) then (if (wrap64 ((x0.size : Int) - 1)) < (x0.size : Int) then (if 0 ≤ (IntKind.u64.wrap (Go.bits .and .i64 x1 7)) then (if (shr .u8 (bt x0 (wrap64 ((x0.size : Int) - 1))) (IntKind.u64.wrap (Go.bits .and .i64 x1 7))) = 0 then (some (x6, true)) else (some (([] : List Int), false))) else (none)) else (none)) else (none)))
end
def coil_Get.f (k : Nat) (a0 : ByteArray) (a1 : Int) : Option (List Int × Bool) := if a1 < 0 then (coil_Get.j0 k a0 a1 true) else (if a1 > (wrap64 (8 * (a0.size : Int))) then (coil_Get.j0 k a0 a1 true) else ((coil_Size.f a1).bind fun t141 => (coil_Get.j0 k a0 a1 (t141 != (a0.size : Int)))))
theorem coil_Get.mono_l : ∀ k, (∀ y0 y1 y2, LeO (coil_Get.j0 k y0 y1 y2) (coil_Get.j0 (k + 1) y0 y1 y2)) ∧ (∀ y0 y1 y2 y3 y4, LeO (coil_Get.l0 k y0 y1 y2 y3 y4) (coil_Get.l0 (k + 1) y0 y1 y2 y3 y4))
 | 0 => ⟨fun _ _ _ r h => by simp [coil_Get.j0] at h, fun _ _ _ _ _ r h => by simp [coil_Get.l0] at h⟩
 | k + 1 => by
  obtain ⟨ih0, ih1⟩ := coil_Get.mono_l k
  refine ⟨?_, ?_⟩
  ·intro y0 y1 y2
   unfold coil_Get.j0
   repeat' first
   | (with_reducible exact ih0 _ _ _)
   | (with_reducible exact ih1 _ _ _ _ _)
   | (with_reducible exact LeO.refl _)
   | (with_reducible exact LeO.none _)
   | (with_reducible refine LeO.ite ?_ ?_)
   | (with_reducible refine LeO.bind ?_ (fun _ => ?_))
   | exact ih0 _ _ _
   | exact ih1 _ _ _ _ _
   | exact LeO.none _
   | refine LeO.ite ?_ ?_
   | refine LeO.bind ?_ (fun _ => ?_)
  ·intro y0 y1 y2 y3 y4
   unfold coil_Get.l0
   repeat' first
   | (with_reducible exact ih0 _ _ _)
   | (with_reducible exact ih1 _ _ _ _ _)
   | (with_reducible exact LeO.refl _)
   | (with_reducible exact LeO.none _)
   | (with_reducible refine LeO.ite ?_ ?_)
   | (with_reducible refine LeO.bind ?_ (fun _ => ?_))
   | exact ih0 _ _ _
   | exact ih1 _ _ _ _ _
   | exact LeO.none _
   | refine LeO.ite ?_ ?_
   | refine LeO.bind ?_ (fun _ => ?_)
theorem coil_Get.mono : ∀ a0 a1 k, LeO (coil_Get.f k a0 a1) (coil_Get.f (k + 1) a0 a1) := by
 intro a0 a1 k
 obtain ⟨ih0, ih1⟩ := coil_Get.mono_l k
 unfold coil_Get.f
 repeat' first
   | (with_reducible exact ih0 _ _ _)
   | (with_reducible exact ih1 _ _ _ _ _)
   | (with_reducible exact LeO.refl _)
   | (with_reducible exact LeO.none _)
   | (with_reducible refine LeO.ite ?_ ?_)
   | (with_reducible refine LeO.bind ?_ (fun _ => ?_))
   | exact ih0 _ _ _
   | exact ih1 _ _ _ _ _
   | exact LeO.none _
   | refine LeO.ite ?_ ?_
   | refine LeO.bind ?_ (fun _ => ?_)
set_option maxHeartbeats 8000000 in
set_option maxRecDepth 100000 in
theorem coil_Get.calls (k : Nat) (a0 : ByteArray) (a1 : Int) (r1 : List Int) (r2 : Bool) (w : World) (h : coil_Get.f k a0 a1 = some (r1, r2)) :
  Calls Try.prog 79 #[.string a0, .int .i64 a1] w fun e w' => ∃ v0_ : Value, e = .returned (.tuple #[v0_, .bool r2]) ∧ Kd.R (Kd.int .i64) 3 w' w.heap.size (fun _ => True) v0_ r1 ∧ Below w.heap.size w w' := by
 have HB := Aside0.mk (Below.refl w.heap.size w)
 have H : (if a1 < 0 then (coil_Get.j0 k a0 a1 true) else (if a1 > (wrap64 (8 * (a0.size : Int))) then (coil_Get.j0 k a0 a1 true) else ((coil_Size.f a1).bind fun t141 => (coil_Get.j0 k a0 a1 (t141 != (a0.size : Int)))))) = some (r1, r2) := h
 clear h
 have HC3 := Aside0.mk H
 clear H
 go_enter Try.func79, Try.ntmps79
 go_upto_region 1 with (fail)
 go_cut [23] (fun v23 wc => ∃ (kq : Nat) (x23_2 : Bool), v23 = .bool x23_2 ∧ Aside0 (coil_Get.j0 kq a0 a1 x23_2 = some (r1, r2)) ∧ Aside0 (kq ≤ k) ∧ Aside0 (Below w.heap.size w wc))
 case first =>
  have H := HC3.out
  clear HC3
  by_cases c4 : a1 < 0
  ·rw [if_pos c4] at H
   have c4b0 : decide (a1 < 0) = true := decide_eq_true c4
   clear c4
   (first | rw [c4b0] | (simp only [i64_w, i32_w]; rw [c4b0]) | skip)
   have H' := Aside0.mk H
   clear H
   go_wp2
   go_meet
   case rel => exact ⟨_, (true), (by first | rfl | (simp; done) | (simp [*]; done)), H', ⟨by first | omega | exact Nat.le_refl _⟩, ⟨by repeat (first | (with_reducible first | exact HB.out | apply below_alloc | apply pw_below_drewN | apply below_drew1) | exact HB.out)⟩⟩
  ·rw [if_neg c4] at H
   have c4b0 : decide (a1 < 0) = false := decide_eq_false c4
   clear c4
   (first | rw [c4b0] | (simp only [i64_w, i32_w]; rw [c4b0]) | skip)
   by_cases c5 : a1 > (wrap64 (8 * (a0.size : Int)))
   ·rw [if_pos c5] at H
    have c5b0 : decide ((wrap64 (8 * (a0.size : Int))) < a1) = true := decide_eq_true c5
    clear c5
    have H' := Aside0.mk H
    clear H
    go_wp2
    go_meet
    case rel => exact ⟨_, (true), (by first | rfl | (simp; done) | (simp [*]; done)), H', ⟨by first | omega | exact Nat.le_refl _⟩, ⟨by repeat (first | (with_reducible first | exact HB.out | apply below_alloc | apply pw_below_drewN | apply below_drew1) | exact HB.out)⟩⟩
   ·rw [if_neg c5] at H
    have c5b0 : decide ((wrap64 (8 * (a0.size : Int))) < a1) = false := decide_eq_false c5
    clear c5
    replace H := Option.bind_eq_some_iff.mp H
    obtain ⟨t141, A60, H⟩ := H
    replace H : (coil_Get.j0 k a0 a1 (t141 != (a0.size : Int))) = some (r1, r2) := H
    have A6 := Aside0.mk A60
    clear A60
    have H' := Aside0.mk H
    clear H
    go_wp2_with (first | (go_at_call 71; (with_reducible refine (coil_Size.calls a1 t141 _ A6.out).mono ?_); rintro e w7 ⟨rfl, hb⟩; have n0_ := Aside0.mk (below_step (by repeat (first | (with_reducible first | exact HB.out | apply below_alloc | apply pw_below_drewN | apply below_drew1) | exact HB.out)) hb); clear HB; have HB := n0_; clear n0_; (try clear hb); (try clear hb2); (try clear hk); (try clear hi)))
    go_meet
    case rel => exact ⟨_, ((t141 != (a0.size : Int))), (by first | rfl | (simp; done) | (simp [*]; done)), H', ⟨by first | omega | exact Nat.le_refl _⟩, ⟨by repeat (first | (with_reducible first | exact HB.out | apply below_alloc | apply pw_below_drewN | apply below_drew1) | exact HB.out)⟩⟩
 case rest =>
  clear HC3
  try clear p2
  try clear c4
  try clear c4b0
  try clear c5
  try clear c5b0
  try clear p6
  try clear c7
  obtain ⟨kq, x23_2, rfl, HA, HJ2, HB⟩ := hcut
  cases kq with
  | zero => exact absurd HA.out (by simp [coil_Get.j0])
  | succ kj2 =>
   have H := HA.out
   clear HA
   simp only [coil_Get.j0] at H
   by_cases c8 : x23_2 = true
   ·subst c8
    have H1 : (some (([] : List Int), false)) = some (r1, r2) := by rw [if_pos rfl] at H; exact H
    clear H
    have H := H1
    clear H1
    simp only [Option.some.injEq, Prod.mk.injEq] at H
    obtain ⟨rfl, rfl⟩ := H
    go_wp2
    go_ret2
    exact ⟨_, by first | rfl | (simp [errW_none, errW_some] <;> rfl) | (simp [*, errW_none, errW_some] <;> rfl), by first | exact Kd.R_nil _ _ _ _ _ | exact Kd.N_nil _ _ _ _ _ | exact Kd.V_nil _ _ _ _ _ | exact Kd.Q_nil _ _ _ _ _ | exact Kd.S_nil _ _ _ _ _, by repeat (first | (with_reducible first | exact HB.out | apply below_alloc | apply pw_below_drewN | apply below_drew1) | exact HB.out)⟩
   ·replace c8 := Bool.eq_false_iff.mpr c8
    subst c8
    have H1 : (if 0 ≤ a1 then (if (a1 : Int).toNat ≤ 35184372088832 then ((some (List.replicate (a1 : Int).toNat 0 : List Int)).bind fun y142 => (coil_Get.l0 kj2 a0 a1 y142 (y142.length : Int) 0)) else (none)) else (none)) = some (r1, r2) := by rw [if_neg (show ¬ (false = true) by decide)] at H; exact H
    clear H
    have H := H1
    clear H1
    by_cases c9 : 0 ≤ a1
    ·rw [if_pos c9] at H
     have c9b0 := eq_true c9
     have c9b1 : decide (0 ≤ a1) = true := decide_eq_true c9
     clear c9
     by_cases c10 : (a1 : Int).toNat ≤ 35184372088832
     ·rw [if_pos c10] at H
      have c10b0 := eq_true c10
      have c10b1 : decide ((a1 : Int).toNat ≤ 35184372088832) = true := decide_eq_true c10
      clear c10
      obtain ⟨y142, hy142⟩ : ∃ y_ : List Int, y_ = (List.replicate (a1 : Int).toNat 0) := ⟨_, rfl⟩
      replace H : (coil_Get.l0 kj2 a0 a1 y142 (y142.length : Int) 0) = some (r1, r2) := by first | (rw [hy142]; with_reducible exact H) | (have H2_ := (Option.bind_some _ _).symm.trans H; rw [hy142]; with_reducible exact H2_) | (have H2_ := (Option.bind_some _ _).symm.trans H; with_reducible exact H2_) | with_reducible exact H | (rw [hy142]; exact H) | exact H
      have Ny142 := Aside0.mk hy142
      clear hy142
      have H' := Aside0.mk H
      clear H
      go_wp2_with (first | ((with_reducible refine gate_dst (N := 25) rfl ?_); (try (refine gate_guard (by rfl) ?_; dsimp only)); refine Kd.R_make (Kd.int .i64) _ 3 rfl (N := 25) rfl 22 _ _ rfl a1 rfl rfl Try.underlying22 (.int .i64 0) 8 info3 rfl (by decide) (by omega) 0 (ok := fun _ => True) (okp := fun _ => True) rfl (fun _ hk => hk) trivial (of_decide_eq_true (by first | (with_reducible assumption) | assumption)) (Nat.le_trans (Nat.mul_le_mul_right _ (of_decide_eq_true (by first | (with_reducible assumption) | assumption) : a1.toNat ≤ 35184372088832)) (by omega)) (Below.refl _ _) (Nat.le_refl _) ?_; intro v143 w11 ho12 hb hg_ hnew_; clear hg_ hnew_; (first | rw [← Ny142.out] at ho12 | (simp only [Int.reduceToNat] at ho12; rw [← Ny142.out] at ho12)); have n0_ := Aside0.mk (Kd.R_lower ho12 (below_size (by repeat (first | (with_reducible first | exact HB.out | apply below_alloc | apply pw_below_drewN | apply below_drew1) | exact HB.out)))); have n1_ := Aside0.mk (below_step (by repeat (first | (with_reducible first | exact HB.out | apply below_alloc | apply pw_below_drewN | apply below_drew1) | exact HB.out)) hb); clear HB; have HO144 := n0_; have HB := n1_; clear n0_ n1_; clear hb ho12; obtain ⟨Ao13, co13, eo13⟩ := Kd.R_slice HO144.out; subst eo13))
      go_loopg [28] kj2 (fun kq v28 w' => ∃ (x6_2 : List Int) (x28_2 : Int), v28 = .int .i64 x28_2 ∧ Aside0 (coil_Get.l0 kq a0 a1 x6_2 (y142.length : Int) x28_2 = some (r1, r2)) ∧ Aside0 (kq ≤ kj2) ∧ Aside0 (Kd.R (Kd.int .i64) 3 w' w.heap.size (fun _ => True) (.slice Ao13 y142.length co13) x6_2) ∧ Aside0 (Below w.heap.size w w'))
      case atStart => exact ⟨(y142), (0), (by first | rfl | (simp; done) | (simp [*]; done)), H', ⟨Nat.le_refl _⟩, ⟨by (with_reducible repeat (first | apply Kd.R_alloc | apply Kd.R_drewN | apply Kd.R_drew)); exact HO144.out⟩, ⟨by repeat (first | (with_reducible first | exact HB.out | apply below_alloc | apply pw_below_drewN | apply below_drew1) | exact HB.out)⟩⟩
      case round =>
       clear H'
       try clear c1
       try clear p2
       try clear c4
       try clear c4b0
       try clear c5
       try clear c5b0
       try clear p6
       try clear c7
       try clear c8
       try clear c9
       try clear c9b0
       try clear c9b1
       try clear c10
       try clear c10b0
       try clear c10b1
       try clear p2
       try clear p6
       obtain ⟨x6_2, x28_2, rfl, HA, HK2, HO_6, HB⟩ := hrel
       have hl6_2 := (Kd.R_reads' HO_6.out).1
       rw [hl6_2] at HO_6
       (try simp only [hl6_2])
       cases gk with
       | zero => exact absurd HA.out (by simp [coil_Get.l0])
       | succ k2 =>
        have H := HA.out
        clear HA
        simp only [coil_Get.l0] at H
        by_cases c14 : x28_2 < (y142.length : Int)
        ·rw [if_pos c14] at H
         have c14b0 : decide (x28_2 < (y142.length : Int)) = true := decide_eq_true c14
         (try (have c14b0h := c14b0; simp only [hl6_2] at c14b0h))
         clear c14
         obtain ⟨ji15, hji15⟩ : ∃ j_ : Int, (x28_2 / 8) = j_ := ⟨_, rfl⟩
         replace H : (if 0 ≤ (ji15) then (if (ji15) < (a0.size : Int) then (if 0 ≤ (IntKind.u64.wrap (Go.bits .and .i64 x28_2 7)) then (if 0 ≤ x28_2 then (if x28_2 < (x6_2.length : Int) then (coil_Get.l0 k2 a0 a1 (x6_2.set (x28_2 : Int).toNat (Go.bits .and .i64 (wrap64 (shr .u8 (bt a0 (ji15)) (IntKind.u64.wrap (Go.bits .and .i64 x28_2 7)))) 1)) (y142.length : Int) (wrap64 (x28_2 + 1))) else (none)) else (none)) else (none)) else (none)) else (none)) = some (r1, r2) := by first | (rw [hji15] at H; exact H) | (simp only [hji15] at H ⊢; exact H)
         by_cases c16 : 0 ≤ (ji15)
         ·rw [if_pos c16] at H
          have c16b0 : decide (0 ≤ (ji15)) = true := decide_eq_true c16
          clear c16
          by_cases c17 : (ji15) < (a0.size : Int)
          ·rw [if_pos c17] at H
           have c17b0 : decide ((ji15) < (a0.size : Int)) = true := decide_eq_true c17
           clear c17
           obtain ⟨ji19, hji19⟩ : ∃ j_ : Int, (IntKind.u64.wrap (Go.bits .and .i64 x28_2 7)) = j_ := ⟨_, rfl⟩
           replace H : (if 0 ≤ (ji19) then (if 0 ≤ x28_2 then (if x28_2 < (x6_2.length : Int) then (coil_Get.l0 k2 a0 a1 (x6_2.set (x28_2 : Int).toNat (Go.bits .and .i64 (wrap64 (shr .u8 (bt a0 (ji15)) (ji19))) 1)) (y142.length : Int) (wrap64 (x28_2 + 1))) else (none)) else (none)) else (none)) = some (r1, r2) := by first | (rw [hji19] at H; exact H) | (simp only [hji19] at H ⊢; exact H)
           by_cases c20 : 0 ≤ (ji19)
           ·rw [if_pos c20] at H
            have c20b0 := eq_true c20
            have c20b1 : decide (0 ≤ (ji19)) = true := decide_eq_true c20
            clear c20
            obtain ⟨ji21, hji21⟩ : ∃ j_ : Int, (shr .u8 (bt a0 (ji15)) (ji19)) = j_ := ⟨_, rfl⟩
            replace H : (if 0 ≤ x28_2 then (if x28_2 < (x6_2.length : Int) then (coil_Get.l0 k2 a0 a1 (x6_2.set (x28_2 : Int).toNat (Go.bits .and .i64 (wrap64 (ji21)) 1)) (y142.length : Int) (wrap64 (x28_2 + 1))) else (none)) else (none)) = some (r1, r2) := by first | (rw [hji21] at H; exact H) | (simp only [hji21] at H ⊢; exact H)
            have hji21_ : ((bt a0 (ji15)) / 2 ^ min (ji19).toNat 8) = ji21 := hji21
            have hji21z : (ji19) ≤ 8 → ((bt a0 (ji15)) / 2 ^ (ji19).toNat) = ji21 := shr_small hji21
            by_cases c22 : 0 ≤ x28_2
            ·rw [if_pos c22] at H
             have c22b0 : decide (0 ≤ x28_2) = true := decide_eq_true c22
             clear c22
             by_cases c23 : x28_2 < (x6_2.length : Int)
             ·rw [if_pos c23] at H
              have c23b0 : decide (x28_2 < (x6_2.length : Int)) = true := decide_eq_true c23
              (try (have c23b0h := c23b0; simp only [hl6_2] at c23b0h))
              clear c23
              obtain ⟨y145, hy145⟩ : ∃ y_ : List Int, y_ = (x6_2.set (x28_2 : Int).toNat (Go.bits .and .i64 (wrap64 (ji21)) 1)) := ⟨_, rfl⟩
              replace H : (coil_Get.l0 k2 a0 a1 y145 (y142.length : Int) (wrap64 (x28_2 + 1))) = some (r1, r2) := by first | (rw [hy145]; with_reducible exact H) | (have H2_ := (Option.bind_some _ _).symm.trans H; rw [hy145]; with_reducible exact H2_) | (have H2_ := (Option.bind_some _ _).symm.trans H; with_reducible exact H2_) | with_reducible exact H | (rw [hy145]; exact H) | exact H
              have Ny145 := Aside0.mk hy145
              clear hy145
              have H' := Aside0.mk H
              clear H
              have p18 : 0 ≤ ((ji15) : Int) := of_decide_eq_true (by first | (with_reducible assumption) | assumption)
              have q18 : (ji15) < (a0.size : Int) := of_decide_eq_true (by first | (with_reducible assumption) | assumption)
              have hx18 := bt_at a0 (ji15)
              replace p18 := eq_true p18
              replace q18 := eq_true q18
              have p24 : 0 ≤ (x28_2 : Int) := of_decide_eq_true (by first | (with_reducible assumption) | assumption)
              have q24 : (x28_2 : Int) < ((x6_2.length : Int) : Int) := of_decide_eq_true (by first | (with_reducible assumption) | assumption)
              obtain ⟨go24, co24, eo24, gb24, gl24, cl24, HG24⟩ := Kd.R_form HO_6.out (by omega)
              (first | cases eo24 | (injection eo24 with ea_ en_ ec_; (first | subst ea_ | (injection ea_ with ea_; subst ea_)); subst ec_; clear en_))
              have GB24 := Aside0.mk gb24
              have GG24 := Aside0.mk HG24
              clear gb24 gl24 HG24
              obtain ⟨hx24_0, hf24_0⟩ := Kd.R_celln 0 HO_6.out (x28_2 : Int) p24 q24
              replace p24 := eq_true p24
              replace q24 := eq_true q24
              have HP25 := Kd.R_putg HO_6.out (x28_2 : Int) (Go.bits .and .i64 (wrap64 (ji21)) 1)
              go_wp2_with (first | ((with_reducible refine gate_store (t := 3) (p := 43) rfl ?_); refine store_event (t := 3) (p := 43) (v := ?vo_w26) (w1 := (wr.setCell ⟨go24, (x28_2 : Int).toNat, none⟩ (.int .i64 (Go.bits .and .i64 (wrap64 (ji21)) 1)))) ?hg ?ho ?hn ?hr ?_; (case ho => rfl); (case hg => rfl); (case hn => rfl); (case hr => first | (go_simp; done) | (go_simp; rfl)); intro w26 hw; have hg : wr.grownBy w26 (some go24) := (by rw [hw]; exact HP25.2); have hp_ : Kd.R (Kd.int .i64) 3 w26 w.heap.size (fun _ => True) (.slice (some ⟨go24, 0, none⟩) x6_2.length co13) y145 := (by rw [hw, Ny145.out]; exact HP25.1); clear HP25; have n0_ := Aside0.mk (hp_); have n1_ := Aside0.mk ((by rw [hw]; exact below_set (HB.out) GB24.out : Below w.heap.size w w26)); clear HO_6; clear HB; have HO_6 := n0_; have HB := n1_; clear n0_ n1_; clear hg hw hp_))
              (try simp only [← hl6_2])
              go_roundg k2
              case measure => have := HJ2.out; have := HK2.out; omega
              case rel => exact ⟨(y145), (wrap64 (x28_2 + 1)), (by first | rfl | (simp; done) | (simp [*]; done)), H', ⟨by have := HJ2.out; have := HK2.out; omega⟩, ⟨by (try simp only [hl6_2]); (with_reducible repeat (first | apply Kd.R_alloc | apply Kd.R_drewN | apply Kd.R_drew)); exact HO_6.out⟩, ⟨by repeat (first | (with_reducible first | exact HB.out | apply below_alloc | apply pw_below_drewN | apply below_drew1) | exact HB.out)⟩⟩
             ·rw [if_neg c23] at H
              exact absurd H (by simp)
            ·rw [if_neg c22] at H
             exact absurd H (by simp)
           ·rw [if_neg c20] at H
            exact absurd H (by simp)
          ·rw [if_neg c17] at H
           exact absurd H (by simp)
         ·rw [if_neg c16] at H
          exact absurd H (by simp)
        ·rw [if_neg c14] at H
         have c14b0 : decide (x28_2 < (y142.length : Int)) = false := decide_eq_false c14
         (try (have c14b0h := c14b0; simp only [hl6_2] at c14b0h))
         clear c14
         by_cases c27 : (Go.bits .and .i64 a1 7) = 0
         ·rw [if_pos c27] at H
          have c27b0 : ((Go.bits .and .i64 a1 7) == 0) = true := beq_iff_eq.mpr c27
          have c27b1 : ((Go.bits .and .i64 a1 7) != 0) = false := bne_eq_false_iff_eq.mpr c27
          clear c27
          simp only [Option.some.injEq, Prod.mk.injEq] at H
          obtain ⟨rfl, rfl⟩ := H
          go_wp2
          go_ret2
          exact ⟨_, by first | rfl | (simp [errW_none, errW_some] <;> rfl) | (simp [*, errW_none, errW_some] <;> rfl), by (with_reducible repeat (first | apply Kd.R_alloc | apply Kd.R_drewN | apply Kd.R_drew)); exact HO_6.out, by repeat (first | (with_reducible first | exact HB.out | apply below_alloc | apply pw_below_drewN | apply below_drew1) | exact HB.out)⟩
         ·rw [if_neg c27] at H
          have c27b0 : ((Go.bits .and .i64 a1 7) == 0) = false := beq_eq_false_iff_ne.mpr c27
          have c27b1 : ((Go.bits .and .i64 a1 7) != 0) = true := bne_iff_ne.mpr c27
          obtain ⟨ji28, hji28⟩ : ∃ j_ : Int, (wrap64 ((a0.size : Int) - 1)) = j_ := ⟨_, rfl⟩
          replace H : (if 0 ≤ (ji28) then (if (ji28) < (a0.size : Int) then (if 0 ≤ (IntKind.u64.wrap (Go.bits .and .i64 a1 7)) then (if (shr .u8 (bt a0 (ji28)) (IntKind.u64.wrap (Go.bits .and .i64 a1 7))) = 0 then (some (x6_2, true)) else (some (([] : List Int), false))) else (none)) else (none)) else (none)) = some (r1, r2) := by first | (rw [hji28] at H; exact H) | (simp only [hji28] at H ⊢; exact H)
          have hji28w : (IntKind.i64.wrap ((a0.size : Int) - 1)) = ji28 := (i64_w _).trans hji28
          by_cases c29 : 0 ≤ (ji28)
          ·rw [if_pos c29] at H
           have c29b0 : decide (0 ≤ (ji28)) = true := decide_eq_true c29
           clear c29
           by_cases c30 : (ji28) < (a0.size : Int)
           ·rw [if_pos c30] at H
            have c30b0 : decide ((ji28) < (a0.size : Int)) = true := decide_eq_true c30
            clear c30
            obtain ⟨ji32, hji32⟩ : ∃ j_ : Int, (IntKind.u64.wrap (Go.bits .and .i64 a1 7)) = j_ := ⟨_, rfl⟩
            replace H : (if 0 ≤ (ji32) then (if (shr .u8 (bt a0 (ji28)) (ji32)) = 0 then (some (x6_2, true)) else (some (([] : List Int), false))) else (none)) = some (r1, r2) := by first | (rw [hji32] at H; exact H) | (simp only [hji32] at H ⊢; exact H)
            by_cases c33 : 0 ≤ (ji32)
            ·rw [if_pos c33] at H
             have c33b0 := eq_true c33
             have c33b1 : decide (0 ≤ (ji32)) = true := decide_eq_true c33
             clear c33
             obtain ⟨ji34, hji34⟩ : ∃ j_ : Int, (shr .u8 (bt a0 (ji28)) (ji32)) = j_ := ⟨_, rfl⟩
             replace H : (if (ji34) = 0 then (some (x6_2, true)) else (some (([] : List Int), false))) = some (r1, r2) := by first | (rw [hji34] at H; exact H) | (simp only [hji34] at H ⊢; exact H)
             have hji34_ : ((bt a0 (ji28)) / 2 ^ min (ji32).toNat 8) = ji34 := hji34
             have hji34z : (ji32) ≤ 8 → ((bt a0 (ji28)) / 2 ^ (ji32).toNat) = ji34 := shr_small hji34
             by_cases c35 : (ji34) = 0
             ·rw [if_pos c35] at H
              have c35b0 : ((ji34) == 0) = true := beq_iff_eq.mpr c35
              have c35b1 : ((ji34) != 0) = false := bne_eq_false_iff_eq.mpr c35
              clear c35
              simp only [Option.some.injEq, Prod.mk.injEq] at H
              obtain ⟨rfl, rfl⟩ := H
              have p31 : 0 ≤ ((ji28) : Int) := of_decide_eq_true (by first | (with_reducible assumption) | assumption)
              have q31 : (ji28) < (a0.size : Int) := of_decide_eq_true (by first | (with_reducible assumption) | assumption)
              have hx31 := bt_at a0 (ji28)
              replace p31 := eq_true p31
              replace q31 := eq_true q31
              go_wp2
              go_ret2
              exact ⟨_, by first | rfl | (simp [errW_none, errW_some] <;> rfl) | (simp only [← hji28, ← hji32, ← hji34]; first | rfl | (simp [errW_none, errW_some] <;> rfl)) | (simp [*, errW_none, errW_some] <;> rfl), by (with_reducible repeat (first | apply Kd.R_alloc | apply Kd.R_drewN | apply Kd.R_drew)); exact HO_6.out, by repeat (first | (with_reducible first | exact HB.out | apply below_alloc | apply pw_below_drewN | apply below_drew1) | exact HB.out)⟩
             ·rw [if_neg c35] at H
              have c35b0 : ((ji34) == 0) = false := beq_eq_false_iff_ne.mpr c35
              have c35b1 : ((ji34) != 0) = true := bne_iff_ne.mpr c35
              simp only [Option.some.injEq, Prod.mk.injEq] at H
              obtain ⟨rfl, rfl⟩ := H
              have p31 : 0 ≤ ((ji28) : Int) := of_decide_eq_true (by first | (with_reducible assumption) | assumption)
              have q31 : (ji28) < (a0.size : Int) := of_decide_eq_true (by first | (with_reducible assumption) | assumption)
              have hx31 := bt_at a0 (ji28)
              replace p31 := eq_true p31
              replace q31 := eq_true q31
              go_wp2
              go_ret2
              exact ⟨_, by first | rfl | (simp [errW_none, errW_some] <;> rfl) | (simp only [← hji28, ← hji32, ← hji34]; first | rfl | (simp [errW_none, errW_some] <;> rfl)) | (simp [*, errW_none, errW_some] <;> rfl), by first | exact Kd.R_nil _ _ _ _ _ | exact Kd.N_nil _ _ _ _ _ | exact Kd.V_nil _ _ _ _ _ | exact Kd.Q_nil _ _ _ _ _ | exact Kd.S_nil _ _ _ _ _, by repeat (first | (with_reducible first | exact HB.out | apply below_alloc | apply pw_below_drewN | apply below_drew1) | exact HB.out)⟩
            ·rw [if_neg c33] at H
             exact absurd H (by simp)
           ·rw [if_neg c30] at H
            exact absurd H (by simp)
          ·rw [if_neg c29] at H
           exact absurd H (by simp)
     ·rw [if_neg c10] at H
      exact absurd H (by simp)
    ·rw [if_neg c9] at H
     exact absurd H (by simp)
end Go.Proofs.Ytinoabkfekomcaa.PAskSizes
