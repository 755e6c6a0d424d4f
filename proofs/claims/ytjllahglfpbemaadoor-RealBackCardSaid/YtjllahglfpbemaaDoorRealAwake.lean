/- The examples of the layer real, walked by hand. -/
import Derived.Test.YtjllahglfpbemaaDoorRealOf
namespace Go.Proofs.YtjllahglfpbemaaDoor.Fl
open Go Go.RowKit Go.Proofs.YtjllahglfpbemaaDoorW.PrintWords Go.Proofs.YtjllahglfpbemaaDoor.Base
attribute [-go_sem] binOp_float_cmp_eql binOp_float_cmp_neq binOp_float_cmp_lss binOp_float_cmp_leq
attribute [local go_sem] f_eql f_neq f_lss f_leq bits_run frombits_run
set_option maxHeartbeats 8000000
set_option maxRecDepth 100000
theorem of_one : ofF [16368, 0, 0, 0] = (4607182418800017408, true) := by decide +kernel
theorem of_zero : ofF [32768, 0, 0, 0] = (9223372036854775808, true) := by decide +kernel
theorem of_nan : ofF [32760, 0, 0, 0] = (9221120237041090560, true) := by decide +kernel
theorem e_one : eqF 4607182418800017408 4607182418800017408 = true := by decide +kernel
theorem e_zero : eqF 9223372036854775808 0 = true := by decide +kernel
theorem e_nan : eqF 9221120237041090560 9221120237041090560 = false := by decide +kernel
theorem l_inf : ltF 18442240474082181120 0 = true := by decide +kernel
theorem w_nan : (leF 9221120237041090560 9221120237041090560 && leF 9221120237041090560 9221120237041090560) = false := by decide +kernel
theorem w_zero : (leF 0 9223372036854775808 && leF 9223372036854775808 0) = true := by decide +kernel
theorem s_zero : sameF 9223372036854775808 0 = false := by decide +kernel
theorem quo_run (t : TypeId) (P : Program) (w : World) : (binOp .quo t (.float .f64 4607182418800017408) (.float .f64 9223372036854775808)).run P w = .ok (.float .f64 18442240474082181120) w :=
  run_float_arith w .quo t .f64 _ _ _ (by decide +kernel)
theorem lit_C (W : World) (xs : List Int) (T : TypeId) (hm : xs.length ≤ 1000) : Kd.C (Kd.int .i64) (W.alloc (.cells (nums .i64 xs).toArray T)) (some ⟨W.heap.size, 0, none⟩) xs.length xs :=
  (Kd.R_reads' (Kd.R_of_own (enc := Value.int .i64) (h1 := fun _ => rfl) (ok := fun _ => True) (World.ownsRow_lit (e := T) (size := 1) W (nums .i64 xs).toArray xs.length (Nat.le_refl _) (by unfold maxLen; omega) (by simp [nums])) (fun _ _ => trivial))).2.2
attribute [local go_sem] e_one e_zero e_nan l_inf quo_run
theorem awake_calls (w : World) : Calls Tryd.prog 16 #[] w fun e w' => e = .returned (.bool true) ∧ Below w.heap.size w w' := by
  go_enter Tryd.func16, Tryd.ntmps16
  go_wp2_with fail
  refine (of_calls (some ⟨w.heap.size, 0, none⟩) 4 [16368, 0, 0, 0] _ (lit_C w [16368, 0, 0, 0] 3 (by decide))).mono ?_
  rw [of_one]
  rintro e w1 ⟨rfl, hw1⟩
  have D1 := Aside0.mk (below_step (below_alloc (Below.refl w.heap.size w) _) hw1)
  clear hw1
  go_wp2_with fail
  refine (of_calls (some ⟨w1.heap.size, 0, none⟩) 4 [32768, 0, 0, 0] _ (lit_C w1 [32768, 0, 0, 0] 3 (by decide))).mono ?_
  rw [of_zero]
  rintro e w2 ⟨rfl, hw2⟩
  have D2 := Aside0.mk (below_step (below_alloc D1.out _) hw2)
  clear hw2
  go_wp2_with fail
  refine (of_calls (some ⟨w2.heap.size, 0, none⟩) 4 [32760, 0, 0, 0] _ (lit_C w2 [32760, 0, 0, 0] 3 (by decide))).mono ?_
  rw [of_nan]
  rintro e w3 ⟨rfl, hw3⟩
  have D3 := Aside0.mk (below_step (below_alloc D2.out _) hw3)
  clear hw3
  go_wp2_with fail
  refine (within_calls _ _ _ _).mono ?_
  rw [w_nan]
  rintro e w4 ⟨rfl, hw4⟩
  have D4 := Aside0.mk (below_step D3.out hw4)
  clear hw4
  go_wp2_with fail
  refine (within_calls _ _ _ _).mono ?_
  rw [w_zero]
  rintro e w5 ⟨rfl, hw5⟩
  have D5 := Aside0.mk (below_step D4.out hw5)
  clear hw5
  go_wp2_with fail
  refine (same_calls _ _ _).mono ?_
  rw [s_zero]
  rintro e w6 ⟨rfl, hw6⟩
  have D6 := Aside0.mk (below_step D5.out hw6)
  clear hw6
  go_wp2_with fail
  go_ret
  exact ⟨rfl, D6.out⟩
end Go.Proofs.YtjllahglfpbemaaDoor.Fl
