/- Texts of this claim, put together (wip/pack.py): PAskSizesz6. -/
import Derived.Test.YtinoabkfekomcaaK1
import Derived.Test.YtinoabkfekomcaaK17
namespace Go.Proofs.Ytinoabkfekomcaa.PAskSizes
open Go.RowKit Go.Proofs.YtinoabkfekomcaaW.PrintWords Go.Proofs.YtinoabkfekomcaaW.PrintLast Go.Proofs.YtinoabkfekomcaaW.PrintMore
attribute [local go_sem] max2_int min2_int max_two min_two max_three min_three max_four min_four   -- for this text's walks alone
set_option linter.unusedVariables false
set_option linter.unusedSimpArgs false

/-! ### reply_Fault: function 27 -/
def reply_Fault.f (a0 : Int) (a1 : Int) : Option (ByteArray × Bool) := if a0 < 1 then (some ((⟨#[]⟩ : ByteArray), false)) else (if a0 > 127 then (some ((⟨#[]⟩ : ByteArray), false)) else ((reply_Code.f a1).bind fun t178 => (if t178 = true then (some (strOfNums (([Go.bits .or .u8 ((a0) % 256) 128, (a1) % 256] : List Int)), true)) else (some ((⟨#[]⟩ : ByteArray), false)))))
set_option maxHeartbeats 8000000 in
set_option maxRecDepth 100000 in
theorem reply_Fault.calls (a0 : Int) (a1 : Int) (r1 : ByteArray) (r2 : Bool) (w : World) (h : reply_Fault.f a0 a1 = some (r1, r2)) :
  Calls Try.prog 27 #[.int .i64 a0, .int .i64 a1] w fun e w' => e = .returned (.tuple #[.string r1, .bool r2]) ∧ Below w.heap.size w w' := by
 have HB := Aside0.mk (Below.refl w.heap.size w)
 have H : (if a0 < 1 then (some ((⟨#[]⟩ : ByteArray), false)) else (if a0 > 127 then (some ((⟨#[]⟩ : ByteArray), false)) else ((reply_Code.f a1).bind fun t178 => (if t178 = true then (some (strOfNums (([Go.bits .or .u8 ((a0) % 256) 128, (a1) % 256] : List Int)), true)) else (some ((⟨#[]⟩ : ByteArray), false)))))) = some (r1, r2) := h
 clear h
 by_cases c3 : a0 < 1
 ·rw [if_pos c3] at H
  have c3b0 : decide (a0 < 1) = true := decide_eq_true c3
  clear c3
  simp only [Option.some.injEq, Prod.mk.injEq] at H
  obtain ⟨rfl, rfl⟩ := H
  go_enter Try.func27, Try.ntmps27
  go_wp2
  go_ret2
  exact ⟨by first | rfl | (simp [errW_none, errW_some] <;> rfl) | (simp [*, errW_none, errW_some] <;> rfl), by repeat (first | (with_reducible first | exact HB.out | apply below_alloc | apply pw_below_drewN | apply below_drew1) | exact HB.out)⟩
 ·rw [if_neg c3] at H
  have c3b0 : decide (a0 < 1) = false := decide_eq_false c3
  clear c3
  by_cases c4 : a0 > 127
  ·rw [if_pos c4] at H
   have c4b0 : decide (127 < a0) = true := decide_eq_true c4
   clear c4
   simp only [Option.some.injEq, Prod.mk.injEq] at H
   obtain ⟨rfl, rfl⟩ := H
   go_enter Try.func27, Try.ntmps27
   go_wp2
   go_ret2
   exact ⟨by first | rfl | (simp [errW_none, errW_some] <;> rfl) | (simp [*, errW_none, errW_some] <;> rfl), by repeat (first | (with_reducible first | exact HB.out | apply below_alloc | apply pw_below_drewN | apply below_drew1) | exact HB.out)⟩
  ·rw [if_neg c4] at H
   have c4b0 : decide (127 < a0) = false := decide_eq_false c4
   clear c4
   replace H := Option.bind_eq_some_iff.mp H
   obtain ⟨t178, A50, H⟩ := H
   replace H : (if t178 = true then (some (strOfNums (([Go.bits .or .u8 ((a0) % 256) 128, (a1) % 256] : List Int)), true)) else (some ((⟨#[]⟩ : ByteArray), false))) = some (r1, r2) := H
   have A5 := Aside0.mk A50
   clear A50
   by_cases c6 : t178 = true
   ·subst c6
    have H1 : (some (strOfNums (([Go.bits .or .u8 ((a0) % 256) 128, (a1) % 256] : List Int)), true)) = some (r1, r2) := by rw [if_pos rfl] at H; exact H
    clear H
    have H := H1
    clear H1
    obtain ⟨y179, hy179⟩ : ∃ y_ : List Int, y_ = (([Go.bits .or .u8 ((a0) % 256) 128, (a1) % 256] : List Int)) := ⟨_, rfl⟩
    replace H : (some (strOfNums y179, true)) = some (r1, r2) := by first | (rw [hy179]; with_reducible exact H) | (have H2_ := (Option.bind_some _ _).symm.trans H; rw [hy179]; with_reducible exact H2_) | (have H2_ := (Option.bind_some _ _).symm.trans H; with_reducible exact H2_) | with_reducible exact H | (rw [hy179]; exact H) | exact H
    have Ny179 := Aside0.mk hy179
    clear hy179
    simp only [Option.some.injEq, Prod.mk.injEq] at H
    obtain ⟨rfl, rfl⟩ := H
    go_enter Try.func27, Try.ntmps27
    go_wp2_with (first | (go_at_call 29; (with_reducible refine (reply_Code.calls a1 true _ A5.out).mono ?_); rintro e w' ⟨rfl, ⟨nd, rfl⟩⟩) | ((with_reducible refine gate_dst (N := 22) rfl ?_); refine Kd.R_lit (Kd.int .u8) _ 5 ?hg (N := 22) ?hd (xs := ([Go.bits .or .u8 ((a0) % 256) 128, (a1) % 256] : List Int)) (inner := [.int .u8 (Go.bits .or .u8 ((a0) % 256) 128), .int .u8 ((a1) % 256)]) (ok := fun _ => True) (okp := fun _ => True) ?hr ?hp (fun _ hk => hk) trivial (Below.refl _ _) (Nat.le_refl _) (by simp) ?_; (case hd => rfl); (case hg => rfl); (case hr => first | (go_simp; done) | (go_simp; rfl)); (case hp => exact (Reps.one (show Kd.M (Kd.int .u8) _ _ _ (Go.bits .or .u8 ((a0) % 256) 128) [.int .u8 (Go.bits .or .u8 ((a0) % 256) 128)] from rfl) (Reps.one (show Kd.M (Kd.int .u8) _ _ _ ((a1) % 256) [.int .u8 ((a1) % 256)] from rfl) (Reps.none _ _)))); intro v180 w7 ho8 hb hg_ hnew_; clear hg_ hnew_; (first | rw [← Ny179.out] at ho8 | (simp only [Int.reduceToNat] at ho8; rw [← Ny179.out] at ho8)); have n0_ := Aside0.mk (Kd.R_lower ho8 (below_size (by repeat (first | (with_reducible first | exact HB.out | apply below_alloc | apply pw_below_drewN | apply below_drew1) | exact HB.out)))); have n1_ := Aside0.mk (below_step (by repeat (first | (with_reducible first | exact HB.out | apply below_alloc | apply pw_below_drewN | apply below_drew1) | exact HB.out)) hb); clear HB; have HO181 := n0_; have HB := n1_; clear n0_ n1_; clear hb ho8; have hcv9 := own_string (P := Try.prog) Try.underlying34 Try.underlying5 Try.underlying9 (Kd.own_of_R HO181.out)))
    go_ret2
    exact ⟨by first | rfl | (simp [errW_none, errW_some] <;> rfl) | (simp [*, errW_none, errW_some] <;> rfl), by repeat (first | (with_reducible first | exact HB.out | apply below_alloc | apply pw_below_drewN | apply below_drew1) | exact HB.out)⟩
   ·replace c6 := Bool.eq_false_iff.mpr c6
    subst c6
    have H1 : (some ((⟨#[]⟩ : ByteArray), false)) = some (r1, r2) := by rw [if_neg (show ¬ (false = true) by decide)] at H; exact H
    clear H
    have H := H1
    clear H1
    simp only [Option.some.injEq, Prod.mk.injEq] at H
    obtain ⟨rfl, rfl⟩ := H
    go_enter Try.func27, Try.ntmps27
    go_wp2_with (first | (go_at_call 29; (with_reducible refine (reply_Code.calls a1 false _ A5.out).mono ?_); rintro e w' ⟨rfl, ⟨nd, rfl⟩⟩))
    go_ret2
    exact ⟨by first | rfl | (simp [errW_none, errW_some] <;> rfl) | (simp [*, errW_none, errW_some] <;> rfl), by repeat (first | (with_reducible first | exact HB.out | apply below_alloc | apply pw_below_drewN | apply below_drew1) | exact HB.out)⟩
end Go.Proofs.Ytinoabkfekomcaa.PAskSizes
