/- The reference's floats, walked by hand. -/
import Derived.Test.YtjllahglfpbemaaDoorFloatLaws
import Derived.Test.YtjllahglfpbemaaDoorRealAwake
import Derived.Test.YtjllahglfpbemaaDoorFloatOrder
import Derived.Test.YtjllahglfpbemaaDoorOfPure
namespace Go.Proofs.YtjllahglfpbemaaDoor.Fl
open Go Go.RowKit Go.Proofs.YtjllahglfpbemaaDoorW.PrintWords Go.Proofs.YtjllahglfpbemaaDoor.Base Go.Proofs.YtjllahglfpbemaaDoor.Dbl
attribute [-go_sem] binOp_float_cmp_eql binOp_float_cmp_neq binOp_float_cmp_lss binOp_float_cmp_leq
attribute [local go_sem] f_eql f_neq f_lss f_leq bits_run frombits_run
set_option maxHeartbeats 8000000
set_option maxRecDepth 100000
theorem quo_inf (t : TypeId) (P : Program) (w : World) : (binOp .quo t (.float .f64 4607182418800017408) (.float .f64 0)).run P w = .ok (.float .f64 9218868437227405312) w :=
  run_float_arith w .quo t .f64 _ _ _ (by decide +kernel)
attribute [local go_sem] quo_inf quo_run
theorem inf_calls (w : World) : Calls Tryd.prog 46 #[] w fun e w' => e = .returned (.float .f64 9218868437227405312) ∧ Below w.heap.size w w' := by
  go_enter Tryd.func46, Tryd.ntmps46
  go_wp2
  go_ret
  exact ⟨rfl, Below.refl _ _⟩
theorem lt_inf : ltF 9218868437227405312 0 = false := by decide +kernel
theorem lt_zero : ltF 0 0 = false := by decide +kernel
theorem eq_zero : eqF 0 0 = true := by decide +kernel
theorem lt_mzero : ltF 9223372036854775808 0 = false := by decide +kernel
attribute [local go_sem] lt_inf lt_zero eq_zero lt_mzero l_inf e_zero
/-- Is the sign -? -/
def sgn (b : Nat) : Bool := decide (9223372036854775808 ≤ b)
theorem minus_calls (b : Nat) (hb : b < 18446744073709551616) (nb : eqF b b = true) (w : World) : Calls Tryd.prog 42 #[.float .f64 b] w fun e w' => e = .returned (.bool (sgn b)) ∧ Below w.heap.size w w' := by
  rcases minus_facts hb nb with ⟨h, h1, h2⟩ | ⟨h, h1⟩
  · have hs : sgn b = false := decide_eq_false (by omega)
    rw [hs]
    clear h hb
    rcases h2 with rfl | h2
    · go_enter Tryd.func42, Tryd.ntmps42
      go_wp2
      go_ret
      exact ⟨rfl, Below.refl _ _⟩
    · go_enter Tryd.func42, Tryd.ntmps42
      go_wp2
      go_ret
      exact ⟨rfl, Below.refl _ _⟩
  · have hs : sgn b = true := decide_eq_true h
    rw [hs]
    clear h hb
    rcases h1 with h1 | rfl
    · go_enter Tryd.func42, Tryd.ntmps42
      go_wp2
      go_ret
      exact ⟨rfl, Below.refl _ _⟩
    · go_enter Tryd.func42, Tryd.ntmps42
      go_wp2
      go_ret
      exact ⟨rfl, Below.refl _ _⟩
theorem rsame_calls (a b : Nat) (ha : a < 18446744073709551616) (hb : b < 18446744073709551616) (w : World) : Calls Tryd.prog 21 #[.float .f64 a, .float .f64 b] w fun e w' => e = .returned (.bool (sameF a b)) ∧ Below w.heap.size w w' := by
  cases na : eqF a a
  · have HS : sameF a b = !eqF b b := by unfold sameF; rw [na]; rfl
    rw [HS]
    clear ha hb HS
    cases nb : eqF b b
    · go_enter Tryd.func21, Tryd.ntmps21
      go_wp2
      go_ret
      exact ⟨rfl, Below.refl _ _⟩
    · go_enter Tryd.func21, Tryd.ntmps21
      go_wp2
      go_ret
      exact ⟨rfl, Below.refl _ _⟩
  · cases nb : eqF b b
    · have HS : sameF a b = false := by unfold sameF; rw [na, nb]; rfl
      rw [HS]
      clear ha hb HS
      go_enter Tryd.func21, Tryd.ntmps21
      go_wp2
      go_ret
      exact ⟨rfl, Below.refl _ _⟩
    · have HS : sameF a b = (a == b) := by unfold sameF; rw [na, nb]; rfl
      rw [HS]
      clear HS
      cases hab : eqF a b
      · have hne : (a == b) = false := by
          rw [beq_eq_false_iff_ne]; intro e; subst e; rw [na] at hab; cases hab
        rw [hne]
        clear ha hb hne
        go_enter Tryd.func21, Tryd.ntmps21
        go_wp2
        go_ret
        exact ⟨rfl, Below.refl _ _⟩
      · have HA := Aside0.mk (And.intro ha na)
        have HB := Aside0.mk (And.intro hb nb)
        have he : (a == b) = (sgn a == sgn b) := by
          by_cases hs : sgn a = sgn b
          · have := eq_words ha hb na nb hs hab
            subst this
            simp
          · rw [beq_eq_false_iff_ne.2 hs, beq_eq_false_iff_ne]; intro e; subst e; exact hs rfl
        rw [he]
        clear he ha hb
        go_enter Tryd.func21, Tryd.ntmps21
        go_wp2_with fail
        refine (minus_calls a HA.out.1 HA.out.2 _).mono ?_
        rintro e w1 ⟨rfl, hw1⟩
        go_wp2_with fail
        refine (minus_calls b HB.out.1 HB.out.2 _).mono ?_
        rintro e w2 ⟨rfl, hw2⟩
        go_wp2
        go_ret
        exact ⟨rfl, below_step hw1 hw2⟩
end Go.Proofs.YtjllahglfpbemaaDoor.Fl
