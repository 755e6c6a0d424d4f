/- What the functions of the layer real tell, walked by hand. -/
import Derived.Test.YtjllahglfpbemaaDoorFloat
import Derived.Test.YtjllahglfpbemaaDoorHand
namespace Go.Proofs.YtjllahglfpbemaaDoor.Fl
open Go Go.RowKit Go.Proofs.YtjllahglfpbemaaDoorW.PrintWords Go.Proofs.YtjllahglfpbemaaDoor.Base
attribute [-go_sem] binOp_float_cmp_eql binOp_float_cmp_neq binOp_float_cmp_lss binOp_float_cmp_leq
attribute [local go_sem] f_eql f_neq f_lss f_leq
theorem bits_run (a : Nat) (w : World) : (callFunc 48 #[.float .f64 a]).run Tryd.prog w = .ok (.value (.int .u64 a)) w := by
  rw [run_callFunc_extern Tryd.func48 (by kernel_rfl) (by kernel_rfl) (by kernel_rfl) (e := Extern.MathFloatBits.float64bits) (by rfl)]
  rfl
theorem frombits_run (n : Int) (w : World) : (callFunc 47 #[.int .u64 n]).run Tryd.prog w = .ok (.value (.float .f64 n.toNat)) w := by
  rw [run_callFunc_extern Tryd.func47 (by kernel_rfl) (by kernel_rfl) (by kernel_rfl) (e := Extern.MathFloatBits.float64frombits) (by rfl)]
  rfl
attribute [local go_sem] bits_run frombits_run
set_option maxHeartbeats 4000000
set_option maxRecDepth 100000
theorem within_calls (x lo hi : Nat) (w : World) : Calls Tryd.prog 36 #[.float .f64 x, .float .f64 lo, .float .f64 hi] w fun e w' => e = .returned (.bool (leF lo x && leF x hi)) ∧ Below w.heap.size w w' := by
  cases h : leF lo x
  · go_enter Tryd.func36, Tryd.ntmps36
    go_wp2
    go_ret
    exact ⟨rfl, Below.refl _ _⟩
  · go_enter Tryd.func36, Tryd.ntmps36
    go_wp2
    go_ret
    exact ⟨by rw [Bool.true_and]; rfl, Below.refl _ _⟩
theorem isnan_calls (x : Nat) (w : World) : Calls Tryd.prog 39 #[.float .f64 x] w fun e w' => e = .returned (.bool (!eqF x x)) ∧ Below w.heap.size w w' := by
  go_enter Tryd.func39, Tryd.ntmps39
  go_wp2
  go_ret
  exact ⟨rfl, Below.refl _ _⟩
def sameF (a b : Nat) : Bool := if eqF a a && eqF b b then a == b else !eqF a a && !eqF b b
theorem same_calls (a b : Nat) (w : World) : Calls Tryd.prog 24 #[.float .f64 a, .float .f64 b] w fun e w' => e = .returned (.bool (sameF a b)) ∧ Below w.heap.size w w' := by
  cases ha : eqF a a
  · cases hb : eqF b b
    · have HS := Aside0.mk (show sameF a b = true by unfold sameF; rw [ha, hb]; rfl)
      go_enter Tryd.func24, Tryd.ntmps24
      go_wp2_with fail
      refine (isnan_calls _ _).mono ?_
      rintro e w1 ⟨rfl, hw1⟩
      rw [ha]
      go_wp2_with fail
      refine (isnan_calls _ _).mono ?_
      rintro e w2 ⟨rfl, hw2⟩
      rw [ha]
      go_wp2_with fail
      refine (isnan_calls _ _).mono ?_
      rintro e w3 ⟨rfl, hw3⟩
      rw [hb]
      go_wp2_with fail
      go_ret
      exact ⟨by rw [HS.out]; rfl, below_step (below_step hw1 hw2) hw3⟩
    · have HS := Aside0.mk (show sameF a b = false by unfold sameF; rw [ha, hb]; rfl)
      go_enter Tryd.func24, Tryd.ntmps24
      go_wp2_with fail
      refine (isnan_calls _ _).mono ?_
      rintro e w1 ⟨rfl, hw1⟩
      rw [ha]
      go_wp2_with fail
      refine (isnan_calls _ _).mono ?_
      rintro e w2 ⟨rfl, hw2⟩
      rw [ha]
      go_wp2_with fail
      refine (isnan_calls _ _).mono ?_
      rintro e w3 ⟨rfl, hw3⟩
      rw [hb]
      go_wp2_with fail
      go_ret
      exact ⟨by rw [HS.out]; rfl, below_step (below_step hw1 hw2) hw3⟩
  · cases hb : eqF b b
    · have HS := Aside0.mk (show sameF a b = false by unfold sameF; rw [ha, hb]; rfl)
      go_enter Tryd.func24, Tryd.ntmps24
      go_wp2_with fail
      refine (isnan_calls _ _).mono ?_
      rintro e w1 ⟨rfl, hw1⟩
      rw [ha]
      go_wp2_with fail
      refine (isnan_calls _ _).mono ?_
      rintro e w2 ⟨rfl, hw2⟩
      rw [hb]
      go_wp2_with fail
      refine (isnan_calls _ _).mono ?_
      rintro e w3 ⟨rfl, hw3⟩
      rw [ha]
      go_wp2_with fail
      go_ret
      exact ⟨by rw [HS.out]; rfl, below_step (below_step hw1 hw2) hw3⟩
    · have HS := Aside0.mk (show sameF a b = (a == b) by unfold sameF; rw [ha, hb]; rfl)
      go_enter Tryd.func24, Tryd.ntmps24
      go_wp2_with fail
      refine (isnan_calls _ _).mono ?_
      rintro e w1 ⟨rfl, hw1⟩
      rw [ha]
      go_wp2_with fail
      refine (isnan_calls _ _).mono ?_
      rintro e w2 ⟨rfl, hw2⟩
      rw [hb]
      go_wp2
      go_ret
      refine ⟨?_, below_step hw1 hw2⟩
      rw [HS.out]
      simp
      by_cases h : a = b
      · subst h; simp
      · rw [beq_eq_false_iff_ne.2 h, beq_eq_false_iff_ne.2 (by omega)]
end Go.Proofs.YtjllahglfpbemaaDoor.Fl
