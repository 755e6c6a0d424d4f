/- The reference's floats, walked by hand. -/
import Derived.Test.YtcoaehhoiaijoaaFloatLaws
import Derived.Test.YtcoaehhoiaijoaaRealAwake
import Derived.Test.YtcoaehhoiaijoaaFloatOrder
import Derived.Test.YtcoaehhoiaijoaaOfPure
namespace Go.Proofs.Ytcoaehhoiaijoaa.Fl
open Go Go.RowKit Go.Proofs.YtcoaehhoiaijoaaW.PrintWords Go.Proofs.Ytcoaehhoiaijoaa.Base Go.Proofs.Ytcoaehhoiaijoaa.Dbl
attribute [-go_sem] binOp_float_cmp_eql binOp_float_cmp_neq binOp_float_cmp_lss binOp_float_cmp_leq
attribute [local go_sem] f_eql f_neq f_lss f_leq bits_run frombits_run
set_option maxHeartbeats 8000000
set_option maxRecDepth 100000
theorem scale_calls (m : Nat) (n : Int) (hm : m < 9007199254740992) (h0 : -1074 ≤ n) (h1 : n ≤ 971) (w : World) :
    Calls Try.prog 53 #[.float .f64 (W m 0), .int .i64 n] w fun e w' => e = .returned (.float .f64 (W m n)) ∧ Below w.heap.size w w' := by
  have HM := Aside0.mk hm
  have H0 := Aside0.mk h0
  have H1 := Aside0.mk h1
  clear hm h0 h1
  go_enter Try.func53, Try.ntmps53
  go_wp2
  go_loopg [0, 1] n.toNat (fun gg s0 s1 wr => ∃ (e l : Int), s0 = .float .f64 (W m e) ∧ s1 = .int .i64 l ∧ Aside0 (e + l = n ∧ 0 ≤ e ∧ l.toNat ≤ gg ∧ (0 < n → 0 ≤ l) ∧ (n ≤ 0 → e = 0)) ∧ Aside0 (Below w.heap.size w wr))
  case atStart => exact ⟨0, n, rfl, rfl, ⟨by omega⟩, ⟨Below.refl _ _⟩⟩
  case round =>
    obtain ⟨e, l, rfl, rfl, A, D⟩ := hrel
    by_cases hl : l > 0
    · have B := H1.out
      have A1 := A.out
      have hmul : ∀ t wx, (binOp .mul t (.float .f64 (W m e)) (.float .f64 4611686018427387904)).run Try.prog wx = .ok (.float .f64 (W m (e + 1))) wx :=
        fun t wx => run_float_arith wx .mul t .f64 _ _ _ (mul_two m e HM.out (by omega) (by omega))
      have hpos := A1.2.1
      clear A1 B
      go_wp2
      go_roundg (l - 1).toNat
      case measure => have := A.out; omega
      case rel =>
        have A1 := A.out
        exact ⟨e + 1, l - 1, rfl, by rw [w64 (by omega) (by have := H1.out; omega)], ⟨by omega⟩, ⟨D.out⟩⟩
    · have A1 := A.out
      by_cases hn : 0 < n
      · have hl0 : l = 0 := by omega
        have he : e = n := by omega
        subst he hl0
        clear A1
        go_wp2
        go_loopg [0, 1] 1 (fun gg s0 s1 wr' => s0 = .float .f64 (W m e) ∧ s1 = .int .i64 0 ∧ Aside0 (Below w.heap.size w wr'))
        case atStart => exact ⟨rfl, rfl, ⟨D.out⟩⟩
        case round =>
          obtain ⟨rfl, rfl, D2⟩ := hrel
          go_wp2
          go_ret
          exact ⟨rfl, D2.out⟩
      · have he : e = 0 := A1.2.2.2.2 (by omega)
        have hln : l = n := by omega
        subst he hln
        clear A1
        go_wp2
        go_loopg [0, 1] (-l).toNat (fun gg s0 s1 wr' => ∃ (e l' : Int), s0 = .float .f64 (W m e) ∧ s1 = .int .i64 l' ∧ Aside0 (e + l' = l ∧ e ≤ 0 ∧ (-l').toNat ≤ gg ∧ l' ≤ 0) ∧ Aside0 (Below w.heap.size w wr'))
        case atStart => exact ⟨0, l, rfl, rfl, ⟨by omega⟩, ⟨D.out⟩⟩
        case round =>
          obtain ⟨e, l', rfl, rfl, A2, D2⟩ := hrel
          by_cases hl' : l' < 0
          · have B := H0.out
            have A3 := A2.out
            have hdiv : ∀ t wx, (binOp .quo t (.float .f64 (W m e)) (.float .f64 4611686018427387904)).run Try.prog wx = .ok (.float .f64 (W m (e - 1))) wx :=
              fun t wx => run_float_arith wx .quo t .f64 _ _ _ (div_two m e HM.out (by omega) (by omega))
            clear A3 B
            go_wp2
            go_roundg (-(l' + 1)).toNat
            case measure => have := A2.out; omega
            case rel =>
              have A3 := A2.out
              exact ⟨e - 1, l' + 1, rfl, by rw [w64 (by have := H0.out; omega) (by omega)], ⟨by omega⟩, ⟨D2.out⟩⟩
          · have hl0 : l' = 0 := by have := A2.out; omega
            have he : e = l := by have := A2.out; omega
            subst he hl0
            go_wp2
            go_ret
            exact ⟨rfl, D2.out⟩

theorem quo_nan (t : TypeId) (P : Program) (w : World) : ∃ b, (eqF b b = false ∧ b < 18446744073709551616) ∧ (binOp .quo t (.float .f64 0) (.float .f64 0)).run P w = .ok (.float .f64 b) w.drew := by
  refine ⟨(Question.nanBits .f64 0 0).cut (w.tape w.drawn (.nanBits .f64 0 0)), ?_, ?_⟩
  · generalize w.tape w.drawn (.nanBits .f64 0 0) = q
    have hb : (Question.nanBits .f64 0 0).cut q = (q % 2) * 2 ^ 63 + 0x7ff0000000000000 + 1 + (q / 2) % (2 ^ 52 - 1) := rfl
    rw [hb]
    have h1 : q / 2 % (2 ^ 52 - 1) < 2 ^ 52 - 1 := Nat.mod_lt _ (by decide)
    generalize q / 2 % (2 ^ 52 - 1) = r at h1
    rcases Nat.mod_two_eq_zero_or_one q with e | e
    · rw [e, nan_iff (by omega)]; exact ⟨decide_eq_false (by omega), by omega⟩
    · rw [e, nan_iff (by omega)]; exact ⟨decide_eq_false (by omega), by omega⟩
  · have h : Ieee.double.div 0 0 = none := by decide +kernel
    have h' : FloatKind.f64.format.div 0 0 = none := h
    simp [binOp, Op.floatArith, h', Question.forced]
theorem nan_calls (w : World) : Calls Try.prog 51 #[] w fun e w' => (∃ b, e = .returned (.float .f64 b) ∧ (eqF b b = false ∧ b < 18446744073709551616)) ∧ Below w.heap.size w w' := by
  go_enter Try.func51, Try.ntmps51
  obtain ⟨b, hb, hq⟩ := quo_nan 37 Try.prog w
  have HB := Aside0.mk hb
  clear hb
  go_wp2
  go_ret
  exact ⟨⟨b, rfl, HB.out⟩, below_drew (Below.refl _ _)⟩
theorem quo_inf (t : TypeId) (P : Program) (w : World) : (binOp .quo t (.float .f64 4607182418800017408) (.float .f64 0)).run P w = .ok (.float .f64 9218868437227405312) w :=
  run_float_arith w .quo t .f64 _ _ _ (by decide +kernel)
attribute [local go_sem] quo_inf quo_run
theorem inf_calls (w : World) : Calls Try.prog 52 #[] w fun e w' => e = .returned (.float .f64 9218868437227405312) ∧ Below w.heap.size w w' := by
  go_enter Try.func52, Try.ntmps52
  go_wp2
  go_ret
  exact ⟨rfl, Below.refl _ _⟩
theorem lt_inf : ltF 9218868437227405312 0 = false := by decide +kernel
theorem lt_zero : ltF 0 0 = false := by decide +kernel
theorem eq_zero : eqF 0 0 = true := by decide +kernel
theorem lt_mzero : ltF 9223372036854775808 0 = false := by decide +kernel
attribute [local go_sem] lt_inf lt_zero eq_zero lt_mzero l_inf e_zero
/-- Is the sign -? -/
def sgn (b : Nat) : Bool := decide (9223372036854775808 ≤ b)
theorem minus_calls (b : Nat) (hb : b < 18446744073709551616) (nb : eqF b b = true) (w : World) : Calls Try.prog 54 #[.float .f64 b] w fun e w' => e = .returned (.bool (sgn b)) ∧ Below w.heap.size w w' := by
  rcases minus_facts hb nb with ⟨h, h1, h2⟩ | ⟨h, h1⟩
  · have hs : sgn b = false := decide_eq_false (by omega)
    rw [hs]
    clear h hb
    rcases h2 with rfl | h2
    · go_enter Try.func54, Try.ntmps54
      go_wp2
      go_ret
      exact ⟨rfl, Below.refl _ _⟩
    · go_enter Try.func54, Try.ntmps54
      go_wp2
      go_ret
      exact ⟨rfl, Below.refl _ _⟩
  · have hs : sgn b = true := decide_eq_true h
    rw [hs]
    clear h hb
    rcases h1 with h1 | rfl
    · go_enter Try.func54, Try.ntmps54
      go_wp2
      go_ret
      exact ⟨rfl, Below.refl _ _⟩
    · go_enter Try.func54, Try.ntmps54
      go_wp2
      go_ret
      exact ⟨rfl, Below.refl _ _⟩
theorem rwithin_calls (x lo hi : Nat) (w : World) : Calls Try.prog 35 #[.float .f64 x, .float .f64 lo, .float .f64 hi] w fun e w' => e = .returned (.bool (leF lo x && leF x hi)) ∧ Below w.heap.size w w' := by
  cases h : leF lo x
  · go_enter Try.func35, Try.ntmps35
    go_wp2
    go_ret
    exact ⟨rfl, Below.refl _ _⟩
  · go_enter Try.func35, Try.ntmps35
    go_wp2
    go_ret
    exact ⟨by rw [Bool.true_and]; rfl, Below.refl _ _⟩
theorem rsame_calls (a b : Nat) (ha : a < 18446744073709551616) (hb : b < 18446744073709551616) (w : World) : Calls Try.prog 32 #[.float .f64 a, .float .f64 b] w fun e w' => e = .returned (.bool (sameF a b)) ∧ Below w.heap.size w w' := by
  cases na : eqF a a
  · have HS : sameF a b = !eqF b b := by unfold sameF; rw [na]; rfl
    rw [HS]
    clear ha hb HS
    cases nb : eqF b b
    · go_enter Try.func32, Try.ntmps32
      go_wp2
      go_ret
      exact ⟨rfl, Below.refl _ _⟩
    · go_enter Try.func32, Try.ntmps32
      go_wp2
      go_ret
      exact ⟨rfl, Below.refl _ _⟩
  · cases nb : eqF b b
    · have HS : sameF a b = false := by unfold sameF; rw [na, nb]; rfl
      rw [HS]
      clear ha hb HS
      go_enter Try.func32, Try.ntmps32
      go_wp2
      go_ret
      exact ⟨rfl, Below.refl _ _⟩
    · have HS : sameF a b = (a == b) := by unfold sameF; rw [na, nb]; rfl
      rw [HS]
      clear HS
      cases hab : eqF a b
      · have hne : (a == b) = false := by
          rw [beq_eq_false_iff_ne]; intro e; subst e; rw [na] at hab; cases hab
        rw [hne]
        clear ha hb hne
        go_enter Try.func32, Try.ntmps32
        go_wp2
        go_ret
        exact ⟨rfl, Below.refl _ _⟩
      · have HA := Aside0.mk (And.intro ha na)
        have HB := Aside0.mk (And.intro hb nb)
        have he : (a == b) = (sgn a == sgn b) := by
          by_cases hs : sgn a = sgn b
          · have := eq_words ha hb na nb hs hab
            subst this
            simp
          · rw [beq_eq_false_iff_ne.2 hs, beq_eq_false_iff_ne]; intro e; subst e; exact hs rfl
        rw [he]
        clear he ha hb
        go_enter Try.func32, Try.ntmps32
        go_wp2_with fail
        refine (minus_calls a HA.out.1 HA.out.2 _).mono ?_
        rintro e w1 ⟨rfl, hw1⟩
        go_wp2_with fail
        refine (minus_calls b HB.out.1 HB.out.2 _).mono ?_
        rintro e w2 ⟨rfl, hw2⟩
        go_wp2
        go_ret
        exact ⟨rfl, below_step hw1 hw2⟩
end Go.Proofs.Ytcoaehhoiaijoaa.Fl
