/- Texts of this claim, put together (wip/pack.py): RefRegs. -/
import Derived.Test.YtcoaehhoiaijoaaK7
namespace Go.Proofs.Ytcoaehhoiaijoaa.Fl
open Go Go.RowKit Go.Proofs.YtcoaehhoiaijoaaW.PrintWords Go.Proofs.Ytcoaehhoiaijoaa.Base Go.Proofs.Ytcoaehhoiaijoaa.Dbl
set_option maxHeartbeats 8000000
set_option maxRecDepth 100000
def gtF (a b : Nat) : Bool := ord a b == some .gt
def geF (a b : Nat) : Bool := ord a b == some .gt || ord a b == some .eq
theorem f_gtr (t : TypeId) (a b : Nat) : binOp .gtr t (.float .f64 a) (.float .f64 b) = pure (.bool (gtF a b)) := binOp_float_cmp_gtr t .f64 a b
theorem f_geq (t : TypeId) (a b : Nat) : binOp .geq t (.float .f64 a) (.float .f64 b) = pure (.bool (geF a b)) := binOp_float_cmp_geq t .f64 a b
theorem gt_zero {r : Nat} (h0 : 0 < r) (h : r < 9218868437227405312) : gtF r 0 = true := by
  unfold gtF
  rw [ord_rung h (by omega), cmp_gt]
  exact decide_eq_true (val_lt h0)
theorem gt_none : gtF 0 0 = false := by decide +kernel
theorem gt_inf : gtF 9218868437227405312 0 = true := by decide +kernel
theorem eq_inf : eqF 9218868437227405312 9218868437227405312 = true := by decide +kernel
theorem half_inf (t : TypeId) (P : Program) (w : World) : (binOp .quo t (.float .f64 9218868437227405312) (.float .f64 4611686018427387904)).run P w = .ok (.float .f64 9218868437227405312) w :=
  run_float_arith w .quo t .f64 _ _ _ (by decide +kernel)
theorem V_succ (m : Nat) (e : Int) (he : -1074 ≤ e) : V m (e + 1) = 2 * V m e := by
  unfold V
  rw [show (e + 1 + 1074).toNat = (e + 1074).toNat + 1 from by omega, Nat.pow_succ]
  rw [← Nat.mul_assoc, Nat.mul_comm]
theorem half_ne {r : Nat} (h0 : 0 < r) (h : r < 9218868437227405312) : ∃ b, Ieee.double.div r 4611686018427387904 = some b ∧ eqF b r = false := by
  by_cases hs : r < 9007199254740992
  · obtain ⟨b, h1, h2, h3⟩ := half_small r h0 hs
    refine ⟨b, h1, ?_⟩
    rw [eq_rung (by omega) h]
    exact decide_eq_false h3
  · have hp : -1073 ≤ plR r := by unfold plR; rw [if_neg (by omega)]; omega
    have hm : 0 < magR r := by unfold magR; rw [if_neg (by omega)]; omega
    have hd := div_two (magR r) (plR r) (magR_lt r) hp (plR_le h)
    rw [W_rung r h] at hd
    refine ⟨_, hd, ?_⟩
    have hl := plR_le h
    have ho := order_W (magR r) (magR r) (plR r - 1) (plR r) (magR_lt r) (magR_lt r) (by omega) (by omega) (by omega) hl
    rw [W_rung r h] at ho
    show (Ieee.double.order _ r == some .eq) = false
    rw [ho, cmp_eq]
    have hv := V_succ (magR r) (plR r - 1) (by omega)
    rw [show plR r - 1 + 1 = plR r from by omega] at hv
    have : 0 < V (magR r) (plR r - 1) := Nat.mul_pos hm (Nat.two_pow_pos _)
    exact decide_eq_false (by omega)
theorem big_of (r : Nat) (h : 0 ≤ plR r) : 4503599627370496 ≤ magR r := by
  unfold magR
  split
  · rename_i h1
    have : plR r = -1074 := if_pos h1
    omega
  · omega
theorem c52 : W 4503599627370496 0 = 4841369599423283200 := by decide +kernel
theorem c53 : W 4503599627370496 1 = 4845873199050653696 := by decide +kernel
theorem V_le {m n : Nat} {e f : Int} (he : -1074 ≤ e) (hf : e ≤ f) (h : m ≤ n * 2 ^ (f - e).toNat) : V m e ≤ V n f := by
  unfold V
  rw [show (f + 1074).toNat = (f - e).toNat + (e + 1074).toNat from by omega, Nat.pow_add, ← Nat.mul_assoc]
  exact Nat.mul_le_mul_right _ h
theorem V_lt {m n : Nat} {e f : Int} (he : -1074 ≤ e) (hf : e ≤ f) (h : m < n * 2 ^ (f - e).toNat) : V m e < V n f := by
  unfold V
  rw [show (f + 1074).toNat = (f - e).toNat + (e + 1074).toNat from by omega, Nat.pow_add, ← Nat.mul_assoc]
  exact (Nat.mul_lt_mul_right (Nat.two_pow_pos _)).2 h
theorem eq0_W {m : Nat} {e : Int} (h0 : 0 < m) (h : m < 9007199254740992) (he : -1074 ≤ e) (he2 : e ≤ 971) : eqF (W m e) 0 = false := by
  have ho := order_W m 0 e 0 h (by omega) he he2 (by omega) (by omega)
  rw [W_zero] at ho
  show (Ieee.double.order (W m e) 0 == some .eq) = false
  rw [ho, cmp_eq]
  have : 0 < V m e := Nat.mul_pos h0 (Nat.two_pow_pos _)
  have h2 : V 0 0 = 0 := Nat.zero_mul _
  exact decide_eq_false (by omega)
theorem lt52 {m : Nat} {e : Int} (h : m < 9007199254740992) (he : -1074 ≤ e) (he2 : e ≤ 971) : ltF (W m e) 4841369599423283200 = decide (V m e < V 4503599627370496 0) := by
  have ho := order_W m 4503599627370496 e 0 h (by omega) he he2 (by omega) (by omega)
  rw [c52] at ho
  show (Ieee.double.order (W m e) _ == some .lt) = _
  rw [ho, cmp_lt]
theorem lt52_yes {m : Nat} {e : Int} (h : m < 9007199254740992) (he : -1074 ≤ e) (he2 : e < 0) : ltF (W m e) 4841369599423283200 = true := by
  rw [lt52 h he (by omega)]
  refine decide_eq_true (V_lt he (by omega) ?_)
  have h1 : 2 ^ 1 ≤ 2 ^ (0 - e).toNat := Nat.pow_le_pow_right (by decide) (by omega)
  omega
theorem lt52_zero {m : Nat} (h : m < 9007199254740992) : ltF (W m 0) 4841369599423283200 = decide (m < 4503599627370496) := by
  rw [lt52 h (by omega) (by omega)]
  congr 1
  apply propext
  unfold V
  exact Nat.mul_lt_mul_right (Nat.two_pow_pos _)
theorem lt52_no {m : Nat} {e : Int} (h1 : 4503599627370496 ≤ m) (h : m < 9007199254740992) (he : 0 ≤ e) (he2 : e ≤ 971) : ltF (W m e) 4841369599423283200 = false := by
  rw [lt52 h (by omega) he2]
  refine decide_eq_false (Nat.not_lt.2 (V_le (by omega) he ?_))
  exact Nat.le_trans h1 (Nat.le_mul_of_pos_right _ (Nat.two_pow_pos _))
theorem ge_cmp (a b : Nat) : (some (compare a b) == some Ordering.gt || some (compare a b) == some Ordering.eq) = decide (b ≤ a) := by
  rw [cmp_gt, cmp_eq]
  by_cases h : b < a
  · simp [h]; omega
  · by_cases h2 : a = b
    · subst h2; simp
    · simp [h, h2]; omega
theorem ge53 {m : Nat} {e : Int} (h : m < 9007199254740992) (he : -1074 ≤ e) (he2 : e ≤ 971) : geF (W m e) 4845873199050653696 = decide (V 4503599627370496 1 ≤ V m e) := by
  have ho := order_W m 4503599627370496 e 1 h (by omega) he he2 (by omega) (by omega)
  rw [c53] at ho
  show (Ieee.double.order (W m e) _ == some .gt || Ieee.double.order (W m e) _ == some .eq) = _
  rw [ho, ge_cmp]
theorem ge53_yes {m : Nat} {e : Int} (h1 : 4503599627370496 ≤ m) (h : m < 9007199254740992) (he : 1 ≤ e) (he2 : e ≤ 971) : geF (W m e) 4845873199050653696 = true := by
  rw [ge53 h (by omega) he2]
  exact decide_eq_true (V_le (by omega) he (Nat.le_trans h1 (Nat.le_mul_of_pos_right _ (Nat.two_pow_pos _))))
theorem ge53_no {m : Nat} {e : Int} (h : m < 9007199254740992) (he : -1074 ≤ e) (he2 : e ≤ 0) : geF (W m e) 4845873199050653696 = false := by
  rw [ge53 h he (by omega)]
  refine decide_eq_false (Nat.not_le.2 (V_lt he (by omega) ?_))
  have h1 : 2 ^ 1 ≤ 2 ^ (1 - e).toNat := Nat.pow_le_pow_right (by decide) (by omega)
  omega
theorem int_W {m : Nat} (h : m < 9007199254740992) : floatToIntVal .f64 (W m 0) .i64 = some (m : Int) := by
  have hd : (Ieee.double.read (W m 0)).toInt .zero = some (m : Int) := by
    by_cases h0 : m = 0
    · subst h0; rw [W_zero]; decide +kernel
    rw [read_W m 0 (by omega) h (by omega) (by omega)]
    unfold Ieee.Datum.toInt Ieee.Datum.integral
    simp only
    have e1 : ((0 : Int) - (gapN m 0 : Int)).toNat = 0 := by omega
    have e2 : (-((0 : Int) - (gapN m 0 : Int))).toNat = gapN m 0 := by omega
    rw [e1, e2, Nat.shiftLeft_zero, cut_exact m _ _ _ (by omega)]
    simp [Ieee.signed]
  unfold floatToIntVal
  show (match (Ieee.double.read (W m 0)).toInt .zero with | some n => if IntKind.i64.min ≤ n ∧ n ≤ IntKind.i64.max then some n else none | none => none) = some (m : Int)
  rw [hd]
  have h1 : IntKind.i64.min ≤ (m : Int) ∧ (m : Int) ≤ IntKind.i64.max := by
    constructor
    · show (-9223372036854775808 : Int) ≤ m; omega
    · show (m : Int) ≤ 9223372036854775807; omega
  exact if_pos h1
attribute [-go_sem] binOp_float_cmp_eql binOp_float_cmp_neq binOp_float_cmp_lss binOp_float_cmp_leq binOp_float_cmp_gtr binOp_float_cmp_geq
attribute [local go_sem] f_eql f_neq f_lss f_leq f_gtr f_geq bits_run frombits_run neg_run gt_none gt_inf eq_inf half_inf eq_zero lt_zero

/-- The parts of a number's word. -/
theorem parts_of {b E f s : Nat} (hb : b = s * 9223372036854775808 + E * 4503599627370496 + f) (hs : s ≤ 1) (hE : E ≤ 2047) (hf : f < 4503599627370496) :
    (s : Int) * 32768 + 16 * (E : Int) + (f : Int) / 281474976710656 = part b 0 ∧ Int.tmod ((f : Int) / 4294967296) 65536 = part b 1 ∧
    Int.tmod ((f : Int) / 65536) 65536 = part b 2 ∧ Int.tmod (f : Int) 65536 = part b 3 := by
  have p0 : part b 0 = ((b / 281474976710656 % 65536 : Nat) : Int) := rfl
  have p1 : part b 1 = ((b / 4294967296 % 65536 : Nat) : Int) := rfl
  have p2 : part b 2 = ((b / 65536 % 65536 : Nat) : Int) := rfl
  have p3 : part b 3 = ((b / 1 % 65536 : Nat) : Int) := rfl
  rw [p0, p1, p2, p3]
  refine ⟨?_, ?_, ?_, ?_⟩
  · omega
  · rw [Int.tmod_eq_emod_of_nonneg (by omega)]; omega
  · rw [Int.tmod_eq_emod_of_nonneg (by omega)]; omega
  · rw [Int.tmod_eq_emod_of_nonneg (by omega)]; omega
theorem rregs_calls (b : Nat) (hb : b < 18446744073709551616) (w : World) : Calls Try.prog 34 #[.float .f64 b] w (Row4 w (regsP b)) := by
  cases hn : eqF b b
  · have HP := Aside0.mk (show regsP b = [32760, 0, 0, 0] by unfold regsP; rw [hn]; rfl)
    clear hb
    go_enter Try.func34, Try.ntmps34
    go_wp2
    go_ret
    rw [HP.out]
    exact ⟨⟨_, _, rfl, Nat.le_refl _, lit_C w [32760, 0, 0, 0] 3 (by decide)⟩, below_alloc (Below.refl _ _) _⟩
  · have HP := Aside0.mk (show regsP b = [part b 0, part b 1, part b 2, part b 3] by unfold regsP; rw [hn]; rfl)
    obtain ⟨T, hT⟩ : ∃ T, T = Row4 w (regsP b) := ⟨_, rfl⟩
    have HT := Aside0.mk hT
    rw [← hT]
    clear hT
    have HN := Aside0.mk hn
    have HB := Aside0.mk hb
    have hi := (nan_iff hb).symm.trans hn
    rw [decide_eq_true_eq] at hi
    clear hb
    obtain ⟨r, hr⟩ : ∃ r, r = b % 9223372036854775808 := ⟨_, rfl⟩
    rw [← hr] at hi
    have HR := Aside0.mk (And.intro hr hi)
    clear hr hi
    cases hs : sgn b
    · have hsb : b < 9223372036854775808 := Nat.lt_of_not_le (of_decide_eq_false hs)
      obtain rfl : r = b := by have := HR.out.1; omega

      by_cases hrl : r < 9218868437227405312
      · by_cases hr0 : 0 < r
        · have GG := Aside0.mk (show 0 < magR r ∧ magR r < 9007199254740992 ∧ -1074 ≤ plR r ∧ plR r ≤ 971 ∧ (0 ≤ plR r → 4503599627370496 ≤ magR r) from ⟨by unfold magR; split <;> omega, magR_lt r, plR_ge r, plR_le hrl, big_of r⟩)
          have PS := Aside0.mk (show (r < 4503599627370496 → _) ∧ (¬ r < 4503599627370496 → _) from
            ⟨fun h => parts_of (b := r) (E := 0) (f := r) (s := 0) (by omega) (by omega) (by omega) h, fun h => parts_of (b := r) (E := r / 4503599627370496) (f := r % 4503599627370496) (s := 0) (by omega) (by omega) (by omega) (by omega)⟩)
          have hgt : gtF r 0 = true := gt_zero hr0 hrl
          obtain ⟨hb2, hd2, he2⟩ := half_ne hr0 hrl
          have hq2 : ∀ t wx, (binOp .quo t (.float .f64 r) (.float .f64 4611686018427387904)).run Try.prog wx = .ok (.float .f64 hb2) wx := fun t wx => run_float_arith wx .quo t .f64 _ _ _ hd2
          clear hd2
          go_enter Try.func34, Try.ntmps34
          go_wp2_with fail
          refine (minus_calls _ HB.out HN.out _).mono ?_
          rintro e w1 ⟨rfl, hw1⟩
          rw [hs]
          have DD := Aside0.mk hw1
          clear hw1
          go_wp2
          go_loopg [0, 4] (max (plR r) 0 - plR r).toNat (fun gg s0 s4 wr => ∃ (e x : Int), s0 = .float .f64 (W (magR r) e) ∧ s4 = .int .i64 x ∧ Aside0 (plR r ≤ e ∧ e ≤ max (plR r) 0 ∧ (max (plR r) 0 - e).toNat ≤ gg ∧ x = 1075 - (e - plR r)) ∧ Aside0 (Below w.heap.size w wr))
          case atStart => exact ⟨plR r, 1075, by rw [W_rung r hrl], rfl, ⟨by omega⟩, ⟨DD.out⟩⟩
          case round =>
            obtain ⟨e, x, rfl, rfl, A1, D1⟩ := hrel
            have A := A1.out
            have G := GG.out
            have h0 : eqF (W (magR r) e) 0 = false := eq0_W G.1 G.2.1 (by omega) (by omega)
            by_cases he : e < 0
            · have h1 : ltF (W (magR r) e) 4841369599423283200 = true := lt52_yes G.2.1 (by omega) he
              have h2 : x > 1 := by omega
              have hmul : ∀ t wx, (binOp .mul t (.float .f64 (W (magR r) e)) (.float .f64 4611686018427387904)).run Try.prog wx = .ok (.float .f64 (W (magR r) (e + 1))) wx :=
                fun t wx => run_float_arith wx .mul t .f64 _ _ _ (mul_two _ e G.2.1 (by omega) (by omega))
              clear A G
              go_wp2
              go_roundg (max (plR r) 0 - (e + 1)).toNat
              case measure => have := A1.out; omega
              case rel =>
                have A := A1.out
                exact ⟨e + 1, x - 1, rfl, by rw [w64 (by have := GG.out; omega) (by have := GG.out; omega)], ⟨by omega⟩, ⟨D1.out⟩⟩
            · have hcmp : (ltF (W (magR r) e) 4841369599423283200 = false) ∨ (ltF (W (magR r) e) 4841369599423283200 = true ∧ ¬ x > 1 ∧ r < 4503599627370496) := by
                by_cases hsub : r < 4503599627370496
                · right
                  have hp : plR r = -1074 := if_pos hsub
                  have hm : magR r = r := if_pos hsub
                  obtain rfl : e = 0 := by omega
                  exact ⟨by rw [lt52_zero G.2.1, hm]; exact decide_eq_true hsub, by omega, hsub⟩
                · left
                  exact lt52_no (by unfold magR; rw [if_neg hsub]; omega) G.2.1 (by omega) (by omega)
              clear A G
              rcases hcmp with h1 | ⟨h1, h2, hsub⟩
              · go_wp2
                go_loopg [0, 4] e.toNat (fun gg s0 s4 wr' => ∃ (e' x' : Int), s0 = .float .f64 (W (magR r) e') ∧ s4 = .int .i64 x' ∧ Aside0 (0 ≤ e' ∧ e' ≤ e ∧ e'.toNat ≤ gg ∧ (x' = 1075 + plR r - e')) ∧ Aside0 (Below w.heap.size w wr'))
                case atStart => exact ⟨e, x, rfl, rfl, ⟨by have := A1.out; omega⟩, ⟨D1.out⟩⟩
                case round =>
                  obtain ⟨e', x', rfl, rfl, A2, D2⟩ := hrel
                  have A := A2.out
                  have B := A1.out
                  have G := GG.out
                  by_cases he' : 0 < e'
                  · have h3 : geF (W (magR r) e') 4845873199050653696 = true := ge53_yes (G.2.2.2.2 (by omega)) G.2.1 (by omega) (by omega)
                    have hdiv : ∀ t wx, (binOp .quo t (.float .f64 (W (magR r) e')) (.float .f64 4611686018427387904)).run Try.prog wx = .ok (.float .f64 (W (magR r) (e' - 1))) wx :=
                      fun t wx => run_float_arith wx .quo t .f64 _ _ _ (div_two _ e' G.2.1 (by omega) (by omega))
                    clear A B G
                    go_wp2
                    go_roundg (e' - 1).toNat
                    case measure => have := A2.out; omega
                    case rel =>
                      have A := A2.out
                      exact ⟨e' - 1, x' + 1, rfl, by rw [w64 (by have := GG.out; have := A1.out; omega) (by have := GG.out; have := A1.out; omega)], ⟨by omega⟩, ⟨D2.out⟩⟩
                  · obtain rfl : e' = 0 := by omega
                    have h3 : geF (W (magR r) 0) 4845873199050653696 = false := ge53_no G.2.1 (by omega) (by omega)
                    have hx' : x' = 1075 + plR r := by omega
                    subst hx'
                    clear A B G
                    by_cases hsub' : r < 4503599627370496
                    · have HS := Aside0.mk hsub'
                      clear hsub'
                      have hsub := HS.out
                      have hm : magR r = r := if_pos hsub
                      have hcv : ∀ wx, (convert 37 3 (.float .f64 (W (magR r) 0))).run Try.prog wx = .ok (.int .i64 r) wx := fun wx => run_convert_float_int wx 37 3 .f64 .i64 _ _ (by kernel_rfl) Try.underlying3 (by rw [hm]; exact int_W (by omega))
                      have hlt : (r : Int) < 4503599627370496 := by omega
                      clear hm
                      obtain ⟨q0, q1, q2, q3⟩ := PS.out.1 hsub
                      have Q0 := Aside0.mk q0
                      clear q0
                      go_wp2
                      have hq : part r 0 = (r : Int) / 281474976710656 := by rw [← Q0.out]; omega
                      rw [HT.out, HP.out, hq]
                      exact ⟨⟨_, _, rfl, Nat.le_refl _, lit_C _ [(r : Int) / 281474976710656, part _ 1, part _ 2, part _ 3] 3 (by simp)⟩, below_alloc D2.out _⟩
                    · have HS := Aside0.mk hsub'
                      clear hsub'
                      have hsub := HS.out
                      have hm : magR r = 4503599627370496 + r % 4503599627370496 := if_neg hsub
                      have hp : plR r = ((r / 4503599627370496 : Nat) : Int) - 1075 := if_neg hsub
                      obtain ⟨q0, q1, q2, q3⟩ := PS.out.2 hsub
                      obtain ⟨f, hf⟩ : ∃ f, f = r % 4503599627370496 := ⟨_, rfl⟩
                      obtain ⟨E, hE⟩ : ∃ E, E = r / 4503599627370496 := ⟨_, rfl⟩
                      rw [← hf] at q0 q1 q2 q3 hm
                      rw [← hE] at q0 hp
                      obtain ⟨M, hM⟩ : ∃ M, M = magR r := ⟨_, rfl⟩
                      rw [← hM] at hm
                      have hcv : ∀ wx, (convert 37 3 (.float .f64 (W (magR r) 0))).run Try.prog wx = .ok (.int .i64 (M : Int)) wx := fun wx => run_convert_float_int wx 37 3 .f64 .i64 _ _ (by kernel_rfl) Try.underlying3 (by rw [hM]; exact int_W (magR_lt r))
                      have hlt : ¬ (M : Int) < 4503599627370496 := by omega
                      have hsb : wrap64 ((M : Int) - 4503599627370496) = (f : Int) := by rw [w64 (by omega) (by omega)]; omega
                      have hxx : 1075 + plR r = (E : Int) := by omega
                      have Q0 := Aside0.mk q0
                      have EF := Aside0.mk (show E ≤ 2047 ∧ f < 4503599627370496 by omega)
                      clear q0 hm hp hf hE hM
                      go_wp2
                      have hq : part r 0 = wrap64 (wrap64 (wrap64 (16 * (E : Int))) + (f : Int) / 281474976710656) := by
                        have EF := EF.out
                        rw [← Q0.out, w64 (n := 16 * (E : Int)) (by omega) (by omega), w64 (n := 16 * (E : Int)) (by omega) (by omega), w64 (by omega) (by omega)]
                        omega
                      rw [HT.out, HP.out, hq]
                      exact ⟨⟨_, _, rfl, Nat.le_refl _, lit_C _ [wrap64 (wrap64 (wrap64 (16 * (E : Int))) + (f : Int) / 281474976710656), part _ 1, part _ 2, part _ 3] 3 (by simp)⟩, below_alloc D2.out _⟩
              · have hp : plR r = -1074 := if_pos hsub
                have he0 : e = 0 := by have := A1.out; omega
                have hx1 : x = 1 := by have := A1.out; omega
                subst he0 hx1
                clear hp
                have h3 : geF (W (magR r) 0) 4845873199050653696 = false := ge53_no GG.out.2.1 (by omega) (by omega)
                go_wp2
                go_loopg [0, 4] 0 (fun gg s0 s4 wr' => s0 = .float .f64 (W (magR r) 0) ∧ s4 = .int .i64 1 ∧ Aside0 (Below w.heap.size w wr'))
                case atStart => exact ⟨rfl, rfl, ⟨D1.out⟩⟩
                case round =>
                  obtain ⟨rfl, rfl, D2⟩ := hrel
                  have HS := Aside0.mk hsub
                  clear hsub

                  have hsub := HS.out
                  have hm : magR r = r := if_pos hsub
                  have hcv : ∀ wx, (convert 37 3 (.float .f64 (W (magR r) 0))).run Try.prog wx = .ok (.int .i64 r) wx := fun wx => run_convert_float_int wx 37 3 .f64 .i64 _ _ (by kernel_rfl) Try.underlying3 (by rw [hm]; exact int_W (by omega))
                  have hlt : (r : Int) < 4503599627370496 := by omega
                  clear hm
                  obtain ⟨q0, q1, q2, q3⟩ := PS.out.1 hsub
                  have Q0 := Aside0.mk q0
                  clear q0
                  go_wp2
                  have hq : part r 0 = (r : Int) / 281474976710656 := by rw [← Q0.out]; omega
                  rw [HT.out, HP.out, hq]
                  exact ⟨⟨_, _, rfl, Nat.le_refl _, lit_C _ [(r : Int) / 281474976710656, part _ 1, part _ 2, part _ 3] 3 (by simp)⟩, below_alloc D2.out _⟩
        · have hz : r = 0 := by omega
          have HZ := Aside0.mk hz
          have hgt : gtF r 0 = false := by rw [hz]; exact gt_none
          have heq : eqF r 0 = true := by rw [hz]; exact eq_zero
          have hge : geF r 4845873199050653696 = false := by rw [hz]; decide +kernel
          have hcv : ∀ wx, (convert 37 3 (.float .f64 r)).run Try.prog wx = .ok (.int .i64 0) wx := fun wx => run_convert_float_int wx 37 3 .f64 .i64 _ _ (by kernel_rfl) Try.underlying3 (by rw [hz]; decide +kernel)
          clear hz hr0 hrl
          go_enter Try.func34, Try.ntmps34
          go_wp2_with fail
          refine (minus_calls _ HB.out HN.out _).mono ?_
          rintro e w1 ⟨rfl, hw1⟩
          rw [hs]
          have DD := Aside0.mk hw1
          clear hw1
          go_wp2
          go_loopg [0, 4] 0 (fun gg s0 s4 wr => s0 = .float .f64 r ∧ s4 = .int .i64 1075 ∧ Aside0 (Below w.heap.size w wr))
          case atStart => exact ⟨rfl, rfl, ⟨DD.out⟩⟩
          case round =>
            obtain ⟨rfl, rfl, D1⟩ := hrel
            go_wp2
            go_loopg [0, 4] 0 (fun gg s0 s4 wr' => s0 = .float .f64 r ∧ s4 = .int .i64 1075 ∧ Aside0 (Below w.heap.size w wr'))
            case atStart => exact ⟨rfl, rfl, ⟨D1.out⟩⟩
            case round =>
              obtain ⟨rfl, rfl, D2⟩ := hrel
              go_wp2
              have hl : [part (r) 0, part (r) 1, part (r) 2, part (r) 3] = [0, 0, 0, 0] := by rw [HZ.out]; decide
              rw [HT.out, HP.out, hl]
              exact ⟨⟨_, _, rfl, Nat.le_refl _, lit_C _ [0, 0, 0, 0] 3 (by simp)⟩, below_alloc D2.out _⟩
      · have hz : r = 9218868437227405312 := by have := HR.out; omega
        have HZ := Aside0.mk hz
        have hgt : gtF r 0 = true := by rw [hz]; exact gt_inf
        have heq : eqF r r = true := by rw [hz]; exact eq_inf
        have hq2 : ∀ t wx, (binOp .quo t (.float .f64 r) (.float .f64 4611686018427387904)).run Try.prog wx = .ok (.float .f64 r) wx := fun t wx => by rw [hz]; exact half_inf t _ wx
        clear hz hrl
        go_enter Try.func34, Try.ntmps34
        go_wp2_with fail
        refine (minus_calls _ HB.out HN.out _).mono ?_
        rintro e w1 ⟨rfl, hw1⟩
        rw [hs]
        have DD := Aside0.mk hw1
        clear hw1
        go_wp2
        have hl : [part (r) 0, part (r) 1, part (r) 2, part (r) 3] = [32752, 0, 0, 0] := by rw [HZ.out]; decide
        rw [HT.out, HP.out, hl]
        exact ⟨⟨_, _, rfl, Nat.le_refl _, lit_C _ [32752, 0, 0, 0] 3 (by simp)⟩, below_alloc DD.out _⟩
    · have hsb : 9223372036854775808 ≤ b := of_decide_eq_true hs
      obtain rfl : b = 9223372036854775808 + r := by have := HR.out.1; have := HB.out; omega
      have hneg : negF (9223372036854775808 + r) = r := by
        have h := neg_word HB.out
        rw [if_neg (by omega)] at h
        rw [show negF (9223372036854775808 + r) = (9223372036854775808 + r) ^^^ 2 ^ 63 from rfl, h]
        omega

      by_cases hrl : r < 9218868437227405312
      · by_cases hr0 : 0 < r
        · have GG := Aside0.mk (show 0 < magR r ∧ magR r < 9007199254740992 ∧ -1074 ≤ plR r ∧ plR r ≤ 971 ∧ (0 ≤ plR r → 4503599627370496 ≤ magR r) from ⟨by unfold magR; split <;> omega, magR_lt r, plR_ge r, plR_le hrl, big_of r⟩)
          have PS := Aside0.mk (show (r < 4503599627370496 → _) ∧ (¬ r < 4503599627370496 → _) from
            ⟨fun h => parts_of (b := 9223372036854775808 + r) (E := 0) (f := r) (s := 1) (by omega) (by omega) (by omega) h, fun h => parts_of (b := 9223372036854775808 + r) (E := r / 4503599627370496) (f := r % 4503599627370496) (s := 1) (by omega) (by omega) (by omega) (by omega)⟩)
          have hgt : gtF r 0 = true := gt_zero hr0 hrl
          obtain ⟨hb2, hd2, he2⟩ := half_ne hr0 hrl
          have hq2 : ∀ t wx, (binOp .quo t (.float .f64 r) (.float .f64 4611686018427387904)).run Try.prog wx = .ok (.float .f64 hb2) wx := fun t wx => run_float_arith wx .quo t .f64 _ _ _ hd2
          clear hd2
          go_enter Try.func34, Try.ntmps34
          go_wp2_with fail
          refine (minus_calls _ HB.out HN.out _).mono ?_
          rintro e w1 ⟨rfl, hw1⟩
          rw [hs]
          have DD := Aside0.mk hw1
          clear hw1
          go_wp2
          go_loopg [0, 4] (max (plR r) 0 - plR r).toNat (fun gg s0 s4 wr => ∃ (e x : Int), s0 = .float .f64 (W (magR r) e) ∧ s4 = .int .i64 x ∧ Aside0 (plR r ≤ e ∧ e ≤ max (plR r) 0 ∧ (max (plR r) 0 - e).toNat ≤ gg ∧ x = 1075 - (e - plR r)) ∧ Aside0 (Below w.heap.size w wr))
          case atStart => exact ⟨plR r, 1075, by rw [W_rung r hrl], rfl, ⟨by omega⟩, ⟨DD.out⟩⟩
          case round =>
            obtain ⟨e, x, rfl, rfl, A1, D1⟩ := hrel
            have A := A1.out
            have G := GG.out
            have h0 : eqF (W (magR r) e) 0 = false := eq0_W G.1 G.2.1 (by omega) (by omega)
            by_cases he : e < 0
            · have h1 : ltF (W (magR r) e) 4841369599423283200 = true := lt52_yes G.2.1 (by omega) he
              have h2 : x > 1 := by omega
              have hmul : ∀ t wx, (binOp .mul t (.float .f64 (W (magR r) e)) (.float .f64 4611686018427387904)).run Try.prog wx = .ok (.float .f64 (W (magR r) (e + 1))) wx :=
                fun t wx => run_float_arith wx .mul t .f64 _ _ _ (mul_two _ e G.2.1 (by omega) (by omega))
              clear A G
              go_wp2
              go_roundg (max (plR r) 0 - (e + 1)).toNat
              case measure => have := A1.out; omega
              case rel =>
                have A := A1.out
                exact ⟨e + 1, x - 1, rfl, by rw [w64 (by have := GG.out; omega) (by have := GG.out; omega)], ⟨by omega⟩, ⟨D1.out⟩⟩
            · have hcmp : (ltF (W (magR r) e) 4841369599423283200 = false) ∨ (ltF (W (magR r) e) 4841369599423283200 = true ∧ ¬ x > 1 ∧ r < 4503599627370496) := by
                by_cases hsub : r < 4503599627370496
                · right
                  have hp : plR r = -1074 := if_pos hsub
                  have hm : magR r = r := if_pos hsub
                  obtain rfl : e = 0 := by omega
                  exact ⟨by rw [lt52_zero G.2.1, hm]; exact decide_eq_true hsub, by omega, hsub⟩
                · left
                  exact lt52_no (by unfold magR; rw [if_neg hsub]; omega) G.2.1 (by omega) (by omega)
              clear A G
              rcases hcmp with h1 | ⟨h1, h2, hsub⟩
              · go_wp2
                go_loopg [0, 4] e.toNat (fun gg s0 s4 wr' => ∃ (e' x' : Int), s0 = .float .f64 (W (magR r) e') ∧ s4 = .int .i64 x' ∧ Aside0 (0 ≤ e' ∧ e' ≤ e ∧ e'.toNat ≤ gg ∧ (x' = 1075 + plR r - e')) ∧ Aside0 (Below w.heap.size w wr'))
                case atStart => exact ⟨e, x, rfl, rfl, ⟨by have := A1.out; omega⟩, ⟨D1.out⟩⟩
                case round =>
                  obtain ⟨e', x', rfl, rfl, A2, D2⟩ := hrel
                  have A := A2.out
                  have B := A1.out
                  have G := GG.out
                  by_cases he' : 0 < e'
                  · have h3 : geF (W (magR r) e') 4845873199050653696 = true := ge53_yes (G.2.2.2.2 (by omega)) G.2.1 (by omega) (by omega)
                    have hdiv : ∀ t wx, (binOp .quo t (.float .f64 (W (magR r) e')) (.float .f64 4611686018427387904)).run Try.prog wx = .ok (.float .f64 (W (magR r) (e' - 1))) wx :=
                      fun t wx => run_float_arith wx .quo t .f64 _ _ _ (div_two _ e' G.2.1 (by omega) (by omega))
                    clear A B G
                    go_wp2
                    go_roundg (e' - 1).toNat
                    case measure => have := A2.out; omega
                    case rel =>
                      have A := A2.out
                      exact ⟨e' - 1, x' + 1, rfl, by rw [w64 (by have := GG.out; have := A1.out; omega) (by have := GG.out; have := A1.out; omega)], ⟨by omega⟩, ⟨D2.out⟩⟩
                  · obtain rfl : e' = 0 := by omega
                    have h3 : geF (W (magR r) 0) 4845873199050653696 = false := ge53_no G.2.1 (by omega) (by omega)
                    have hx' : x' = 1075 + plR r := by omega
                    subst hx'
                    clear A B G
                    by_cases hsub' : r < 4503599627370496
                    · have HS := Aside0.mk hsub'
                      clear hsub'
                      have hsub := HS.out
                      have hm : magR r = r := if_pos hsub
                      have hcv : ∀ wx, (convert 37 3 (.float .f64 (W (magR r) 0))).run Try.prog wx = .ok (.int .i64 r) wx := fun wx => run_convert_float_int wx 37 3 .f64 .i64 _ _ (by kernel_rfl) Try.underlying3 (by rw [hm]; exact int_W (by omega))
                      have hlt : (r : Int) < 4503599627370496 := by omega
                      clear hm
                      obtain ⟨q0, q1, q2, q3⟩ := PS.out.1 hsub
                      have Q0 := Aside0.mk q0
                      clear q0
                      go_wp2
                      have hq : part (9223372036854775808 + r) 0 = 32768 + (r : Int) / 281474976710656 := by rw [← Q0.out]; omega
                      rw [HT.out, HP.out, hq]
                      exact ⟨⟨_, _, rfl, Nat.le_refl _, lit_C _ [32768 + (r : Int) / 281474976710656, part _ 1, part _ 2, part _ 3] 3 (by simp)⟩, below_alloc D2.out _⟩
                    · have HS := Aside0.mk hsub'
                      clear hsub'
                      have hsub := HS.out
                      have hm : magR r = 4503599627370496 + r % 4503599627370496 := if_neg hsub
                      have hp : plR r = ((r / 4503599627370496 : Nat) : Int) - 1075 := if_neg hsub
                      obtain ⟨q0, q1, q2, q3⟩ := PS.out.2 hsub
                      obtain ⟨f, hf⟩ : ∃ f, f = r % 4503599627370496 := ⟨_, rfl⟩
                      obtain ⟨E, hE⟩ : ∃ E, E = r / 4503599627370496 := ⟨_, rfl⟩
                      rw [← hf] at q0 q1 q2 q3 hm
                      rw [← hE] at q0 hp
                      obtain ⟨M, hM⟩ : ∃ M, M = magR r := ⟨_, rfl⟩
                      rw [← hM] at hm
                      have hcv : ∀ wx, (convert 37 3 (.float .f64 (W (magR r) 0))).run Try.prog wx = .ok (.int .i64 (M : Int)) wx := fun wx => run_convert_float_int wx 37 3 .f64 .i64 _ _ (by kernel_rfl) Try.underlying3 (by rw [hM]; exact int_W (magR_lt r))
                      have hlt : ¬ (M : Int) < 4503599627370496 := by omega
                      have hsb : wrap64 ((M : Int) - 4503599627370496) = (f : Int) := by rw [w64 (by omega) (by omega)]; omega
                      have hxx : 1075 + plR r = (E : Int) := by omega
                      have Q0 := Aside0.mk q0
                      have EF := Aside0.mk (show E ≤ 2047 ∧ f < 4503599627370496 by omega)
                      clear q0 hm hp hf hE hM
                      go_wp2
                      have hq : part (9223372036854775808 + r) 0 = wrap64 (wrap64 (32768 + wrap64 (16 * (E : Int))) + (f : Int) / 281474976710656) := by
                        have EF := EF.out
                        rw [← Q0.out, w64 (n := 16 * (E : Int)) (by omega) (by omega), w64 (n := 32768 + 16 * (E : Int)) (by omega) (by omega), w64 (by omega) (by omega)]
                        omega
                      rw [HT.out, HP.out, hq]
                      exact ⟨⟨_, _, rfl, Nat.le_refl _, lit_C _ [wrap64 (wrap64 (32768 + wrap64 (16 * (E : Int))) + (f : Int) / 281474976710656), part _ 1, part _ 2, part _ 3] 3 (by simp)⟩, below_alloc D2.out _⟩
              · have hp : plR r = -1074 := if_pos hsub
                have he0 : e = 0 := by have := A1.out; omega
                have hx1 : x = 1 := by have := A1.out; omega
                subst he0 hx1
                clear hp
                have h3 : geF (W (magR r) 0) 4845873199050653696 = false := ge53_no GG.out.2.1 (by omega) (by omega)
                go_wp2
                go_loopg [0, 4] 0 (fun gg s0 s4 wr' => s0 = .float .f64 (W (magR r) 0) ∧ s4 = .int .i64 1 ∧ Aside0 (Below w.heap.size w wr'))
                case atStart => exact ⟨rfl, rfl, ⟨D1.out⟩⟩
                case round =>
                  obtain ⟨rfl, rfl, D2⟩ := hrel
                  have HS := Aside0.mk hsub
                  clear hsub

                  have hsub := HS.out
                  have hm : magR r = r := if_pos hsub
                  have hcv : ∀ wx, (convert 37 3 (.float .f64 (W (magR r) 0))).run Try.prog wx = .ok (.int .i64 r) wx := fun wx => run_convert_float_int wx 37 3 .f64 .i64 _ _ (by kernel_rfl) Try.underlying3 (by rw [hm]; exact int_W (by omega))
                  have hlt : (r : Int) < 4503599627370496 := by omega
                  clear hm
                  obtain ⟨q0, q1, q2, q3⟩ := PS.out.1 hsub
                  have Q0 := Aside0.mk q0
                  clear q0
                  go_wp2
                  have hq : part (9223372036854775808 + r) 0 = 32768 + (r : Int) / 281474976710656 := by rw [← Q0.out]; omega
                  rw [HT.out, HP.out, hq]
                  exact ⟨⟨_, _, rfl, Nat.le_refl _, lit_C _ [32768 + (r : Int) / 281474976710656, part _ 1, part _ 2, part _ 3] 3 (by simp)⟩, below_alloc D2.out _⟩
        · have hz : r = 0 := by omega
          have HZ := Aside0.mk hz
          have hgt : gtF r 0 = false := by rw [hz]; exact gt_none
          have heq : eqF r 0 = true := by rw [hz]; exact eq_zero
          have hge : geF r 4845873199050653696 = false := by rw [hz]; decide +kernel
          have hcv : ∀ wx, (convert 37 3 (.float .f64 r)).run Try.prog wx = .ok (.int .i64 0) wx := fun wx => run_convert_float_int wx 37 3 .f64 .i64 _ _ (by kernel_rfl) Try.underlying3 (by rw [hz]; decide +kernel)
          clear hz hr0 hrl
          go_enter Try.func34, Try.ntmps34
          go_wp2_with fail
          refine (minus_calls _ HB.out HN.out _).mono ?_
          rintro e w1 ⟨rfl, hw1⟩
          rw [hs]
          have DD := Aside0.mk hw1
          clear hw1
          go_wp2
          go_loopg [0, 4] 0 (fun gg s0 s4 wr => s0 = .float .f64 r ∧ s4 = .int .i64 1075 ∧ Aside0 (Below w.heap.size w wr))
          case atStart => exact ⟨rfl, rfl, ⟨DD.out⟩⟩
          case round =>
            obtain ⟨rfl, rfl, D1⟩ := hrel
            go_wp2
            go_loopg [0, 4] 0 (fun gg s0 s4 wr' => s0 = .float .f64 r ∧ s4 = .int .i64 1075 ∧ Aside0 (Below w.heap.size w wr'))
            case atStart => exact ⟨rfl, rfl, ⟨D1.out⟩⟩
            case round =>
              obtain ⟨rfl, rfl, D2⟩ := hrel
              go_wp2
              have hl : [part (9223372036854775808 + r) 0, part (9223372036854775808 + r) 1, part (9223372036854775808 + r) 2, part (9223372036854775808 + r) 3] = [32768, 0, 0, 0] := by rw [HZ.out]; decide
              rw [HT.out, HP.out, hl]
              exact ⟨⟨_, _, rfl, Nat.le_refl _, lit_C _ [32768, 0, 0, 0] 3 (by simp)⟩, below_alloc D2.out _⟩
      · have hz : r = 9218868437227405312 := by have := HR.out; omega
        have HZ := Aside0.mk hz
        have hgt : gtF r 0 = true := by rw [hz]; exact gt_inf
        have heq : eqF r r = true := by rw [hz]; exact eq_inf
        have hq2 : ∀ t wx, (binOp .quo t (.float .f64 r) (.float .f64 4611686018427387904)).run Try.prog wx = .ok (.float .f64 r) wx := fun t wx => by rw [hz]; exact half_inf t _ wx
        clear hz hrl
        go_enter Try.func34, Try.ntmps34
        go_wp2_with fail
        refine (minus_calls _ HB.out HN.out _).mono ?_
        rintro e w1 ⟨rfl, hw1⟩
        rw [hs]
        have DD := Aside0.mk hw1
        clear hw1
        go_wp2
        have hl : [part (9223372036854775808 + r) 0, part (9223372036854775808 + r) 1, part (9223372036854775808 + r) 2, part (9223372036854775808 + r) 3] = [65520, 0, 0, 0] := by rw [HZ.out]; decide
        rw [HT.out, HP.out, hl]
        exact ⟨⟨_, _, rfl, Nat.le_refl _, lit_C _ [65520, 0, 0, 0] 3 (by simp)⟩, below_alloc DD.out _⟩

end Go.Proofs.Ytcoaehhoiaijoaa.Fl
