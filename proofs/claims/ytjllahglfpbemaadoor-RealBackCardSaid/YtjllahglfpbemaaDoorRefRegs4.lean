/- The reference's numbers of a float, walked by hand. -/
import Derived.Test.YtjllahglfpbemaaDoorRealRegs4
namespace Go.Proofs.YtjllahglfpbemaaDoor.Fl
open Go Go.RowKit Go.Proofs.YtjllahglfpbemaaDoorW.PrintWords Go.Proofs.YtjllahglfpbemaaDoor.Base Go.Proofs.YtjllahglfpbemaaDoor.Dbl
set_option maxHeartbeats 8000000
set_option maxRecDepth 100000
def gtF (a b : Nat) : Bool := ord a b == some .gt
def geF (a b : Nat) : Bool := ord a b == some .gt || ord a b == some .eq
theorem f_gtr (t : TypeId) (a b : Nat) : binOp .gtr t (.float .f64 a) (.float .f64 b) = pure (.bool (gtF a b)) := binOp_float_cmp_gtr t .f64 a b
theorem f_geq (t : TypeId) (a b : Nat) : binOp .geq t (.float .f64 a) (.float .f64 b) = pure (.bool (geF a b)) := binOp_float_cmp_geq t .f64 a b
theorem gt_zero {r : Nat} (h0 : 0 < r) (h : r < 9218868437227405312) : gtF r 0 = true := by
  unfold gtF
  rw [ord_rung h (by omega), cmp_gt]
  exact decide_eq_true (val_lt h0)
theorem gt_none : gtF 0 0 = false := by decide +kernel
theorem gt_inf : gtF 9218868437227405312 0 = true := by decide +kernel
theorem eq_inf : eqF 9218868437227405312 9218868437227405312 = true := by decide +kernel
theorem half_inf (t : TypeId) (P : Program) (w : World) : (binOp .quo t (.float .f64 9218868437227405312) (.float .f64 4611686018427387904)).run P w = .ok (.float .f64 9218868437227405312) w :=
  run_float_arith w .quo t .f64 _ _ _ (by decide +kernel)
theorem V_succ (m : Nat) (e : Int) (he : -1074 ≤ e) : V m (e + 1) = 2 * V m e := by
  unfold V
  rw [show (e + 1 + 1074).toNat = (e + 1074).toNat + 1 from by omega, Nat.pow_succ]
  rw [← Nat.mul_assoc, Nat.mul_comm]
theorem half_ne {r : Nat} (h0 : 0 < r) (h : r < 9218868437227405312) : ∃ b, Ieee.double.div r 4611686018427387904 = some b ∧ eqF b r = false := by
  by_cases hs : r < 9007199254740992
  · obtain ⟨b, h1, h2, h3⟩ := half_small r h0 hs
    refine ⟨b, h1, ?_⟩
    rw [eq_rung (by omega) h]
    exact decide_eq_false h3
  · have hp : -1073 ≤ plR r := by unfold plR; rw [if_neg (by omega)]; omega
    have hm : 0 < magR r := by unfold magR; rw [if_neg (by omega)]; omega
    have hd := div_two (magR r) (plR r) (magR_lt r) hp (plR_le h)
    rw [W_rung r h] at hd
    refine ⟨_, hd, ?_⟩
    have hl := plR_le h
    have ho := order_W (magR r) (magR r) (plR r - 1) (plR r) (magR_lt r) (magR_lt r) (by omega) (by omega) (by omega) hl
    rw [W_rung r h] at ho
    show (Ieee.double.order _ r == some .eq) = false
    rw [ho, cmp_eq]
    have hv := V_succ (magR r) (plR r - 1) (by omega)
    rw [show plR r - 1 + 1 = plR r from by omega] at hv
    have : 0 < V (magR r) (plR r - 1) := Nat.mul_pos hm (Nat.two_pow_pos _)
    exact decide_eq_false (by omega)
theorem big_of (r : Nat) (h : 0 ≤ plR r) : 4503599627370496 ≤ magR r := by
  unfold magR
  split
  · rename_i h1
    have : plR r = -1074 := if_pos h1
    omega
  · omega
theorem c52 : W 4503599627370496 0 = 4841369599423283200 := by decide +kernel
theorem c53 : W 4503599627370496 1 = 4845873199050653696 := by decide +kernel
theorem V_le {m n : Nat} {e f : Int} (he : -1074 ≤ e) (hf : e ≤ f) (h : m ≤ n * 2 ^ (f - e).toNat) : V m e ≤ V n f := by
  unfold V
  rw [show (f + 1074).toNat = (f - e).toNat + (e + 1074).toNat from by omega, Nat.pow_add, ← Nat.mul_assoc]
  exact Nat.mul_le_mul_right _ h
theorem V_lt {m n : Nat} {e f : Int} (he : -1074 ≤ e) (hf : e ≤ f) (h : m < n * 2 ^ (f - e).toNat) : V m e < V n f := by
  unfold V
  rw [show (f + 1074).toNat = (f - e).toNat + (e + 1074).toNat from by omega, Nat.pow_add, ← Nat.mul_assoc]
  exact (Nat.mul_lt_mul_right (Nat.two_pow_pos _)).2 h
theorem eq0_W {m : Nat} {e : Int} (h0 : 0 < m) (h : m < 9007199254740992) (he : -1074 ≤ e) (he2 : e ≤ 971) : eqF (W m e) 0 = false := by
  have ho := order_W m 0 e 0 h (by omega) he he2 (by omega) (by omega)
  rw [W_zero] at ho
  show (Ieee.double.order (W m e) 0 == some .eq) = false
  rw [ho, cmp_eq]
  have : 0 < V m e := Nat.mul_pos h0 (Nat.two_pow_pos _)
  have h2 : V 0 0 = 0 := Nat.zero_mul _
  exact decide_eq_false (by omega)
theorem lt52 {m : Nat} {e : Int} (h : m < 9007199254740992) (he : -1074 ≤ e) (he2 : e ≤ 971) : ltF (W m e) 4841369599423283200 = decide (V m e < V 4503599627370496 0) := by
  have ho := order_W m 4503599627370496 e 0 h (by omega) he he2 (by omega) (by omega)
  rw [c52] at ho
  show (Ieee.double.order (W m e) _ == some .lt) = _
  rw [ho, cmp_lt]
theorem lt52_yes {m : Nat} {e : Int} (h : m < 9007199254740992) (he : -1074 ≤ e) (he2 : e < 0) : ltF (W m e) 4841369599423283200 = true := by
  rw [lt52 h he (by omega)]
  refine decide_eq_true (V_lt he (by omega) ?_)
  have h1 : 2 ^ 1 ≤ 2 ^ (0 - e).toNat := Nat.pow_le_pow_right (by decide) (by omega)
  omega
theorem lt52_zero {m : Nat} (h : m < 9007199254740992) : ltF (W m 0) 4841369599423283200 = decide (m < 4503599627370496) := by
  rw [lt52 h (by omega) (by omega)]
  congr 1
  apply propext
  unfold V
  exact Nat.mul_lt_mul_right (Nat.two_pow_pos _)
theorem lt52_no {m : Nat} {e : Int} (h1 : 4503599627370496 ≤ m) (h : m < 9007199254740992) (he : 0 ≤ e) (he2 : e ≤ 971) : ltF (W m e) 4841369599423283200 = false := by
  rw [lt52 h (by omega) he2]
  refine decide_eq_false (Nat.not_lt.2 (V_le (by omega) he ?_))
  exact Nat.le_trans h1 (Nat.le_mul_of_pos_right _ (Nat.two_pow_pos _))
theorem ge_cmp (a b : Nat) : (some (compare a b) == some Ordering.gt || some (compare a b) == some Ordering.eq) = decide (b ≤ a) := by
  rw [cmp_gt, cmp_eq]
  by_cases h : b < a
  · simp [h]; omega
  · by_cases h2 : a = b
    · subst h2; simp
    · simp [h, h2]; omega
theorem ge53 {m : Nat} {e : Int} (h : m < 9007199254740992) (he : -1074 ≤ e) (he2 : e ≤ 971) : geF (W m e) 4845873199050653696 = decide (V 4503599627370496 1 ≤ V m e) := by
  have ho := order_W m 4503599627370496 e 1 h (by omega) he he2 (by omega) (by omega)
  rw [c53] at ho
  show (Ieee.double.order (W m e) _ == some .gt || Ieee.double.order (W m e) _ == some .eq) = _
  rw [ho, ge_cmp]
theorem ge53_yes {m : Nat} {e : Int} (h1 : 4503599627370496 ≤ m) (h : m < 9007199254740992) (he : 1 ≤ e) (he2 : e ≤ 971) : geF (W m e) 4845873199050653696 = true := by
  rw [ge53 h (by omega) he2]
  exact decide_eq_true (V_le (by omega) he (Nat.le_trans h1 (Nat.le_mul_of_pos_right _ (Nat.two_pow_pos _))))
theorem ge53_no {m : Nat} {e : Int} (h : m < 9007199254740992) (he : -1074 ≤ e) (he2 : e ≤ 0) : geF (W m e) 4845873199050653696 = false := by
  rw [ge53 h he (by omega)]
  refine decide_eq_false (Nat.not_le.2 (V_lt he (by omega) ?_))
  have h1 : 2 ^ 1 ≤ 2 ^ (1 - e).toNat := Nat.pow_le_pow_right (by decide) (by omega)
  omega
theorem int_W {m : Nat} (h : m < 9007199254740992) : floatToIntVal .f64 (W m 0) .i64 = some (m : Int) := by
  have hd : (Ieee.double.read (W m 0)).toInt .zero = some (m : Int) := by
    by_cases h0 : m = 0
    · subst h0; rw [W_zero]; decide +kernel
    rw [read_W m 0 (by omega) h (by omega) (by omega)]
    unfold Ieee.Datum.toInt Ieee.Datum.integral
    simp only
    have e1 : ((0 : Int) - (gapN m 0 : Int)).toNat = 0 := by omega
    have e2 : (-((0 : Int) - (gapN m 0 : Int))).toNat = gapN m 0 := by omega
    rw [e1, e2, Nat.shiftLeft_zero, cut_exact m _ _ _ (by omega)]
    simp [Ieee.signed]
  unfold floatToIntVal
  show (match (Ieee.double.read (W m 0)).toInt .zero with | some n => if IntKind.i64.min ≤ n ∧ n ≤ IntKind.i64.max then some n else none | none => none) = some (m : Int)
  rw [hd]
  have h1 : IntKind.i64.min ≤ (m : Int) ∧ (m : Int) ≤ IntKind.i64.max := by
    constructor
    · show (-9223372036854775808 : Int) ≤ m; omega
    · show (m : Int) ≤ 9223372036854775807; omega
  exact if_pos h1
attribute [-go_sem] binOp_float_cmp_eql binOp_float_cmp_neq binOp_float_cmp_lss binOp_float_cmp_leq binOp_float_cmp_gtr binOp_float_cmp_geq
attribute [local go_sem] f_eql f_neq f_lss f_leq f_gtr f_geq bits_run frombits_run neg_run gt_none gt_inf eq_inf half_inf eq_zero lt_zero

/-- The parts of a number's word. -/
theorem parts_of {b E f s : Nat} (hb : b = s * 9223372036854775808 + E * 4503599627370496 + f) (hs : s ≤ 1) (hE : E ≤ 2047) (hf : f < 4503599627370496) :
    (s : Int) * 32768 + 16 * (E : Int) + (f : Int) / 281474976710656 = part b 0 ∧ Int.tmod ((f : Int) / 4294967296) 65536 = part b 1 ∧
    Int.tmod ((f : Int) / 65536) 65536 = part b 2 ∧ Int.tmod (f : Int) 65536 = part b 3 := by
  have p0 : part b 0 = ((b / 281474976710656 % 65536 : Nat) : Int) := rfl
  have p1 : part b 1 = ((b / 4294967296 % 65536 : Nat) : Int) := rfl
  have p2 : part b 2 = ((b / 65536 % 65536 : Nat) : Int) := rfl
  have p3 : part b 3 = ((b / 1 % 65536 : Nat) : Int) := rfl
  rw [p0, p1, p2, p3]
  refine ⟨?_, ?_, ?_, ?_⟩
  · omega
  · rw [Int.tmod_eq_emod_of_nonneg (by omega)]; omega
  · rw [Int.tmod_eq_emod_of_nonneg (by omega)]; omega
  · rw [Int.tmod_eq_emod_of_nonneg (by omega)]; omega
end Go.Proofs.YtjllahglfpbemaaDoor.Fl
