/- Plain laws of whole floats: what is cut off, which numbers have texts. -/
import Derived.Test.YtjllahglfpbemaaDoorFloatLaws
import Derived.Test.YtjllahglfpbemaaDoorOfPure
import Derived.Test.YtjllahglfpbemaaDoorRefOf4
import Derived.Test.YtjllahglfpbemaaDoorRefRegs4
import Derived.Test.YtjllahglfpbemaaDoorGuardLaws
import Derived.Laws.BitsAllLaws
import Derived.Test.YtjllahglfpbemaaDoorLib2
import Derived.Shelf.Small.Wraps
import Derived.Test.YtjllahglfpbemaaDoorRealInts
namespace Go.Proofs.YtjllahglfpbemaaDoor.Fl
open Go Go.Proofs.YtjllahglfpbemaaDoor.Dbl Ieee
set_option linter.unusedVariables false
set_option linter.unusedSimpArgs false
/-- A number's whole part, without its sign. -/
def whole (r : Nat) : Nat := match double.read r with
  | .number s m p => Toward.zero.cut s (m <<< p.toNat) (-p).toNat
  | _ => 0
theorem cut_floor (s : Bool) (n k : Nat) : Toward.zero.cut s n k = n / 2 ^ k := by
  unfold Toward.cut
  simp only [Bool.toNat_false, Nat.add_zero]
  rw [Nat.one_shiftLeft]
  by_cases h : k ≤ n.log2 + 2
  · rw [Nat.min_eq_left h]
  · rw [Nat.min_eq_right (by omega)]
    have h0 : n < 2 ^ (n.log2 + 1) := Nat.lt_log2_self
    have h1 : n < 2 ^ (n.log2 + 2) := Nat.lt_of_lt_of_le h0 (Nat.pow_le_pow_right (by decide) (by omega))
    have h2 : n < 2 ^ k := Nat.lt_of_lt_of_le h1 (Nat.pow_le_pow_right (by decide) (by omega))
    rw [Nat.div_eq_of_lt h1, Nat.div_eq_of_lt h2]
theorem read_rung {r : Nat} (hr : r < 9218868437227405312) : ∃ m p, double.read r = .number false m p ∧ -1074 ≤ p ∧ m * 2 ^ (p + 1074).toNat = val r := by
  have h := read_V (magR r) (plR r) (magR_lt r) (plR_ge r) (plR_le hr)
  rw [W_rung r hr] at h
  exact h
theorem whole_le {r : Nat} (hr : r < 9218868437227405312) : whole r * 2 ^ 1074 ≤ val r := by
  obtain ⟨m, p, h, hp, hv⟩ := read_rung hr
  unfold whole
  rw [h]
  dsimp only
  rw [cut_floor, ← hv, Nat.shiftLeft_eq]
  by_cases h0 : 0 ≤ p
  · obtain ⟨q, rfl⟩ := Int.eq_ofNat_of_zero_le h0
    rw [show ((q : Int) + 1074).toNat = q + 1074 by omega, show (-(q : Int)).toNat = 0 by omega, Int.toNat_natCast, Nat.pow_zero, Nat.div_one, Nat.pow_add, Nat.mul_assoc]
    exact Nat.le_refl _
  · obtain ⟨q, rfl⟩ : ∃ q : Nat, p = -(q : Int) := ⟨(-p).toNat, by omega⟩
    rw [show (-(q : Int)).toNat = 0 by omega, show (-(-(q : Int))).toNat = q by omega, Nat.pow_zero, Nat.mul_one, show (-(q : Int) + 1074).toNat = 1074 - q by omega]
    have h1 : (2 : Nat) ^ 1074 = 2 ^ q * 2 ^ (1074 - q) := by rw [← Nat.pow_add]; congr 1; omega
    rw [h1, ← Nat.mul_assoc]
    exact Nat.mul_le_mul_right _ (Nat.div_mul_le_self _ _)
theorem val_53 : val 4845873199050653696 = 9007199254740992 * 2 ^ 1074 := by decide +kernel
theorem val_le {r s : Nat} (h : r ≤ s) : val r ≤ val s := by
  rcases Nat.lt_or_eq_of_le h with h | rfl
  · exact Nat.le_of_lt (val_lt h)
  · exact Nat.le_refl _
theorem whole_53 {r : Nat} (h : r ≤ 4845873199050653696) : whole r ≤ 9007199254740992 := by
  have h1 := whole_le (r := r) (by omega)
  have h2 := val_le h
  rw [val_53] at h2
  exact Nat.le_of_mul_le_mul_right (Nat.le_trans h1 h2) (Nat.two_pow_pos 1074)
/-- A whole number's word. -/
def wordN (n : Nat) : Nat := double.nearest false n 0
theorem wordN_W (n : Nat) : wordN n = W n 0 := rfl
theorem whole_W {n : Nat} (h : n ≤ 9007199254740992) : whole (wordN n) = n := by
  rcases Nat.lt_or_eq_of_le h with h | rfl
  · by_cases h0 : n = 0
    · subst h0; decide +kernel
    · unfold whole
      rw [wordN_W, read_W n 0 (by omega) h (by omega) (by omega)]
      dsimp only
      have e1 : ((0 : Int) - (gapN n 0 : Int)).toNat = 0 := by omega
      have e2 : (-((0 : Int) - (gapN n 0 : Int))).toNat = gapN n 0 := by omega
      rw [e1, e2, Nat.shiftLeft_zero, cut_exact n _ _ _ (by omega)]
  · decide +kernel
theorem wordN_lt {n : Nat} (h : n ≤ 9007199254740992) : wordN n ≤ 4845873199050653696 := by
  rcases Nat.lt_or_eq_of_le h with h | rfl
  · by_cases h0 : n = 0
    · subst h0; decide +kernel
    · have hl := log_le h
      have h1 : 2 ^ n.log2 ≤ n := Nat.log2_self_le h0
      have h2 : n < 2 ^ (n.log2 + 1) := Nat.lt_log2_self
      have hs := W_shift n (52 - n.log2) 0 h (by omega)
      have e1 : (2 : Nat) ^ 52 = 2 ^ n.log2 * 2 ^ (52 - n.log2) := by rw [← Nat.pow_add]; congr 1; omega
      have e2 : (2 : Nat) ^ 53 = 2 ^ (n.log2 + 1) * 2 ^ (52 - n.log2) := by rw [← Nat.pow_add]; congr 1; omega
      have g1 : 4503599627370496 ≤ n <<< (52 - n.log2) := by
        rw [Nat.shiftLeft_eq]
        exact Nat.le_trans (Nat.le_of_eq e1) (Nat.mul_le_mul_right _ h1)
      have g2 : n <<< (52 - n.log2) < 9007199254740992 := by
        rw [Nat.shiftLeft_eq]
        exact Nat.lt_of_lt_of_le (Nat.mul_lt_mul_of_pos_right h2 (Nat.two_pow_pos _)) (Nat.le_of_eq e2.symm)
      have hn := W_normal (f := n <<< (52 - n.log2) - 4503599627370496) (x := 1075 - ((52 - n.log2 : Nat) : Int)) (by omega) (by omega) (by omega)
      rw [show n <<< (52 - n.log2) - 4503599627370496 + 4503599627370496 = n <<< (52 - n.log2) by omega, show (1075 : Int) - ((52 - n.log2 : Nat) : Int) - 1075 = 0 - ((52 - n.log2 : Nat) : Int) by omega] at hn
      have hw : wordN n = double.nearest false (n <<< (52 - n.log2)) (0 - ((52 - n.log2 : Nat) : Int)) := hs.symm
      rw [hw]
      have hn' : double.nearest false (n <<< (52 - n.log2)) (0 - ((52 - n.log2 : Nat) : Int)) = (1075 - ((52 - n.log2 : Nat) : Int)).toNat * 4503599627370496 + (n <<< (52 - n.log2) - 4503599627370496) := hn
      rw [hn']
      omega
  · decide +kernel
theorem toInt_whole {r : Nat} (hr : r < 9218868437227405312) : (double.read r).toInt .zero = some (whole r : Int) := by
  obtain ⟨m, p, h, hp, hv⟩ := read_rung hr
  unfold whole
  rw [h]
  unfold Datum.toInt Datum.integral
  simp [signed]
theorem int_whole {r : Nat} (hr : r ≤ 4845873199050653696) : floatToIntVal .f64 r .i64 = some (whole r : Int) := by
  have h := whole_53 hr
  unfold floatToIntVal
  show (match (double.read r).toInt .zero with | some n => if IntKind.i64.min ≤ n ∧ n ≤ IntKind.i64.max then some n else none | none => none) = some (whole r : Int)
  rw [toInt_whole (by omega)]
  have h1 : IntKind.i64.min ≤ (whole r : Int) ∧ (whole r : Int) ≤ IntKind.i64.max := by
    constructor
    · show (-9223372036854775808 : Int) ≤ (whole r : Int); omega
    · show (whole r : Int) ≤ 9223372036854775807; omega
  exact if_pos h1
theorem write_whole {r : Nat} (hr : r < 9218868437227405312) : double.write ((double.read r).integral .zero) = wordN (whole r) := by
  obtain ⟨m, p, h, hp, hv⟩ := read_rung hr
  unfold whole
  rw [h]
  rfl
open Go Go.RowKit Go.Proofs.YtjllahglfpbemaaDoorW.PrintWords Go.Proofs.YtjllahglfpbemaaDoorW.PrintLast Go.Proofs.YtjllahglfpbemaaDoorW.PrintMore Go.Proofs.YtjllahglfpbemaaDoor.Dbl Go.Proofs.YtjllahglfpbemaaDoor.PGuardTells
set_option maxHeartbeats 2000000
set_option maxRecDepth 100000
attribute [-go_sem] binOp_float_cmp_eql binOp_float_cmp_neq binOp_float_cmp_lss binOp_float_cmp_leq binOp_float_cmp_gtr binOp_float_cmp_geq
attribute [local go_sem] f_eql f_neq f_lss f_leq f_gtr bits_run frombits_run neg_run
theorem gt_rung {r s : Nat} (hr : r < 9218868437227405312) (hs : s < 9218868437227405312) : gtF r s = decide (s < r) := by
  unfold gtF
  rw [ord_rung hr hs, cmp_gt]
  congr 1
  apply propext
  constructor
  · intro h
    rcases Nat.lt_trichotomy r s with c | c | c
    · have := val_lt c; omega
    · rw [c] at h; omega
    · exact c
  · intro h; exact val_lt h
/-- A float without its sign. -/
def absF (b : Nat) : Nat := b % 9223372036854775808
theorem absF_lt (b : Nat) : absF b < 9223372036854775808 := Nat.mod_lt _ (by decide)
theorem and_sign (b : Nat) (hb : b < 18446744073709551616) : bits .andNot .u64 (b : Int) 9223372036854775808 = ((absF b : Nat) : Int) := by
  have h := u64_andNot_nat b 9223372036854775808 hb (by decide)
  rw [show ((9223372036854775808 : Nat) : Int) = 9223372036854775808 from rfl] at h
  rw [h]
  congr 1
  exact Nat.and_two_pow_sub_one_eq_mod b 63
theorem abs_calls (b : Nat) (hb : b < 18446744073709551616) (w : World) : Calls Tryd.prog 37 #[.float .f64 b] w fun e w' => e = .returned (.float .f64 (absF b)) ∧ Below w.heap.size w w' := by
  have h := and_sign b hb
  go_enter Tryd.func37, Tryd.ntmps37
  go_wp2
  go_ret
  exact ⟨rfl, Below.refl _ _⟩
theorem inf_in : gtF 9218868437227405312 9218868437227405311 = true := by decide +kernel
theorem isinf_calls (r : Nat) (hr : r < 9223372036854775808) (w : World) : Calls Tryd.prog 38 #[.float .f64 r, .int .i64 1] w fun e w' => e = .returned (.bool (decide (r = 9218868437227405312))) ∧ Below w.heap.size w w' := by
  have h : gtF r 9218868437227405311 = decide (r = 9218868437227405312) := by
    rcases Nat.lt_trichotomy r 9218868437227405312 with c | c | c
    · rw [gt_rung c (by decide), decide_eq_false (by omega), decide_eq_false (by omega)]
    · subst c; exact inf_in
    · have hn : eqF r r = false := by rw [nan_iff (by omega)]; exact decide_eq_false (by rw [Nat.mod_eq_of_lt hr]; omega)
      unfold gtF
      rw [(ord_nan hn _).1, decide_eq_false (by omega)]
      rfl
  obtain ⟨q, hq⟩ : ∃ q, q = decide (r = 9218868437227405312) := ⟨_, rfl⟩
  rw [← hq] at h ⊢
  clear hq
  go_enter Tryd.func38, Tryd.ntmps38
  go_wp2
  go_ret
  exact ⟨rfl, Below.refl _ _⟩
theorem arch_run (r : Nat) (hr : r < 9218868437227405312) (w : World) : (callFunc 58 #[.float .f64 r]).run Tryd.prog w = .ok (.value (.float .f64 (wordN (whole r)))) w := by
  rw [run_callFunc_extern Tryd.func58 (by kernel_rfl) (by kernel_rfl) (by kernel_rfl) (e := Extern.MathFloor.toIntegral "math.archTrunc" .zero) (by rfl)]
  obtain ⟨m, p, h, hp, hv⟩ := read_rung hr
  have hw := write_whole hr
  have hd : FloatKind.f64.decode r = .number false m p := h
  rw [h] at hw
  have he : FloatKind.f64.encode (Ieee.Datum.integral .zero (.number false m p)) = wordN (whole r) := hw
  have hx : Extern.MathFloor.toIntegral "math.archTrunc" .zero #[.float .f64 r] = (fun d : Ieee.Datum => match d with
      | .nan s t => (if FloatKind.f64.format.quiet t = t then pure (.float .f64 r) else do
          let kept ← choose (.extern "math.Floor,Ceil,Trunc,RoundToEven.signallingNaN kept" 2)
          pure (.float .f64 (if kept == 1 then r else FloatKind.f64.encode (.nan s (FloatKind.f64.format.quiet t)))))
      | d => pure (.float .f64 (FloatKind.f64.encode (d.integral .zero))) : Ieee.Datum → Sem Value) (FloatKind.f64.decode r) := rfl
  rw [hx, hd]
  show ((pure (Value.float .f64 (FloatKind.f64.encode (Ieee.Datum.integral .zero (.number false m p)))) : Sem Value).run Tryd.prog w).andThen _ = _
  rw [he]
  rfl
theorem trunc_calls (r : Nat) (hr : r < 9218868437227405312) (w : World) : Calls Tryd.prog 40 #[.float .f64 r] w fun e w' => e = .returned (.float .f64 (wordN (whole r))) ∧ Below w.heap.size w w' := by
  have h := arch_run r hr
  go_enter Tryd.func40, Tryd.ntmps40
  go_wp2
  go_ret
  exact ⟨rfl, Below.refl _ _⟩
theorem signbit_calls (b : Nat) (hb : b < 18446744073709551616) (w : World) : Calls Tryd.prog 41 #[.float .f64 b] w fun e w' => e = .returned (.bool (sgn b)) ∧ Below w.heap.size w w' := by
  have h : decide (IntKind.i64.wrap (b : Int) < 0) = sgn b := by
    unfold sgn
    rw [IntKind.wrap_i64]
    apply decide_eq_decide.2
    omega
  have h2 : decide (wrap64 (b : Int) < 0) = sgn b := by
    unfold sgn wrap64
    apply decide_eq_decide.2
    omega
  cases hs : sgn b
  · rw [hs] at h h2
    go_enter Tryd.func41, Tryd.ntmps41
    go_wp2
    go_ret
    exact ⟨by first | rfl | (rw [h2]) | (simp [h2]) | (simp [h]), Below.refl _ _⟩
  · rw [hs] at h h2
    go_enter Tryd.func41, Tryd.ntmps41
    go_wp2
    go_ret
    exact ⟨by first | rfl | (rw [h2]) | (simp [h2]) | (simp [h]), Below.refl _ _⟩
set_option maxHeartbeats 4000000
def signed (b : Nat) (l : List UInt8) : List UInt8 := if sgn b then 45 :: l else l
/-- The text of a float, if it has one. -/
def textB (b : Nat) : List UInt8 × Bool :=
  if absF b = 9218868437227405312 then (signed b [105, 110, 102], true)
  else if absF b ≤ 4845873199050653696 ∧ wordN (whole (absF b)) = absF b then (signed b (Lib.decDigits (whole (absF b))), true)
  else ([], false)
def TextTold (b : Nat) (w : World) (e : Ending) (w' : World) : Prop := e = .returned (.tuple #[.string (strOf (textB b).1), .bool (textB b).2]) ∧ Below w.heap.size w w'
theorem abs_nan {b : Nat} (hb : b < 18446744073709551616) : eqF b b = decide (absF b ≤ 9218868437227405312) := nan_iff hb
theorem cat_sign (l : List UInt8) : (⟨#[45]⟩ : ByteArray) ++ strOf l = strOf (45 :: l) := ext_list (by rw [app_list, strOf_list, strOf_list]; rfl)
theorem text_calls (b : Nat) (hb : b < 18446744073709551616) (w : World) (ht : Tab w) : Calls Tryd.prog 17 #[.float .f64 b] w (TextTold b w) := by
  obtain ⟨T, hT⟩ : ∃ T : Ending → World → Prop, T = TextTold b w := ⟨_, rfl⟩
  have HT := Aside0.mk hT
  rw [← hT]
  clear hT
  have hnan := abs_nan hb
  have CA := Aside0.mk (fun W => abs_calls b hb W)
  have CI := Aside0.mk (fun W => isinf_calls (absF b) (absF_lt b) W)
  have CN := Aside0.mk (fun W => isnan_calls b W)
  have CS := Aside0.mk (fun W => signbit_calls b hb W)
  have HTB := Aside0.mk (show textB b = _ from rfl)
  obtain ⟨r, hr⟩ : ∃ r, r = absF b := ⟨_, rfl⟩
  have HR := Aside0.mk hr
  rw [← hr] at hnan CA CI
  clear hr
  by_cases h1 : r = 9218868437227405312
  · subst h1
    rw [decide_eq_true rfl] at CI
    have HO := Aside0.mk (show textB b = (signed b [105, 110, 102], true) from by unfold textB; rw [if_pos HR.out.symm])
    have HSG := Aside0.mk (show signed b [105, 110, 102] = if sgn b then 45 :: [105, 110, 102] else [105, 110, 102] from rfl)
    cases hs : sgn b with
    | false =>
      rw [hs] at CS HSG
      clear hs hnan
      go_enter Tryd.func17, Tryd.ntmps17
      go_wp2_with fail
      refine (CA.out _).mono ?_
      rintro e w1 ⟨rfl, b1⟩
      have B1 := Aside0.mk b1
      clear b1
      go_wp2_with fail
      refine (CI.out _).mono ?_
      rintro e w2 ⟨rfl, b2⟩
      have B2 := Aside0.mk (below_step B1.out b2)
      clear b2
      go_wp2_with fail
      refine (CS.out _).mono ?_
      rintro e w3 ⟨rfl, b3⟩
      have B3 := Aside0.mk (below_step B2.out b3)
      clear b3
      go_wp2_with fail
      rw [HT.out]
      exact ⟨by rw [HO.out, HSG.out]; rfl, B3.out⟩
    | true =>
      rw [hs] at CS HSG
      clear hs hnan
      go_enter Tryd.func17, Tryd.ntmps17
      go_wp2_with fail
      refine (CA.out _).mono ?_
      rintro e w1 ⟨rfl, b1⟩
      have B1 := Aside0.mk b1
      clear b1
      go_wp2_with fail
      refine (CI.out _).mono ?_
      rintro e w2 ⟨rfl, b2⟩
      have B2 := Aside0.mk (below_step B1.out b2)
      clear b2
      go_wp2_with fail
      refine (CS.out _).mono ?_
      rintro e w3 ⟨rfl, b3⟩
      have B3 := Aside0.mk (below_step B2.out b3)
      clear b3
      go_wp2_with fail
      rw [HT.out]
      exact ⟨by rw [HO.out, HSG.out]; rfl, B3.out⟩
  rw [decide_eq_false h1] at CI
  by_cases h2 : 9218868437227405312 < r
  · have HO := Aside0.mk (show textB b = ([], false) from by unfold textB; rw [← HR.out, if_neg h1, if_neg (by omega)])
    rw [decide_eq_false (by omega)] at hnan
    rw [hnan] at CN
    clear hnan
    go_enter Tryd.func17, Tryd.ntmps17
    go_wp2_with fail
    refine (CA.out _).mono ?_
    rintro e w1 ⟨rfl, b1⟩
    have B1 := Aside0.mk b1
    clear b1
    go_wp2_with fail
    refine (CI.out _).mono ?_
    rintro e w2 ⟨rfl, b2⟩
    have B2 := Aside0.mk (below_step B1.out b2)
    clear b2
    go_wp2_with fail
    refine (CN.out _).mono ?_
    rintro e w3 ⟨rfl, b3⟩
    have B3 := Aside0.mk (below_step B2.out b3)
    clear b3
    go_wp2_with fail
    rw [HT.out]
    exact ⟨by rw [HO.out]; rfl, B3.out⟩
  have hlt : r < 9218868437227405312 := by omega
  rw [decide_eq_true (by omega)] at hnan
  rw [hnan] at CN
  have hg := gt_rung hlt (show 4845873199050653696 < 9218868437227405312 by decide)
  by_cases h3 : 4845873199050653696 < r
  · have HO := Aside0.mk (show textB b = ([], false) from by unfold textB; rw [← HR.out, if_neg h1, if_neg (by omega)])
    rw [decide_eq_true h3] at hg
    clear hnan
    go_enter Tryd.func17, Tryd.ntmps17
    go_wp2_with fail
    refine (CA.out _).mono ?_
    rintro e w1 ⟨rfl, b1⟩
    have B1 := Aside0.mk b1
    clear b1
    go_wp2_with fail
    refine (CI.out _).mono ?_
    rintro e w2 ⟨rfl, b2⟩
    have B2 := Aside0.mk (below_step B1.out b2)
    clear b2
    go_wp2_with fail
    refine (CN.out _).mono ?_
    rintro e w3 ⟨rfl, b3⟩
    have B3 := Aside0.mk (below_step B2.out b3)
    clear b3
    go_wp2_with fail
    rw [HT.out]
    exact ⟨by rw [HO.out]; rfl, B3.out⟩
  rw [decide_eq_false h3] at hg
  have CT := Aside0.mk (fun W => trunc_calls r hlt W)
  have hw53 := whole_53 (r := r) (by omega)
  have hwl := wordN_lt hw53
  have heq := eq_rung hlt (show wordN (whole r) < 9218868437227405312 by omega)
  have hcv : ∀ wx, (convert 32 3 (.float .f64 r)).run Tryd.prog wx = .ok (.int .i64 (whole r : Int)) wx := fun wx => run_convert_float_int wx 32 3 .f64 .i64 _ _ (by kernel_rfl) Tryd.underlying3 (int_whole (by omega))
  have HO := Aside0.mk (show textB b = if wordN (whole r) = r then (signed b (Lib.decDigits (whole r)), true) else ([], false) from by
    unfold textB
    rw [← HR.out, if_neg h1]
    by_cases hq : wordN (whole r) = r
    · rw [if_pos ⟨by omega, hq⟩, if_pos hq]
    · rw [if_neg (fun h => hq h.2), if_neg hq])
  have CP := Aside0.mk (fun W hW => put_in (n := (whole r : Int)) ⟨by omega, by omega⟩ W hW)
  rw [Int.toNat_natCast] at CP
  have hdl : (strOf (Lib.decDigits (whole r))).size ≤ 20 := by
    have := nDigits_M (n := whole r) (by omega)
    rw [size_list, strOf_list, Go.Lib.decDigits_length]
    omega
  generalize whole r = n at CT heq hcv HO CP hdl hw53 hwl
  generalize hwn : wordN n = wn at CT heq HO hwl
  clear hwn hnan hwl hw53 h1 h2 HTB
  by_cases h4 : wn = r
  · rw [decide_eq_true h4.symm] at heq
    rw [if_pos h4] at HO
    have hcat := cat_sign (Lib.decDigits n)
    clear h4 h3 hlt
    generalize Lib.decDigits n = dd at CP HO hdl hcat
    cases hs : sgn b with
    | false =>
      have HSG := Aside0.mk (show signed b dd = dd from by unfold signed; rw [hs]; rfl)
      rw [hs] at CS
      clear hs hcat
      go_enter Tryd.func17, Tryd.ntmps17
      go_wp2_with fail
      refine (CA.out _).mono ?_
      rintro e w1 ⟨rfl, b1⟩
      have B1 := Aside0.mk b1
      clear b1
      go_wp2_with fail
      refine (CI.out _).mono ?_
      rintro e w2 ⟨rfl, b2⟩
      have B2 := Aside0.mk (below_step B1.out b2)
      clear b2
      go_wp2_with fail
      refine (CN.out _).mono ?_
      rintro e w3 ⟨rfl, b3⟩
      have B3 := Aside0.mk (below_step B2.out b3)
      clear b3
      go_wp2_with fail
      refine (CT.out _).mono ?_
      rintro e w4 ⟨rfl, b4⟩
      have B4 := Aside0.mk (below_step B3.out b4)
      clear b4
      go_wp2_with fail
      refine (CP.out _ (ht.on B4.out)).mono ?_
      rintro e w5 ⟨rfl, b5⟩
      have B5 := Aside0.mk (below_step B4.out b5)
      clear b5
      go_wp2_with fail
      refine (CS.out _).mono ?_
      rintro e w6 ⟨rfl, b6⟩
      have B6 := Aside0.mk (below_step B5.out b6)
      clear b6
      go_wp2_with fail
      rw [HT.out]
      exact ⟨by rw [HO.out, HSG.out]; rfl, B6.out⟩
    | true =>
      have HSG := Aside0.mk (show signed b dd = 45 :: dd from by unfold signed; rw [hs]; rfl)
      rw [hs] at CS
      clear hs
      have HCAT := Aside0.mk hcat
      clear hcat
      go_enter Tryd.func17, Tryd.ntmps17
      go_wp2_with fail
      refine (CA.out _).mono ?_
      rintro e w1 ⟨rfl, b1⟩
      have B1 := Aside0.mk b1
      clear b1
      go_wp2_with fail
      refine (CI.out _).mono ?_
      rintro e w2 ⟨rfl, b2⟩
      have B2 := Aside0.mk (below_step B1.out b2)
      clear b2
      go_wp2_with fail
      refine (CN.out _).mono ?_
      rintro e w3 ⟨rfl, b3⟩
      have B3 := Aside0.mk (below_step B2.out b3)
      clear b3
      go_wp2_with fail
      refine (CT.out _).mono ?_
      rintro e w4 ⟨rfl, b4⟩
      have B4 := Aside0.mk (below_step B3.out b4)
      clear b4
      go_wp2_with fail
      refine (CP.out _ (ht.on B4.out)).mono ?_
      rintro e w5 ⟨rfl, b5⟩
      have B5 := Aside0.mk (below_step B4.out b5)
      clear b5
      go_wp2_with fail
      refine (CS.out _).mono ?_
      rintro e w6 ⟨rfl, b6⟩
      have B6 := Aside0.mk (below_step B5.out b6)
      clear b6
      go_wp2_with fail
      rw [HT.out]
      exact ⟨by rw [HO.out, HSG.out, ← HCAT.out]; rfl, B6.out⟩
  · rw [decide_eq_false (fun h => h4 h.symm)] at heq
    rw [if_neg h4] at HO
    clear h4 h3 hlt
    go_enter Tryd.func17, Tryd.ntmps17
    go_wp2_with fail
    refine (CA.out _).mono ?_
    rintro e w1 ⟨rfl, b1⟩
    have B1 := Aside0.mk b1
    clear b1
    go_wp2_with fail
    refine (CI.out _).mono ?_
    rintro e w2 ⟨rfl, b2⟩
    have B2 := Aside0.mk (below_step B1.out b2)
    clear b2
    go_wp2_with fail
    refine (CN.out _).mono ?_
    rintro e w3 ⟨rfl, b3⟩
    have B3 := Aside0.mk (below_step B2.out b3)
    clear b3
    go_wp2_with fail
    refine (CT.out _).mono ?_
    rintro e w4 ⟨rfl, b4⟩
    have B4 := Aside0.mk (below_step B3.out b4)
    clear b4
    go_wp2_with fail
    rw [HT.out]
    exact ⟨by rw [HO.out]; rfl, B4.out⟩
def bareR (l : List UInt8) : Option Nat := if l = [105, 110, 102] then some 9218868437227405312 else (readF l).map fun n => wordN n.toNat
/-- A float with the sign -. -/
def top (x : Nat) : Nat := x + 9223372036854775808
/-- The float of a text, if it is one's. -/
def readB (l : List UInt8) : Nat × Bool := match l with
  | [] => (0, false)
  | c :: t => if c = 45 then (match bareR t with | some x => (top x, true) | none => (0, false)) else (match bareR (c :: t) with | some x => (x, true) | none => (0, false))
def ReadTold (l : List UInt8) (w : World) (e : Ending) (w' : World) : Prop := e = .returned (.tuple #[.float .f64 (readB l).1, .bool (readB l).2]) ∧ Below w.heap.size w w'
theorem readF_bound {l : List UInt8} {n : Int} (h : readF l = some n) : 0 ≤ n ∧ n ≤ 9007199254740992 := by
  obtain ⟨h0, h1, _⟩ := (readF_iff l n).1 h
  exact ⟨h0, h1⟩
theorem bareR_lt {l : List UInt8} {x : Nat} (h : bareR l = some x) : x < 9223372036854775808 := by
  unfold bareR at h
  split at h
  · cases h; decide
  · obtain ⟨n, hn, rfl⟩ := Option.map_eq_some_iff.1 h
    have hb := readF_bound hn
    have := wordN_lt (n := n.toNat) (by omega)
    omega
theorem bareR_nil : bareR [] = none := rfl
theorem bareR_dash (t : List UInt8) : bareR (45 :: t) = none := by
  unfold bareR
  rw [if_neg (by simp)]
  have : readF (45 :: t) = none := by
    unfold readF
    split
    · rfl
    · rw [Go.Proofs.YtjllahglfpbemaaDoor.PGuardTells.rd, if_neg (by rintro ⟨h, _⟩; exact absurd h (by decide))]
  rw [this]
  rfl
theorem or_sign (x : Nat) (h : x < 9223372036854775808) : bits .or .u64 (x : Int) 9223372036854775808 = ((x + 9223372036854775808 : Nat) : Int) := by
  have h1 := u64_or_nat x 9223372036854775808 (by omega) (by decide)
  rw [show ((9223372036854775808 : Nat) : Int) = 9223372036854775808 from rfl] at h1
  rw [h1]
  congr 1
  have h2 := Nat.two_pow_add_eq_or_of_lt (i := 63) (b := x) h 1
  rw [Nat.or_comm]
  have h3 : (2 : Nat) ^ 63 * 1 = 9223372036854775808 := by decide
  rw [h3] at h2
  omega
theorem copysign_calls (x : Nat) (h : x < 9223372036854775808) (w : World) : Calls Tryd.prog 45 #[.float .f64 x, .float .f64 13830554455654793216] w fun e w' => e = .returned (.float .f64 (top x)) ∧ Below w.heap.size w w' := by
  have h1 := and_sign x (by omega)
  rw [show absF x = x from Nat.mod_eq_of_lt h] at h1
  have h2 := or_sign x h
  have h3 : bits .and .u64 13830554455654793216 9223372036854775808 = 9223372036854775808 := by decide +kernel
  have h4 : (((top x : Nat) : Int)).toNat = top x := Int.toNat_natCast _
  replace h2 : bits .or .u64 (x : Int) 9223372036854775808 = ((top x : Nat) : Int) := h2
  generalize hy : top x = y at h2 h4 ⊢
  clear h hy
  go_enter Tryd.func45, Tryd.ntmps45
  go_wp2
  go_ret
  exact ⟨rfl, Below.refl _ _⟩
theorem inf1_calls (w : World) : Calls Tryd.prog 44 #[.int .i64 1] w fun e w' => e = .returned (.float .f64 9218868437227405312) ∧ Below w.heap.size w w' := by
  go_enter Tryd.func44, Tryd.ntmps44
  go_wp2
  go_ret
  exact ⟨rfl, Below.refl _ _⟩
def plainR (o : Option Nat) (minus : Bool) : Nat × Bool := match o with
  | some x => (if minus then top x else x, true)
  | none => (0, false)
def PairTold (r : Nat × Bool) (w : World) (e : Ending) (w' : World) : Prop := e = .returned (.tuple #[.float .f64 r.1, .bool r.2]) ∧ Below w.heap.size w w'
theorem read_inf_walk (x : Nat) (hx : x < 9223372036854775808) (hi : ∀ W, Calls Tryd.prog 44 #[.int .i64 1] W fun e w' => e = .returned (.float .f64 x) ∧ Below W.heap.size W w') (s : ByteArray) (minus : Bool) (w : World) (hc : ∀ W, Calls Tryd.prog 43 #[.string s, .string ⟨#[45]⟩] W fun e w' => e = .returned (.tuple #[.string ⟨#[105, 110, 102]⟩, .bool minus]) ∧ w' = W) :
    Calls Tryd.prog 19 #[.string s] w (PairTold (plainR (some x) minus) w) := by
  obtain ⟨T, hT⟩ : ∃ T : Ending → World → Prop, T = PairTold (plainR (some x) minus) w := ⟨_, rfl⟩
  have HT := Aside0.mk hT
  rw [← hT]
  clear hT
  have CC := Aside0.mk hc
  have CX := Aside0.mk (fun W => copysign_calls x hx W)
  have CI := Aside0.mk hi
  clear hc hi hx
  cases minus with
  | false =>
    go_enter Tryd.func19, Tryd.ntmps19
    go_wp2_with fail
    refine (CC.out _).mono ?_
    rintro e w1 ⟨rfl, rfl⟩
    go_wp2_with fail
    refine (CI.out _).mono ?_
    rintro e w2 ⟨rfl, b2⟩
    have B2 := Aside0.mk b2
    clear b2
    go_wp2_with fail
    rw [HT.out]
    exact ⟨rfl, B2.out⟩
  | true =>
    go_enter Tryd.func19, Tryd.ntmps19
    go_wp2_with fail
    refine (CC.out _).mono ?_
    rintro e w1 ⟨rfl, rfl⟩
    go_wp2_with fail
    refine (CI.out _).mono ?_
    rintro e w2 ⟨rfl, b2⟩
    have B2 := Aside0.mk b2
    clear b2
    go_wp2_with fail
    refine (CX.out _).mono ?_
    rintro e w3 ⟨rfl, b3⟩
    have B3 := Aside0.mk (below_step B2.out b3)
    clear b3
    go_wp2_with fail
    rw [HT.out]
    exact ⟨rfl, B3.out⟩
theorem read_none (s bs : ByteArray) (w : World) (minus : Bool) (hE : (bs.toList == ([105, 110, 102] : List UInt8)) = false) (hc : ∀ W, Calls Tryd.prog 43 #[.string s, .string ⟨#[45]⟩] W fun e w' => e = .returned (.tuple #[.string bs, .bool minus]) ∧ w' = W) (hg : ∀ W, Calls Tryd.prog 29 #[.string bs] W fun e w' => e = .returned (.tuple #[.int .i64 0, .bool false]) ∧ Below W.heap.size W w') :
    Calls Tryd.prog 19 #[.string s] w (PairTold (0, false) w) := by
  obtain ⟨T, hT⟩ : ∃ T : Ending → World → Prop, T = PairTold (0, false) w := ⟨_, rfl⟩
  have HT := Aside0.mk hT
  rw [← hT]
  clear hT
  have CC := Aside0.mk hc
  have CG := Aside0.mk hg
  clear hc hg
  go_enter Tryd.func19, Tryd.ntmps19
  go_wp2_with fail
  refine (CC.out _).mono ?_
  rintro e w1 ⟨rfl, rfl⟩
  go_wp2_with fail
  refine (inf1_calls _).mono ?_
  rintro e w2 ⟨rfl, b2⟩
  have B2 := Aside0.mk b2
  clear b2
  go_wp2_with fail
  refine (CG.out _).mono ?_
  rintro e w3 ⟨rfl, b3⟩
  have B3 := Aside0.mk (below_step B2.out b3)
  clear b3
  go_wp2_with fail
  rw [HT.out]
  exact ⟨rfl, B3.out⟩
theorem read_some_plus (s bs : ByteArray) (w : World) (hE : (bs.toList == ([105, 110, 102] : List UInt8)) = false) (hc : ∀ W, Calls Tryd.prog 43 #[.string s, .string ⟨#[45]⟩] W fun e w' => e = .returned (.tuple #[.string bs, .bool false]) ∧ w' = W) (n : Int) (x : Nat) (hcb : ∀ wx, (convert 3 32 (.int .i64 n)).run Tryd.prog wx = .ok (.float .f64 x) wx) (hg : ∀ W, Calls Tryd.prog 29 #[.string bs] W fun e w' => e = .returned (.tuple #[.int .i64 n, .bool true]) ∧ Below W.heap.size W w') :
    Calls Tryd.prog 19 #[.string s] w (PairTold (x, true) w) := by
  obtain ⟨T, hT⟩ : ∃ T : Ending → World → Prop, T = PairTold (x, true) w := ⟨_, rfl⟩
  have HT := Aside0.mk hT
  rw [← hT]
  clear hT
  have CC := Aside0.mk hc
  have CG := Aside0.mk hg
  clear hc hg
  go_enter Tryd.func19, Tryd.ntmps19
  go_wp2_with fail
  refine (CC.out _).mono ?_
  rintro e w1 ⟨rfl, rfl⟩
  go_wp2_with fail
  refine (inf1_calls _).mono ?_
  rintro e w2 ⟨rfl, b2⟩
  have B2 := Aside0.mk b2
  clear b2
  go_wp2_with fail
  refine (CG.out _).mono ?_
  rintro e w3 ⟨rfl, b3⟩
  have B3 := Aside0.mk (below_step B2.out b3)
  clear b3
  go_wp2_with fail
  rw [HT.out]
  exact ⟨rfl, B3.out⟩
theorem read_some_minus (s bs : ByteArray) (w : World) (hE : (bs.toList == ([105, 110, 102] : List UInt8)) = false) (hc : ∀ W, Calls Tryd.prog 43 #[.string s, .string ⟨#[45]⟩] W fun e w' => e = .returned (.tuple #[.string bs, .bool true]) ∧ w' = W) (n : Int) (x y : Nat) (hcb : ∀ wx, (convert 3 32 (.int .i64 n)).run Tryd.prog wx = .ok (.float .f64 x) wx) (hg : ∀ W, Calls Tryd.prog 29 #[.string bs] W fun e w' => e = .returned (.tuple #[.int .i64 n, .bool true]) ∧ Below W.heap.size W w') (hx : ∀ W, Calls Tryd.prog 45 #[.float .f64 x, .float .f64 13830554455654793216] W fun e w' => e = .returned (.float .f64 y) ∧ Below W.heap.size W w') :
    Calls Tryd.prog 19 #[.string s] w (PairTold (y, true) w) := by
  obtain ⟨T, hT⟩ : ∃ T : Ending → World → Prop, T = PairTold (y, true) w := ⟨_, rfl⟩
  have HT := Aside0.mk hT
  rw [← hT]
  clear hT
  have CC := Aside0.mk hc
  have CX := Aside0.mk hx
  clear hx
  have CG := Aside0.mk hg
  clear hc hg
  go_enter Tryd.func19, Tryd.ntmps19
  go_wp2_with fail
  refine (CC.out _).mono ?_
  rintro e w1 ⟨rfl, rfl⟩
  go_wp2_with fail
  refine (inf1_calls _).mono ?_
  rintro e w2 ⟨rfl, b2⟩
  have B2 := Aside0.mk b2
  clear b2
  go_wp2_with fail
  refine (CG.out _).mono ?_
  rintro e w3 ⟨rfl, b3⟩
  have B3 := Aside0.mk (below_step B2.out b3)
  clear b3
  go_wp2_with fail
  refine (CX.out _).mono ?_
  rintro e w4 ⟨rfl, b4⟩
  have B4 := Aside0.mk (below_step B3.out b4)
  clear b4
  go_wp2_with fail
  rw [HT.out]
  exact ⟨rfl, B4.out⟩
theorem copy_word (n : Int) (hb : 0 ≤ n ∧ n ≤ 9007199254740992) (W : World) : Calls Tryd.prog 45 #[.float .f64 (wordN n.toNat), .float .f64 13830554455654793216] W fun e w' => e = .returned (.float .f64 (top (wordN n.toNat))) ∧ Below W.heap.size W w' := copysign_calls (wordN n.toNat) (by have := wordN_lt (n := n.toNat) (by omega); omega) W
theorem get_some (bs : ByteArray) (hsz : bs.size ≤ 1000000) (n : Int) (ho : readF bs.data.toList = some n) (W : World) : Calls Tryd.prog 29 #[.string bs] W fun e w' => e = .returned (.tuple #[.int .i64 n, .bool true]) ∧ Below W.heap.size W w' := by
  have h := guard_Get_calls bs W hsz
  rw [ho] at h
  exact h
theorem get_none (bs : ByteArray) (hsz : bs.size ≤ 1000000) (ho : readF bs.data.toList = none) (W : World) : Calls Tryd.prog 29 #[.string bs] W fun e w' => e = .returned (.tuple #[.int .i64 0, .bool false]) ∧ Below W.heap.size W w' := by
  have h := guard_Get_calls bs W hsz
  rw [ho] at h
  exact h
theorem conv_word (n : Int) (h : 0 ≤ n) (wx : World) : (convert 3 32 (.int .i64 n)).run Tryd.prog wx = .ok (.float .f64 (wordN n.toNat)) wx := (run_convert_int_float wx 3 32 .i64 .f64 n (by kernel_rfl) Tryd.underlying32).trans (by rw [ofInt_W h, wordN_W])
theorem not_inf (bs : ByteArray) (hne : bs.data.toList ≠ [105, 110, 102]) : (bs.toList == ([105, 110, 102] : List UInt8)) = false := by rw [Lib.toList_data]; simpa using hne
theorem read_num_walk (s bs : ByteArray) (minus : Bool) (w : World) (hsz : bs.size ≤ 1000000) (hne : bs.data.toList ≠ [105, 110, 102]) (hc : ∀ W, Calls Tryd.prog 43 #[.string s, .string ⟨#[45]⟩] W fun e w' => e = .returned (.tuple #[.string bs, .bool minus]) ∧ w' = W) :
    Calls Tryd.prog 19 #[.string s] w (PairTold (plainR ((readF bs.data.toList).map fun n => wordN n.toNat) minus) w) := by
  cases ho : readF bs.data.toList with
  | none => exact read_none s bs w minus (not_inf bs hne) hc (get_none bs hsz ho)
  | some n =>
    have hb := readF_bound ho
    have e : plainR ((some n).map fun n => wordN n.toNat) minus = plainR (some (wordN n.toNat)) minus := congrArg (fun o => plainR o minus) (Option.map_some ..)
    rw [e]
    cases minus with
    | false =>
      have e2 : plainR (some (wordN n.toNat)) false = (wordN n.toNat, true) := by simp [plainR]
      rw [e2]
      exact read_some_plus s bs w (not_inf bs hne) hc n (wordN n.toNat) (conv_word n hb.1) (get_some bs hsz n ho)
    | true =>
      have e2 : plainR (some (wordN n.toNat)) true = (top (wordN n.toNat), true) := by simp [plainR]
      rw [e2]
      exact read_some_minus s bs w (not_inf bs hne) hc n (wordN n.toNat) (top (wordN n.toNat)) (conv_word n hb.1) (get_some bs hsz n ho) (copy_word n hb)
theorem readB_dash (t : List UInt8) : readB (45 :: t) = plainR (bareR t) true := by
  unfold readB plainR
  dsimp only
  rw [if_pos rfl]
  cases bareR t <;> rfl
theorem readB_plain {l : List UInt8} (h : l.head? ≠ some 45) : readB l = plainR (bareR l) false := by
  cases l with
  | nil => rfl
  | cons c t =>
    have hc : ¬ c = 45 := fun e => h (by rw [e]; rfl)
    unfold readB plainR
    dsimp only
    rw [if_neg hc]
    cases bareR (c :: t) <;> rfl
theorem read_calls (s : ByteArray) (hs : s.size ≤ 1000000) (w : World) : Calls Tryd.prog 19 #[.string s] w (PairTold (readB s.data.toList) w) := by
  have hc := fun W => Any.strings_CutPrefix Tryd.cutR s ⟨#[45]⟩ W
  have hl : s.size = s.data.toList.length := size_list s
  by_cases hd : s.data.toList.head? = some 45
  · obtain ⟨t, ht⟩ : ∃ t, s.data.toList = 45 :: t := by
      cases hq : s.data.toList with
      | nil => rw [hq] at hd; cases hd
      | cons c t => rw [hq] at hd; exact ⟨t, by rw [show c = 45 by simpa using hd]⟩
    have e1 : Lib.hasPrefix s.data.toList (⟨#[45]⟩ : ByteArray).data.toList = true := by rw [ht]; rfl
    have e2 : Lib.trimPrefix s.data.toList (⟨#[45]⟩ : ByteArray).data.toList = t := by unfold Lib.trimPrefix; rw [e1, ht]; rfl
    rw [ht] at hl
    simp only [e1, e2] at hc
    rw [ht, readB_dash]
    by_cases hi : t = [105, 110, 102]
    · subst hi
      exact read_inf_walk 9218868437227405312 (by decide) inf1_calls s true w hc
    · have hz : (strOf t).data.toList = t := strOf_list t
      have := read_num_walk s (strOf t) true w (by rw [size_list, hz]; simp at hl; omega) (by rw [hz]; exact hi) hc
      rw [hz] at this
      unfold bareR
      rw [if_neg hi]
      exact this
  · have e1 : Lib.hasPrefix s.data.toList (⟨#[45]⟩ : ByteArray).data.toList = false := by
      cases hq : s.data.toList with
      | nil => rfl
      | cons c t =>
        rw [hq] at hd
        show ((45 : UInt8) == c && List.isPrefixOf [] t) = false
        rw [show ((45 : UInt8) == c) = false from beq_eq_false_iff_ne.2 (fun e => hd (by rw [← e]; rfl))]
        rfl
    have e2 : Lib.trimPrefix s.data.toList (⟨#[45]⟩ : ByteArray).data.toList = s.data.toList := by unfold Lib.trimPrefix; rw [e1]; rfl
    simp only [e1, e2] at hc
    have e3 : (⟨s.data.toList.toArray⟩ : ByteArray) = s := by simp
    rw [e3] at hc
    rw [readB_plain hd]
    by_cases hi : s.data.toList = [105, 110, 102]
    · have e4 : s = ⟨#[105, 110, 102]⟩ := ext_list (by rw [hi])
      have hc2 : ∀ W, Calls Tryd.prog 43 #[.string s, .string ⟨#[45]⟩] W fun e w' => e = .returned (.tuple #[.string ⟨#[105, 110, 102]⟩, .bool false]) ∧ w' = W := fun W => by have := hc W; rw [← e4]; exact this
      have := read_inf_walk 9218868437227405312 (by decide) inf1_calls s false w hc2
      rw [hi]
      exact this
    · have := read_num_walk s s false w hs hi hc
      unfold bareR
      rw [if_neg hi]
      exact this
theorem neg_top (x : Nat) (h : x < 9223372036854775808) : negF x = top x := by rw [negF_eq h, Nat.add_comm]; rfl
theorem rget_some (s : ByteArray) (hs : s.data.toList.length ≤ 100) (n : Int) (b : Bool) (ho : getP (readF s.data.toList) = (n, b)) (W : World) : Calls Tryd.prog 30 #[.string s] W fun e w' => e = .returned (.tuple #[.int .i64 n, .bool b]) ∧ Below W.heap.size W w' :=
  gatewardenref02_Get.calls 2000 s n b W (by rw [refGet_eq s hs, ho])
theorem rread_inf (w : World) : Calls Tryd.prog 20 #[.string ⟨#[105, 110, 102]⟩] w (PairTold (9218868437227405312, true) w) := by
  obtain ⟨T, hT⟩ : ∃ T : Ending → World → Prop, T = PairTold (9218868437227405312, true) w := ⟨_, rfl⟩
  have HT := Aside0.mk hT
  rw [← hT]
  clear hT
  go_enter Tryd.func20, Tryd.ntmps20
  go_wp2_with fail
  refine (inf_calls _).mono ?_
  rintro e w2 ⟨rfl, b2⟩
  have B2 := Aside0.mk b2
  clear b2
  go_wp2_with fail
  rw [HT.out]
  exact ⟨rfl, B2.out⟩
theorem rread_nil (w : World) : Calls Tryd.prog 20 #[.string ⟨#[]⟩] w (PairTold (0, false) w) := by
  obtain ⟨T, hT⟩ : ∃ T : Ending → World → Prop, T = PairTold (0, false) w := ⟨_, rfl⟩
  have HT := Aside0.mk hT
  rw [← hT]
  clear hT
  have CG := Aside0.mk (rget_some ⟨#[]⟩ (by decide) 0 false rfl)
  have hcb := conv_word 0 (by decide)
  rw [show wordN (0 : Int).toNat = 0 from by decide +kernel] at hcb
  go_enter Tryd.func20, Tryd.ntmps20
  go_wp2_with fail
  refine (CG.out _).mono ?_
  rintro e w2 ⟨rfl, b2⟩
  have B2 := Aside0.mk b2
  clear b2
  go_wp2_with fail
  rw [HT.out]
  exact ⟨rfl, B2.out⟩
theorem rread_plain (s : ByteArray) (hz : 0 < s.size) (hE : (s.toList == ([105, 110, 102] : List UInt8)) = false) (h45 : (((s[0]'hz).toNat : Int) == 45) = false) (n : Int) (b : Bool) (x : Nat) (hcb : ∀ wx, (convert 3 32 (.int .i64 n)).run Tryd.prog wx = .ok (.float .f64 x) wx)
    (hg : ∀ W, Calls Tryd.prog 30 #[.string s] W fun e w' => e = .returned (.tuple #[.int .i64 n, .bool b]) ∧ Below W.heap.size W w') (w : World) : Calls Tryd.prog 20 #[.string s] w (PairTold (x, b) w) := by
  obtain ⟨T, hT⟩ : ∃ T : Ending → World → Prop, T = PairTold (x, b) w := ⟨_, rfl⟩
  have HT := Aside0.mk hT
  rw [← hT]
  clear hT
  have CG := Aside0.mk hg
  clear hg
  have hzz : (0 : Int) < (s.size : Int) := by omega
  go_enter Tryd.func20, Tryd.ntmps20
  go_wp2_with fail
  refine (CG.out _).mono ?_
  rintro e w2 ⟨rfl, b2⟩
  have B2 := Aside0.mk b2
  clear b2
  go_wp2_with fail
  rw [HT.out]
  exact ⟨rfl, B2.out⟩
theorem rread_dash (s t : ByteArray) (hz : 0 < s.size) (hs : s.size ≤ 1000) (hE : (s.toList == ([105, 110, 102] : List UInt8)) = false) (h45 : ((s[0]'hz).toNat : Int) = 45) (ht : s.extract 1 s.size = t) (x : Nat) (ok : Bool)
    (hr : ∀ W, Calls Tryd.prog 20 #[.string t] W fun e w' => e = .returned (.tuple #[.float .f64 x, .bool ok]) ∧ Below W.heap.size W w') (q : Nat × Bool)
    (hq : (ok = false ∧ q = (0, false)) ∨ (ok = true ∧ ∃ h1 : 1 < s.size, ((s[1]'h1).toNat : Int) = 45 ∧ q = (0, false)) ∨ (ok = true ∧ ((s.size = 1) ∨ ∃ h1 : 1 < s.size, (((s[1]'h1).toNat : Int) == 45) = false) ∧ q = (negF x, true))) (w : World) :
    Calls Tryd.prog 20 #[.string s] w (PairTold q w) := by
  obtain ⟨T, hT⟩ : ∃ T : Ending → World → Prop, T = PairTold q w := ⟨_, rfl⟩
  have HT := Aside0.mk hT
  rw [← hT]
  clear hT
  have CR := Aside0.mk hr
  clear hr
  have hzz : (0 : Int) < (s.size : Int) := by omega
  have hsl : ∀ w' : World, (Instr.slice 9 (.string s) (some (.int .i64 1)) none none).run Tryd.prog w' = .ok (.string t) w' := fun w' => by
    have h := run_slice_string_l (P := Tryd.prog) w' 9 s Tryd.underlying9 .i64 1 (by omega) (by omega)
    rw [show (1 : Int).toNat = 1 from rfl, ht] at h
    exact h
  rcases hq with ⟨rfl, rfl⟩ | ⟨rfl, h1, h2, rfl⟩ | ⟨rfl, h1, rfl⟩
  · subst ht
    go_enter Tryd.func20, Tryd.ntmps20
    go_wp2_with fail
    refine (CR.out _).mono ?_
    rintro e w2 ⟨rfl, b2⟩
    have B2 := Aside0.mk b2
    clear b2
    go_wp2_with fail
    rw [HT.out]
    exact ⟨rfl, B2.out⟩
  · have h11 : (1 : Int) < (s.size : Int) := by omega
    subst ht
    go_enter Tryd.func20, Tryd.ntmps20
    go_wp2_with fail
    refine (CR.out _).mono ?_
    rintro e w2 ⟨rfl, b2⟩
    have B2 := Aside0.mk b2
    clear b2
    go_wp2_with fail
    rw [HT.out]
    exact ⟨rfl, B2.out⟩
  · rcases h1 with h1 | ⟨h1, h2⟩
    · have h11 : ¬ (1 : Int) < (s.size : Int) := by omega
      have h12 : ¬ 1 < s.size := by omega
      clear h1
      subst ht
      go_enter Tryd.func20, Tryd.ntmps20
      go_wp2_with fail
      refine (CR.out _).mono ?_
      rintro e w2 ⟨rfl, b2⟩
      have B2 := Aside0.mk b2
      clear b2
      go_wp2_with fail
      rw [HT.out]
      exact ⟨rfl, B2.out⟩
    · have h11 : (1 : Int) < (s.size : Int) := by omega
      subst ht
      go_enter Tryd.func20, Tryd.ntmps20
      go_wp2_with fail
      refine (CR.out _).mono ?_
      rintro e w2 ⟨rfl, b2⟩
      have B2 := Aside0.mk b2
      clear b2
      go_wp2_with fail
      rw [HT.out]
      exact ⟨rfl, B2.out⟩
theorem byte_list (s : ByteArray) (i : Nat) (h : i < s.size) (c : UInt8) (hc : s.data.toList[i]? = some c) : s[i]'h = c := by
  have h2 : i < s.data.toList.length := by rw [← size_list]; exact h
  rw [List.getElem?_eq_getElem h2] at hc
  have h3 := Option.some.inj hc
  rw [← h3, Array.getElem_toList]
  rfl
theorem tail_list (s : ByteArray) (c : UInt8) (t : List UInt8) (h : s.data.toList = c :: t) : s.extract 1 s.size = strOf t := by
  apply ext_list
  rw [strOf_list, ByteArray.data_extract, Array.toList_extract, h]
  have hz : s.size = t.length + 1 := by rw [size_list, h]; rfl
  rw [hz]
  simp
theorem byte_neq {c : UInt8} (h : ¬ c = 45) : ((c.toNat : Int) == 45) = false := by
  rw [beq_eq_false_iff_ne]
  intro h2
  exact h (UInt8.toNat_inj.1 (show c.toNat = (45 : UInt8).toNat from by show c.toNat = 45; omega))
theorem word_zero : wordN (0 : Int).toNat = 0 := by decide +kernel
/-- A text that doesn't begin with the sign. -/
theorem rread_no_sign (s : ByteArray) (hs : s.data.toList.length ≤ 100) (hd : s.data.toList.head? ≠ some 45) (w : World) : Calls Tryd.prog 20 #[.string s] w (PairTold (readB s.data.toList) w) := by
  cases hl : s.data.toList with
  | nil =>
    have e : s = ⟨#[]⟩ := ext_list (by rw [hl])
    rw [e]
    exact rread_nil w
  | cons c t =>
    rw [← hl, readB_plain hd]
    have hz : 0 < s.size := by rw [size_list, hl]; simp
    by_cases hi : s.data.toList = [105, 110, 102]
    · have e : s = ⟨#[105, 110, 102]⟩ := ext_list (by rw [hi])
      have e2 : bareR s.data.toList = some 9218868437227405312 := by unfold bareR; rw [if_pos hi]
      have e3 : plainR (some 9218868437227405312) false = (9218868437227405312, true) := by unfold plainR; simp only [Bool.false_eq_true, if_false]
      rw [e2, e3, e]
      exact rread_inf w
    · have hc : s[0]'hz = c := byte_list s 0 hz c (by rw [hl]; rfl)
      have h45 : (((s[0]'hz).toNat : Int) == 45) = false := by
        rw [hc]
        exact byte_neq (fun e => hd (by rw [hl, e]; rfl))
      have e2 : bareR s.data.toList = (readF s.data.toList).map fun n => wordN n.toNat := by unfold bareR; rw [if_neg hi]
      rw [e2]
      cases ho : readF s.data.toList with
      | none =>
        have hcb := conv_word 0 (by decide)
        rw [word_zero] at hcb
        exact rread_plain s hz (not_inf s hi) h45 0 false 0 hcb (rget_some s hs 0 false (by rw [ho]; rfl)) w
      | some n =>
        have hb := readF_bound ho
        have e3 : plainR ((some n).map fun n => wordN n.toNat) false = (wordN n.toNat, true) := by simp [plainR]
        rw [e3]
        exact rread_plain s hz (not_inf s hi) h45 n true (wordN n.toNat) (conv_word n hb.1) (rget_some s hs n true (by rw [ho]; rfl)) w
theorem rread_calls : ∀ (m : Nat) (s : ByteArray), s.data.toList.length ≤ m → m ≤ 100 → ∀ (w : World), Calls Tryd.prog 20 #[.string s] w (PairTold (readB s.data.toList) w) := by
  intro m
  induction m with
  | zero =>
    intro s h hm w
    exact rread_no_sign s (by omega) (by rw [List.length_eq_zero_iff.1 (by omega : s.data.toList.length = 0)]; simp) w
  | succ m ih =>
    intro s h hm w
    by_cases hd : s.data.toList.head? = some 45
    · obtain ⟨t, ht⟩ : ∃ t, s.data.toList = 45 :: t := by
        cases hq : s.data.toList with
        | nil => rw [hq] at hd; cases hd
        | cons c t => rw [hq] at hd; exact ⟨t, by rw [show c = 45 by simpa using hd]⟩
      have hlen : s.size = t.length + 1 := by rw [size_list, ht]; rfl
      have hz : 0 < s.size := by omega
      have h0 : ((s[0]'hz).toNat : Int) = 45 := by rw [byte_list s 0 hz 45 (by rw [ht]; rfl)]; rfl
      have hn : s.data.toList ≠ [105, 110, 102] := by rw [ht]; intro e; exact absurd (List.cons.inj e).1 (by decide)
      have hr := ih (strOf t) (by rw [strOf_list]; rw [ht, List.length_cons] at h; omega) (by omega)
      rw [strOf_list] at hr
      rw [ht, readB_dash]
      have hle : s.size ≤ 1000 := by rw [size_list]; omega
      cases t with
      | nil =>
        rw [bareR_nil]
        exact rread_dash s (strOf []) hz hle (not_inf s hn) h0 (tail_list s 45 [] ht) 0 false hr (0, false) (.inl ⟨rfl, rfl⟩) w
      | cons c u =>
        have h1 : 1 < s.size := by rw [hlen, List.length_cons]; omega
        have hb1 : s[1]'h1 = c := byte_list s 1 h1 c (by rw [ht]; rfl)
        by_cases hc : c = 45
        · subst hc
          rw [bareR_dash]
          cases hok : (readB (45 :: u)).2 with
          | false => exact rread_dash s (strOf (45 :: u)) hz hle (not_inf s hn) h0 (tail_list s 45 _ ht) (readB (45 :: u)).1 false (by rw [← hok]; exact hr) (0, false) (.inl ⟨rfl, rfl⟩) w
          | true => exact rread_dash s (strOf (45 :: u)) hz hle (not_inf s hn) h0 (tail_list s 45 _ ht) (readB (45 :: u)).1 true (by rw [← hok]; exact hr) (0, false) (.inr (.inl ⟨rfl, h1, by rw [hb1]; rfl, rfl⟩)) w
        · have hp := readB_plain (l := c :: u) (by intro e; exact hc (by simpa using e))
          rw [hp] at hr
          cases hbr : bareR (c :: u) with
          | none =>
            rw [hbr] at hr
            exact rread_dash s (strOf (c :: u)) hz hle (not_inf s hn) h0 (tail_list s 45 _ ht) 0 false hr (0, false) (.inl ⟨rfl, rfl⟩) w
          | some x =>
            rw [hbr] at hr
            have hx := bareR_lt hbr
            have e1 : plainR (some x) false = (x, true) := by simp [plainR]
            have e2 : plainR (some x) true = (negF x, true) := by simp [plainR, neg_top x hx]
            rw [e1] at hr
            rw [e2]
            exact rread_dash s (strOf (c :: u)) hz hle (not_inf s hn) h0 (tail_list s 45 _ ht) x true hr (negF x, true) (.inr (.inr ⟨rfl, .inr ⟨h1, by rw [hb1]; exact byte_neq hc⟩, rfl⟩)) w
    · exact rread_no_sign s (by omega) hd w
attribute [local go_sem] f_eql f_neq f_lss f_leq f_gtr bits_run frombits_run neg_run gt_none gt_inf eq_inf half_inf
theorem rtext_nan (b : Nat) (hn : eqF b b = false) (w : World) : Calls Tryd.prog 18 #[.float .f64 b] w fun e w' => e = .returned (.tuple #[.string (strOf []), .bool false]) ∧ Below w.heap.size w w' := by
  go_enter Tryd.func18, Tryd.ntmps18
  go_wp2
  go_ret2
  exact ⟨rfl, Below.refl _ _⟩
theorem eq_inf0 : eqF 9218868437227405312 0 = false := by decide +kernel
theorem rtext_pos (r : Nat) (hr : r ≤ 9218868437227405312) (w : World) : Calls Tryd.prog 18 #[.float .f64 r] w (TextTold r w) := by
  obtain ⟨T, hT⟩ : ∃ T : Ending → World → Prop, T = TextTold r w := ⟨_, rfl⟩
  have HT := Aside0.mk hT
  rw [← hT]
  clear hT
  have habs : absF r = r := Nat.mod_eq_of_lt (by omega)
  have hsg : sgn r = false := decide_eq_false (by omega)
  have hself : eqF r r = true := by rw [abs_nan (by omega), habs]; exact decide_eq_true hr
  have CM := Aside0.mk (fun W => minus_calls r (by omega) hself W)
  rw [hsg] at CM
  have HS := Aside0.mk (show ∀ l, signed r l = l from fun l => by unfold signed; rw [hsg]; rfl)
  clear hsg
  by_cases h0 : r = 0
  · subst h0
    have HO := Aside0.mk (show textB 0 = ([48], true) from by
      have e1 : whole 0 = 0 := by decide +kernel
      have e2 : wordN 0 = 0 := by decide +kernel
      have e3 : absF 0 = 0 := rfl
      unfold textB
      rw [e3, if_neg (by decide), e1, if_pos ⟨by decide, e2⟩, show Lib.decDigits 0 = [48] from dec_small (by decide), HS.out])
    have hc : ∀ wx, (convert 32 3 (.float .f64 0)).run Tryd.prog wx = .ok (.int .i64 0) wx := fun wx => run_convert_float_int wx 32 3 .f64 .i64 _ _ (by kernel_rfl) Tryd.underlying3 (by decide +kernel)
    have hd : ∀ wx, (convert 3 32 (.int .i64 0)).run Tryd.prog wx = .ok (.float .f64 0) wx := fun wx => (run_convert_int_float wx 3 32 .i64 .f64 0 (by kernel_rfl) Tryd.underlying32).trans rfl
    have hg : gtF 0 4845873199050653696 = false := by decide +kernel
    have CP := Aside0.mk (fun W => gatewardenref02_Put.calls 50 0 (strOf [48]) true W (by rw [refPut_eq 0 50 (by decide), if_neg (by decide), show Lib.decDigits (Int.toNat 0) = [48] from dec_small (by decide)]))
    go_enter Tryd.func18, Tryd.ntmps18
    go_wp2_with fail
    refine (CM.out _).mono ?_
    rintro e w1 ⟨rfl, b1⟩
    have B1 := Aside0.mk b1
    clear b1
    go_wp2_with fail
    refine (CM.out _).mono ?_
    rintro e w2 ⟨rfl, b2⟩
    have B2 := Aside0.mk (below_step B1.out b2)
    clear b2
    go_wp2_with fail
    refine (CP.out _).mono ?_
    rintro e w3 ⟨rfl, b3⟩
    have B3 := Aside0.mk (below_step B2.out b3)
    clear b3
    go_wp2_with fail
    rw [HT.out]
    exact ⟨by rw [HO.out]; rfl, B3.out⟩
  by_cases h1 : r = 9218868437227405312
  · subst h1
    have HO := Aside0.mk (show textB 9218868437227405312 = ([105, 110, 102], true) from by unfold textB; rw [habs, if_pos rfl, HS.out])
    have hz := eq_inf0
    go_enter Tryd.func18, Tryd.ntmps18
    go_wp2_with fail
    refine (CM.out _).mono ?_
    rintro e w1 ⟨rfl, b1⟩
    have B1 := Aside0.mk b1
    clear b1
    go_wp2_with fail
    rw [HT.out]
    exact ⟨by rw [HO.out]; rfl, B1.out⟩
  have hlt : r < 9218868437227405312 := by omega
  have hz : eqF r 0 = false := by rw [eq_rung hlt (by decide)]; exact decide_eq_false h0
  have hg0 := gt_zero (by omega : 0 < r) hlt
  obtain ⟨hb, hb1, hb2⟩ := half_ne (by omega : 0 < r) hlt
  have hq : ∀ (w : World), (binOp .quo 32 (.float .f64 r) (.float .f64 4611686018427387904)).run Tryd.prog w = .ok (.float .f64 hb) w := fun w => run_float_arith w .quo 32 .f64 _ _ _ hb1
  have hg := gt_rung hlt (show 4845873199050653696 < 9218868437227405312 by decide)
  by_cases h3 : 4845873199050653696 < r
  · have HO := Aside0.mk (show textB r = ([], false) from by unfold textB; rw [habs, if_neg h1, if_neg (by omega)])
    rw [decide_eq_true h3] at hg
    clear hlt hr h0 h1 h3 habs hb1
    go_enter Tryd.func18, Tryd.ntmps18
    go_wp2_with fail
    refine (CM.out _).mono ?_
    rintro e w1 ⟨rfl, b1⟩
    have B1 := Aside0.mk b1
    clear b1
    go_wp2_with fail
    rw [HT.out]
    exact ⟨by rw [HO.out]; rfl, B1.out⟩
  rw [decide_eq_false h3] at hg
  have hw53 := whole_53 (r := r) (by omega)
  have hwl := wordN_lt hw53
  have heq := eq_rung hlt (show wordN (whole r) < 9218868437227405312 by omega)
  have hcv : ∀ wx, (convert 32 3 (.float .f64 r)).run Tryd.prog wx = .ok (.int .i64 (whole r : Int)) wx := fun wx => run_convert_float_int wx 32 3 .f64 .i64 _ _ (by kernel_rfl) Tryd.underlying3 (int_whole (by omega))
  have hcb : ∀ wx, (convert 3 32 (.int .i64 (whole r : Int))).run Tryd.prog wx = .ok (.float .f64 (wordN (whole r))) wx := fun wx => (run_convert_int_float wx 3 32 .i64 .f64 (whole r : Int) (by kernel_rfl) Tryd.underlying32).trans (by rw [ofInt_W (by omega), Int.toNat_natCast]; rfl)
  have HO := Aside0.mk (show textB r = if wordN (whole r) = r then (Lib.decDigits (whole r), true) else ([], false) from by
    unfold textB
    rw [habs, if_neg h1]
    by_cases hq : wordN (whole r) = r
    · rw [if_pos ⟨by omega, hq⟩, if_pos hq, HS.out]
    · rw [if_neg (fun h => hq h.2), if_neg hq])
  have CP := Aside0.mk (fun W => gatewardenref02_Put.calls 50 (whole r : Int) (strOf (Lib.decDigits (whole r))) true W (by rw [refPut_eq _ 50 (by decide), if_neg (by omega), Int.toNat_natCast]))
  generalize whole r = n at heq hcv hcb HO CP hw53 hwl
  generalize hwn : wordN n = wn at heq HO hwl hcb
  generalize Lib.decDigits n = dd at CP HO
  clear hwn hwl hw53 h0 h1 hr habs hb1
  by_cases h4 : wn = r
  · rw [decide_eq_true h4.symm] at heq
    rw [if_pos h4] at HO
    clear h4 h3 hlt
    go_enter Tryd.func18, Tryd.ntmps18
    go_wp2_with fail
    refine (CM.out _).mono ?_
    rintro e w1 ⟨rfl, b1⟩
    have B1 := Aside0.mk b1
    clear b1
    go_wp2_with fail
    refine (CP.out _).mono ?_
    rintro e w3 ⟨rfl, b3⟩
    have B3 := Aside0.mk (below_step B1.out b3)
    clear b3
    go_wp2_with fail
    rw [HT.out]
    exact ⟨by rw [HO.out]; rfl, B3.out⟩
  · rw [decide_eq_false (fun h => h4 h.symm)] at heq
    rw [if_neg h4] at HO
    clear h4 h3 hlt
    go_enter Tryd.func18, Tryd.ntmps18
    go_wp2_with fail
    refine (CM.out _).mono ?_
    rintro e w1 ⟨rfl, b1⟩
    have B1 := Aside0.mk b1
    clear b1
    go_wp2_with fail
    rw [HT.out]
    exact ⟨by rw [HO.out]; rfl, B1.out⟩
theorem text_neg {b r : Nat} (e1 : absF b = r) (e2 : absF r = r) (s1 : sgn b = true) (s2 : sgn r = false) : textB b = ((if (textB r).2 then 45 :: (textB r).1 else []), (textB r).2) := by
  unfold textB signed
  rw [e1, e2, s1, s2]
  generalize 9218868437227405312 = c
  generalize 4845873199050653696 = d
  by_cases c1 : r = c
  · rw [if_pos c1, if_pos c1]; rfl
  · rw [if_neg c1, if_neg c1]
    by_cases c2 : r ≤ d ∧ wordN (whole r) = r
    · rw [if_pos c2, if_pos c2]; rfl
    · rw [if_neg c2, if_neg c2]; rfl
theorem rtext_calls (b : Nat) (hb : b < 18446744073709551616) (w : World) : Calls Tryd.prog 18 #[.float .f64 b] w (TextTold b w) := by
  have hnan := abs_nan hb
  by_cases hn : 9218868437227405312 < absF b
  · have HO : textB b = ([], false) := by unfold textB; rw [if_neg (by omega), if_neg (by omega)]
    rw [decide_eq_false (by omega)] at hnan
    refine (rtext_nan b hnan w).mono ?_
    rintro e w1 ⟨rfl, h1⟩
    exact ⟨by rw [HO], h1⟩
  rw [decide_eq_true (by omega)] at hnan
  by_cases hs : b < 9223372036854775808
  · have : absF b = b := Nat.mod_eq_of_lt hs
    exact rtext_pos b (by omega) w
  obtain ⟨r, hbr⟩ : ∃ r, b = 9223372036854775808 + r := ⟨absF b, by unfold absF; omega⟩
  have habs : absF b = r := by unfold absF; omega
  have habs2 : absF r = r := by unfold absF; omega
  have hsg2 : sgn r = false := decide_eq_false (by omega)
  have hsg : sgn b = true := decide_eq_true (by omega)
  have CM := Aside0.mk (fun W => minus_calls b hb hnan W)
  rw [hsg] at CM
  obtain ⟨T, hT⟩ : ∃ T : Ending → World → Prop, T = TextTold b w := ⟨_, rfl⟩
  have HT := Aside0.mk hT
  rw [← hT]
  clear hT
  by_cases hz : b = 9223372036854775808
  · subst hz
    have HO := Aside0.mk (show textB 9223372036854775808 = ([45, 48], true) from by
      have e1 : whole 0 = 0 := by decide +kernel
      have e2 : wordN 0 = 0 := by decide +kernel
      have e3 : absF 9223372036854775808 = 0 := by decide +kernel
      unfold textB signed
      rw [e3, if_neg (by decide), e1, if_pos ⟨by decide, e2⟩, show Lib.decDigits 0 = [48] from dec_small (by decide), hsg]
      rfl)
    have he := e_zero
    clear habs hsg hs hn hb habs2 hsg2 hbr
    go_enter Tryd.func18, Tryd.ntmps18
    go_wp2_with fail
    refine (CM.out _).mono ?_
    rintro e w1 ⟨rfl, b1⟩
    have B1 := Aside0.mk b1
    clear b1
    go_wp2_with fail
    rw [HT.out]
    exact ⟨by rw [HO.out]; rfl, B1.out⟩
  have he : eqF b 0 = false := by
    rcases minus_facts hb hnan with ⟨h, _⟩ | ⟨h, h1⟩
    · omega
    · rcases h1 with h1 | h1
      · unfold ltF at h1
        unfold eqF
        cases hq : ord b 0 with
        | none => rfl
        | some o => rw [hq] at h1; cases o <;> first | rfl | (exact absurd h1 (by decide))
      · exact absurd h1 hz
  have hneg : negF b = r := by unfold negF; rw [neg_word hb, if_neg hs]; omega
  have CT := Aside0.mk (fun W => rtext_pos r (by omega) W)
  have HO := Aside0.mk (text_neg habs habs2 hsg hsg2)
  have HLEN := Aside0.mk (show (strOf (textB (r)).1).size ≤ 20 from by
    rw [size_list, strOf_list]
    unfold textB signed
    rw [habs2, hsg2]
    split
    · decide
    · split
      · rename_i hc
        have := nDigits_M (n := whole (r)) (by have := whole_53 hc.1; omega)
        show (Lib.decDigits _).length ≤ 20
        rw [Go.Lib.decDigits_length]
        omega
      · exact Nat.zero_le _)
  unfold TextTold at CT
  generalize textB (r) = tb at CT HO HLEN
  obtain ⟨dd, ok⟩ := tb
  have hcat := cat_sign dd
  have hlen := HLEN.out
  clear habs hsg hs hn hb hz HLEN habs2 hsg2 hbr
  dsimp only at CT HO hlen
  cases ok with
  | false =>
    have HCAT := Aside0.mk hcat
    clear hcat hlen
    go_enter Tryd.func18, Tryd.ntmps18
    go_wp2_with fail
    refine (CM.out _).mono ?_
    rintro e w1 ⟨rfl, b1⟩
    have B1 := Aside0.mk b1
    clear b1
    go_wp2_with fail
    refine (CT.out _).mono ?_
    rintro e w2 ⟨rfl, b2⟩
    have B2 := Aside0.mk (below_step B1.out b2)
    clear b2
    go_wp2_with fail
    rw [HT.out]
    exact ⟨by rw [HO.out]; rfl, B2.out⟩
  | true =>
    have HCAT := Aside0.mk hcat
    clear hcat
    go_enter Tryd.func18, Tryd.ntmps18
    go_wp2_with fail
    refine (CM.out _).mono ?_
    rintro e w1 ⟨rfl, b1⟩
    have B1 := Aside0.mk b1
    clear b1
    go_wp2_with fail
    refine (CT.out _).mono ?_
    rintro e w2 ⟨rfl, b2⟩
    have B2 := Aside0.mk (below_step B1.out b2)
    clear b2
    go_wp2_with fail
    rw [HT.out]
    exact ⟨by rw [HO.out]; simp only [if_true]; rw [← HCAT.out]; rfl, B2.out⟩
theorem ints_four (a b c d : Int) : gatewardenref01_Ints.f 9 [a, b, c, d] [a, b, c, d] = some true := by
  unfold gatewardenref01_Ints.f
  rw [if_pos rfl]
  simp [gatewardenref01_Ints.l0, Go.Proofs.YtjllahglfpbemaaDoor.PGuardTells.w64]
theorem same_self (a : Nat) : sameF a a = true := by
  unfold sameF
  cases eqF a a <;> simp
theorem bareR_dec {n : Nat} (h : n ≤ 9007199254740992) : bareR (Lib.decDigits n) = some (wordN n) ∧ (Lib.decDigits n).head? ≠ some 45 := by
  have hd := isD_dec n
  have hne := dec_ne n
  have hr : readF (Lib.decDigits n) = some (n : Int) := (readF_iff _ _).2 ⟨by omega, by omega, by rw [Int.toNat_natCast]⟩
  have hmem : ∀ c, (Lib.decDigits n).head? = some c → ten.contains c = true := fun c hc => hd c (List.mem_of_mem_head? hc)
  constructor
  · unfold bareR
    rw [if_neg (fun e => by have := hmem 105 (by rw [e]; rfl); exact absurd this (by decide)), hr, Option.map_some, Int.toNat_natCast]
  · intro e
    exact absurd (hmem 45 e) (by decide)
theorem bareR_inf : bareR [105, 110, 102] = some 9218868437227405312 := by unfold bareR; rw [if_pos rfl]
theorem abs_cases (b : Nat) (hb : b < 18446744073709551616) : (sgn b = true ∧ b = top (absF b)) ∨ (sgn b = false ∧ b = absF b) := by
  by_cases h : 9223372036854775808 ≤ b
  · exact .inl ⟨decide_eq_true h, by unfold top absF; omega⟩
  · exact .inr ⟨decide_eq_false h, by unfold absF; omega⟩
theorem signed_read {b : Nat} (hb : b < 18446744073709551616) {l : List UInt8} (hl : bareR l = some (absF b)) (hh : l.head? ≠ some 45) : readB (signed b l) = (b, true) := by
  unfold signed
  rcases abs_cases b hb with ⟨h1, h2⟩ | ⟨h1, h2⟩
  · rw [h1, if_pos rfl, readB_dash, hl]
    have e : plainR (some (absF b)) true = (top (absF b), true) := by simp [plainR]
    rw [e, ← h2]
  · rw [h1, if_neg (by decide), readB_plain hh, hl]
    have e : plainR (some (absF b)) false = (absF b, true) := by simp [plainR]
    rw [e, ← h2]
/-- A float that has a text comes back of it. -/
theorem text_back {b : Nat} (hb : b < 18446744073709551616) (h : (textB b).2 = true) : readB (textB b).1 = (b, true) := by
  unfold textB at h ⊢
  by_cases c1 : absF b = 9218868437227405312
  · rw [if_pos c1]
    exact signed_read hb (by rw [bareR_inf, c1]) (by decide)
  · rw [if_neg c1] at h ⊢
    by_cases c2 : absF b ≤ 4845873199050653696 ∧ wordN (whole (absF b)) = absF b
    · rw [if_pos c2]
      have hd := bareR_dec (whole_53 c2.1)
      exact signed_read hb (by rw [hd.1, c2.2]) hd.2
    · rw [if_neg c2] at h; cases h
theorem text_empty {b : Nat} (h : (textB b).2 = false) : textB b = ([], false) := by
  unfold textB at h ⊢
  by_cases c1 : absF b = 9218868437227405312
  · rw [if_pos c1] at h; cases h
  · rw [if_neg c1] at h ⊢
    by_cases c2 : absF b ≤ 4845873199050653696 ∧ wordN (whole (absF b)) = absF b
    · rw [if_pos c2] at h; cases h
    · rw [if_neg c2]
theorem top_parts {x : Nat} (h : x < 9223372036854775808) : absF (top x) = x ∧ sgn (top x) = true ∧ absF x = x ∧ sgn x = false := by
  refine ⟨?_, ?_, ?_, ?_⟩
  · unfold absF top; omega
  · unfold sgn; apply decide_eq_true; unfold top; omega
  · unfold absF; omega
  · unfold sgn; apply decide_eq_false; omega
/-- What a bare text's float is written as. -/
theorem bare_text {l : List UInt8} {x b : Nat} (h : bareR l = some x) (ha : absF b = x) : (textB b).1 = signed b l := by
  unfold bareR at h
  by_cases hi : l = [105, 110, 102]
  · rw [if_pos hi] at h
    cases h
    unfold textB
    rw [if_pos ha, hi]
  · rw [if_neg hi] at h
    obtain ⟨n, hn, rfl⟩ := Option.map_eq_some_iff.1 h
    obtain ⟨h0, h1, h2⟩ := (readF_iff l n).1 hn
    have hle : n.toNat ≤ 9007199254740992 := by omega
    have hw := wordN_lt hle
    have hwh := whole_W hle
    unfold textB
    rw [ha, if_neg (by omega), if_pos ⟨hw, by rw [hwh]⟩, hwh, ← h2]
/-- A text that is a float's is its text. -/
theorem read_back {l : List UInt8} (h : (readB l).2 = true) : (textB (readB l).1).1 = l := by
  by_cases hd : l.head? = some 45
  · obtain ⟨t, rfl⟩ : ∃ t, l = 45 :: t := by
      cases l with
      | nil => cases hd
      | cons c t => exact ⟨t, by rw [show c = 45 by simpa using hd]⟩
    rw [readB_dash] at h ⊢
    cases hx : bareR t with
    | none => rw [hx] at h; cases h
    | some x =>
      have e : plainR (some x) true = (top x, true) := by simp [plainR]
      obtain ⟨p1, p2, _, _⟩ := top_parts (bareR_lt hx)
      rw [e]
      show (textB (top x)).1 = 45 :: t
      rw [bare_text hx p1]
      unfold signed
      rw [p2, if_pos rfl]
  · rw [readB_plain hd] at h ⊢
    cases hx : bareR l with
    | none => rw [hx] at h; cases h
    | some x =>
      have e : plainR (some x) false = (x, true) := by simp [plainR]
      obtain ⟨_, _, p1, p2⟩ := top_parts (bareR_lt hx)
      rw [e]
      show (textB x).1 = l
      rw [bare_text hx p1]
      unfold signed
      rw [p2, if_neg (by decide)]
theorem readB_lt (l : List UInt8) : (readB l).1 < 18446744073709551616 := by
  have key : ∀ (o : Option Nat) (m : Bool), (∀ x, o = some x → x < 9223372036854775808) → (plainR o m).1 < 18446744073709551616 := by
    intro o m ho
    cases o with
    | none => exact (by decide : (0 : Nat) < 18446744073709551616)
    | some x =>
      have hx := ho x rfl
      cases m with
      | false =>
        have e : plainR (some x) false = (x, true) := by simp [plainR]
        rw [e]
        show x < 18446744073709551616
        omega
      | true =>
        have e : plainR (some x) true = (top x, true) := by simp [plainR]
        rw [e]
        show top x < 18446744073709551616
        unfold top
        omega
  by_cases hd : l.head? = some 45
  · obtain ⟨t, rfl⟩ : ∃ t, l = 45 :: t := by
      cases l with
      | nil => cases hd
      | cons c t => exact ⟨t, by rw [show c = 45 by simpa using hd]⟩
    rw [readB_dash]
    exact key _ _ (fun x hx => bareR_lt hx)
  · rw [readB_plain hd]
    exact key _ _ (fun x hx => bareR_lt hx)
theorem part_in (b i : Nat) : In (part b i) := by unfold In part; omega
theorem word_regs {b : Nat} (hb : b < 18446744073709551616) : word4 (part b 0) (part b 1) (part b 2) (part b 3) = b := by
  unfold word4 part
  simp only [Nat.reduceMul, Nat.reduceSub, Nat.reducePow]
  omega
/-- The float of a float's numbers. -/
theorem of_regs {b : Nat} (hb : b < 18446744073709551616) : ∃ y, ofF (regsP b) = (y, true) ∧ y < 18446744073709551616 ∧ sameF b y = true := by
  unfold regsP
  cases h : eqF b b with
  | true =>
    rw [if_pos rfl, ofF_in (part_in b 0) (part_in b 1) (part_in b 2) (part_in b 3), word_regs hb]
    exact ⟨b, rfl, hb, same_self b⟩
  | false =>
    rw [if_neg (by decide), of_nan]
    refine ⟨_, rfl, by decide, ?_⟩
    unfold sameF
    rw [h, e_nan]
    rfl
/-- The numbers of a float that some numbers are. -/
theorem regs_of {l : List Int} (h : (ofF l).2 = true) (hn : eqF (ofF l).1 (ofF l).1 = true) : regsP (ofF l).1 = l ∧ (ofF l).1 < 18446744073709551616 ∧ l.length = 4 := by
  by_cases ho : l.length ≠ 4 ∨ ∃ n ∈ l, ¬ In n
  · rw [ofF_out ho] at h; cases h
  · have h4 : l.length = 4 := Classical.byContradiction fun e => ho (.inl e)
    have hin : ∀ n ∈ l, In n := fun n hn => Classical.byContradiction fun e => ho (.inr ⟨n, hn, e⟩)
    obtain ⟨a, b, c, d, rfl⟩ : ∃ a b c d, l = [a, b, c, d] := by
      match l, h4 with
      | [a, b, c, d], _ => exact ⟨a, b, c, d, rfl⟩
    have ha := hin a (by simp)
    have hb := hin b (by simp)
    have hc := hin c (by simp)
    have hd := hin d (by simp)
    rw [ofF_in ha hb hc hd] at hn ⊢
    unfold In at ha hb hc hd
    dsimp only at hn ⊢
    have hw : (word4 a b c d : Int) = ((a * 65536 + b) * 65536 + c) * 65536 + d := by unfold word4; omega
    generalize word4 a b c d = y at hn hw ⊢
    refine ⟨?_, by omega, rfl⟩
    unfold regsP part
    rw [hn, if_pos rfl]
    simp only [Nat.reduceMul, Nat.reduceSub, Nat.reducePow, List.cons.injEq, and_true]
    refine ⟨by omega, by omega, by omega, by omega⟩
end Go.Proofs.YtjllahglfpbemaaDoor.Fl
