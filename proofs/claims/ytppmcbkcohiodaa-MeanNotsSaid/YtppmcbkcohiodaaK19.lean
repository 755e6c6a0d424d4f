/- Texts of this claim, put together (wip/pack.py): RefText5. -/
import Derived.Test.YtppmcbkcohiodaaK10
import Derived.Test.YtppmcbkcohiodaaK11
import Derived.Test.YtppmcbkcohiodaaK12
import Derived.Test.YtppmcbkcohiodaaK18
import Derived.Laws.BitsAllLaws
namespace Go.Proofs.Ytppmcbkcohiodaa.Fl
open Go Go.Proofs.Ytppmcbkcohiodaa.Dbl Ieee
set_option linter.unusedVariables false
set_option linter.unusedSimpArgs false
/-- A number's whole part, without its sign. -/
def whole (r : Nat) : Nat := match double.read r with
  | .number s m p => Toward.zero.cut s (m <<< p.toNat) (-p).toNat
  | _ => 0
theorem cut_floor (s : Bool) (n k : Nat) : Toward.zero.cut s n k = n / 2 ^ k := by
  unfold Toward.cut
  simp only [Bool.toNat_false, Nat.add_zero]
  rw [Nat.one_shiftLeft]
  by_cases h : k ≤ n.log2 + 2
  · rw [Nat.min_eq_left h]
  · rw [Nat.min_eq_right (by omega)]
    have h0 : n < 2 ^ (n.log2 + 1) := Nat.lt_log2_self
    have h1 : n < 2 ^ (n.log2 + 2) := Nat.lt_of_lt_of_le h0 (Nat.pow_le_pow_right (by decide) (by omega))
    have h2 : n < 2 ^ k := Nat.lt_of_lt_of_le h1 (Nat.pow_le_pow_right (by decide) (by omega))
    rw [Nat.div_eq_of_lt h1, Nat.div_eq_of_lt h2]
theorem read_rung {r : Nat} (hr : r < 9218868437227405312) : ∃ m p, double.read r = .number false m p ∧ -1074 ≤ p ∧ m * 2 ^ (p + 1074).toNat = val r := by
  have h := read_V (magR r) (plR r) (magR_lt r) (plR_ge r) (plR_le hr)
  rw [W_rung r hr] at h
  exact h
theorem whole_le {r : Nat} (hr : r < 9218868437227405312) : whole r * 2 ^ 1074 ≤ val r := by
  obtain ⟨m, p, h, hp, hv⟩ := read_rung hr
  unfold whole
  rw [h]
  dsimp only
  rw [cut_floor, ← hv, Nat.shiftLeft_eq]
  by_cases h0 : 0 ≤ p
  · obtain ⟨q, rfl⟩ := Int.eq_ofNat_of_zero_le h0
    rw [show ((q : Int) + 1074).toNat = q + 1074 by omega, show (-(q : Int)).toNat = 0 by omega, Int.toNat_natCast, Nat.pow_zero, Nat.div_one, Nat.pow_add, Nat.mul_assoc]
    exact Nat.le_refl _
  · obtain ⟨q, rfl⟩ : ∃ q : Nat, p = -(q : Int) := ⟨(-p).toNat, by omega⟩
    rw [show (-(q : Int)).toNat = 0 by omega, show (-(-(q : Int))).toNat = q by omega, Nat.pow_zero, Nat.mul_one, show (-(q : Int) + 1074).toNat = 1074 - q by omega]
    have h1 : (2 : Nat) ^ 1074 = 2 ^ q * 2 ^ (1074 - q) := by rw [← Nat.pow_add]; congr 1; omega
    rw [h1, ← Nat.mul_assoc]
    exact Nat.mul_le_mul_right _ (Nat.div_mul_le_self _ _)
theorem val_53 : val 4845873199050653696 = 9007199254740992 * 2 ^ 1074 := by decide +kernel
theorem val_le {r s : Nat} (h : r ≤ s) : val r ≤ val s := by
  rcases Nat.lt_or_eq_of_le h with h | rfl
  · exact Nat.le_of_lt (val_lt h)
  · exact Nat.le_refl _
theorem whole_53 {r : Nat} (h : r ≤ 4845873199050653696) : whole r ≤ 9007199254740992 := by
  have h1 := whole_le (r := r) (by omega)
  have h2 := val_le h
  rw [val_53] at h2
  exact Nat.le_of_mul_le_mul_right (Nat.le_trans h1 h2) (Nat.two_pow_pos 1074)
/-- A whole number's word. -/
def wordN (n : Nat) : Nat := double.nearest false n 0
theorem wordN_W (n : Nat) : wordN n = W n 0 := rfl
theorem whole_W {n : Nat} (h : n ≤ 9007199254740992) : whole (wordN n) = n := by
  rcases Nat.lt_or_eq_of_le h with h | rfl
  · by_cases h0 : n = 0
    · subst h0; decide +kernel
    · unfold whole
      rw [wordN_W, read_W n 0 (by omega) h (by omega) (by omega)]
      dsimp only
      have e1 : ((0 : Int) - (gapN n 0 : Int)).toNat = 0 := by omega
      have e2 : (-((0 : Int) - (gapN n 0 : Int))).toNat = gapN n 0 := by omega
      rw [e1, e2, Nat.shiftLeft_zero, cut_exact n _ _ _ (by omega)]
  · decide +kernel
theorem wordN_lt {n : Nat} (h : n ≤ 9007199254740992) : wordN n ≤ 4845873199050653696 := by
  rcases Nat.lt_or_eq_of_le h with h | rfl
  · by_cases h0 : n = 0
    · subst h0; decide +kernel
    · have hl := log_le h
      have h1 : 2 ^ n.log2 ≤ n := Nat.log2_self_le h0
      have h2 : n < 2 ^ (n.log2 + 1) := Nat.lt_log2_self
      have hs := W_shift n (52 - n.log2) 0 h (by omega)
      have e1 : (2 : Nat) ^ 52 = 2 ^ n.log2 * 2 ^ (52 - n.log2) := by rw [← Nat.pow_add]; congr 1; omega
      have e2 : (2 : Nat) ^ 53 = 2 ^ (n.log2 + 1) * 2 ^ (52 - n.log2) := by rw [← Nat.pow_add]; congr 1; omega
      have g1 : 4503599627370496 ≤ n <<< (52 - n.log2) := by
        rw [Nat.shiftLeft_eq]
        exact Nat.le_trans (Nat.le_of_eq e1) (Nat.mul_le_mul_right _ h1)
      have g2 : n <<< (52 - n.log2) < 9007199254740992 := by
        rw [Nat.shiftLeft_eq]
        exact Nat.lt_of_lt_of_le (Nat.mul_lt_mul_of_pos_right h2 (Nat.two_pow_pos _)) (Nat.le_of_eq e2.symm)
      have hn := W_normal (f := n <<< (52 - n.log2) - 4503599627370496) (x := 1075 - ((52 - n.log2 : Nat) : Int)) (by omega) (by omega) (by omega)
      rw [show n <<< (52 - n.log2) - 4503599627370496 + 4503599627370496 = n <<< (52 - n.log2) by omega, show (1075 : Int) - ((52 - n.log2 : Nat) : Int) - 1075 = 0 - ((52 - n.log2 : Nat) : Int) by omega] at hn
      have hw : wordN n = double.nearest false (n <<< (52 - n.log2)) (0 - ((52 - n.log2 : Nat) : Int)) := hs.symm
      rw [hw]
      have hn' : double.nearest false (n <<< (52 - n.log2)) (0 - ((52 - n.log2 : Nat) : Int)) = (1075 - ((52 - n.log2 : Nat) : Int)).toNat * 4503599627370496 + (n <<< (52 - n.log2) - 4503599627370496) := hn
      rw [hn']
      omega
  · decide +kernel
theorem toInt_whole {r : Nat} (hr : r < 9218868437227405312) : (double.read r).toInt .zero = some (whole r : Int) := by
  obtain ⟨m, p, h, hp, hv⟩ := read_rung hr
  unfold whole
  rw [h]
  unfold Datum.toInt Datum.integral
  simp [signed]
theorem int_whole {r : Nat} (hr : r ≤ 4845873199050653696) : floatToIntVal .f64 r .i64 = some (whole r : Int) := by
  have h := whole_53 hr
  unfold floatToIntVal
  show (match (double.read r).toInt .zero with | some n => if IntKind.i64.min ≤ n ∧ n ≤ IntKind.i64.max then some n else none | none => none) = some (whole r : Int)
  rw [toInt_whole (by omega)]
  have h1 : IntKind.i64.min ≤ (whole r : Int) ∧ (whole r : Int) ≤ IntKind.i64.max := by
    constructor
    · show (-9223372036854775808 : Int) ≤ (whole r : Int); omega
    · show (whole r : Int) ≤ 9223372036854775807; omega
  exact if_pos h1
theorem write_whole {r : Nat} (hr : r < 9218868437227405312) : double.write ((double.read r).integral .zero) = wordN (whole r) := by
  obtain ⟨m, p, h, hp, hv⟩ := read_rung hr
  unfold whole
  rw [h]
  rfl
open Go Go.RowKit Go.Proofs.YtppmcbkcohiodaaW.PrintWords Go.Proofs.YtppmcbkcohiodaaW.PrintLast Go.Proofs.YtppmcbkcohiodaaW.PrintMore Go.Proofs.Ytppmcbkcohiodaa.Dbl Go.Proofs.Ytppmcbkcohiodaa.PMeanTells
set_option maxHeartbeats 2000000
set_option maxRecDepth 100000
attribute [-go_sem] binOp_float_cmp_eql binOp_float_cmp_neq binOp_float_cmp_lss binOp_float_cmp_leq binOp_float_cmp_gtr binOp_float_cmp_geq
attribute [local go_sem] f_eql f_neq f_lss f_leq f_gtr frombits_run neg_run
theorem gt_rung {r s : Nat} (hr : r < 9218868437227405312) (hs : s < 9218868437227405312) : gtF r s = decide (s < r) := by
  unfold gtF
  rw [ord_rung hr hs, cmp_gt]
  congr 1
  apply propext
  constructor
  · intro h
    rcases Nat.lt_trichotomy r s with c | c | c
    · have := val_lt c; omega
    · rw [c] at h; omega
    · exact c
  · intro h; exact val_lt h
/-- A float without its sign. -/
def absF (b : Nat) : Nat := b % 9223372036854775808
theorem absF_lt (b : Nat) : absF b < 9223372036854775808 := Nat.mod_lt _ (by decide)
set_option maxHeartbeats 4000000
def signed (b : Nat) (l : List UInt8) : List UInt8 := if sgn b then 45 :: l else l
/-- The text of a float, if it has one. -/
def textB (b : Nat) : List UInt8 × Bool :=
  if absF b = 9218868437227405312 then (signed b [105, 110, 102], true)
  else if absF b ≤ 4845873199050653696 ∧ wordN (whole (absF b)) = absF b then (signed b (Lib.decDigits (whole (absF b))), true)
  else ([], false)
def TextTold (b : Nat) (w : World) (e : Ending) (w' : World) : Prop := e = .returned (.tuple #[.string (strOf (textB b).1), .bool (textB b).2]) ∧ Below w.heap.size w w'
theorem abs_nan {b : Nat} (hb : b < 18446744073709551616) : eqF b b = decide (absF b ≤ 9218868437227405312) := nan_iff hb
theorem cat_sign (l : List UInt8) : (⟨#[45]⟩ : ByteArray) ++ strOf l = strOf (45 :: l) := ext_list (by rw [app_list, strOf_list, strOf_list]; rfl)
attribute [local go_sem] f_eql f_neq f_lss f_leq f_gtr frombits_run neg_run gt_none gt_inf eq_inf half_inf
theorem rtext_nan (b : Nat) (hn : eqF b b = false) (w : World) : Calls Try.prog 67 #[.float .f64 b] w fun e w' => e = .returned (.tuple #[.string (strOf []), .bool false]) ∧ Below w.heap.size w w' := by
  go_enter Try.func67, Try.ntmps67
  go_wp2
  go_ret2
  exact ⟨rfl, Below.refl _ _⟩
theorem eq_inf0 : eqF 9218868437227405312 0 = false := by decide +kernel
theorem rtext_pos (r : Nat) (hr : r ≤ 9218868437227405312) (w : World) : Calls Try.prog 67 #[.float .f64 r] w (TextTold r w) := by
  obtain ⟨T, hT⟩ : ∃ T : Ending → World → Prop, T = TextTold r w := ⟨_, rfl⟩
  have HT := Aside0.mk hT
  rw [← hT]
  clear hT
  have habs : absF r = r := Nat.mod_eq_of_lt (by omega)
  have hsg : sgn r = false := decide_eq_false (by omega)
  have hself : eqF r r = true := by rw [abs_nan (by omega), habs]; exact decide_eq_true hr
  have CM := Aside0.mk (fun W => minus_calls r (by omega) hself W)
  rw [hsg] at CM
  have HS := Aside0.mk (show ∀ l, signed r l = l from fun l => by unfold signed; rw [hsg]; rfl)
  clear hsg
  by_cases h0 : r = 0
  · subst h0
    have HO := Aside0.mk (show textB 0 = ([48], true) from by
      have e1 : whole 0 = 0 := by decide +kernel
      have e2 : wordN 0 = 0 := by decide +kernel
      have e3 : absF 0 = 0 := rfl
      unfold textB
      rw [e3, if_neg (by decide), e1, if_pos ⟨by decide, e2⟩, show Lib.decDigits 0 = [48] from dec_small (by decide), HS.out])
    have hc : ∀ wx, (convert 23 3 (.float .f64 0)).run Try.prog wx = .ok (.int .i64 0) wx := fun wx => run_convert_float_int wx 23 3 .f64 .i64 _ _ (by kernel_rfl) Try.underlying3 (by decide +kernel)
    have hd : ∀ wx, (convert 3 23 (.int .i64 0)).run Try.prog wx = .ok (.float .f64 0) wx := fun wx => (run_convert_int_float wx 3 23 .i64 .f64 0 (by kernel_rfl) Try.underlying23).trans rfl
    have hg : gtF 0 4845873199050653696 = false := by decide +kernel
    have CP := Aside0.mk (fun W => gatewardenref02_Put.calls 50 0 (strOf [48]) true W (by rw [refPut_eq 0 50 (by decide), if_neg (by decide), show Lib.decDigits (Int.toNat 0) = [48] from dec_small (by decide)]))
    go_enter Try.func67, Try.ntmps67
    go_wp2_with fail
    refine (CM.out _).mono ?_
    rintro e w1 ⟨rfl, b1⟩
    have B1 := Aside0.mk b1
    clear b1
    go_wp2_with fail
    refine (CM.out _).mono ?_
    rintro e w2 ⟨rfl, b2⟩
    have B2 := Aside0.mk (below_step B1.out b2)
    clear b2
    go_wp2_with fail
    refine (CP.out _).mono ?_
    rintro e w3 ⟨rfl, b3⟩
    have B3 := Aside0.mk (below_step B2.out b3)
    clear b3
    go_wp2_with fail
    rw [HT.out]
    exact ⟨by rw [HO.out]; rfl, B3.out⟩
  by_cases h1 : r = 9218868437227405312
  · subst h1
    have HO := Aside0.mk (show textB 9218868437227405312 = ([105, 110, 102], true) from by unfold textB; rw [habs, if_pos rfl, HS.out])
    have hz := eq_inf0
    go_enter Try.func67, Try.ntmps67
    go_wp2_with fail
    refine (CM.out _).mono ?_
    rintro e w1 ⟨rfl, b1⟩
    have B1 := Aside0.mk b1
    clear b1
    go_wp2_with fail
    rw [HT.out]
    exact ⟨by rw [HO.out]; rfl, B1.out⟩
  have hlt : r < 9218868437227405312 := by omega
  have hz : eqF r 0 = false := by rw [eq_rung hlt (by decide)]; exact decide_eq_false h0
  have hg0 := gt_zero (by omega : 0 < r) hlt
  obtain ⟨hb, hb1, hb2⟩ := half_ne (by omega : 0 < r) hlt
  have hq : ∀ (w : World), (binOp .quo 23 (.float .f64 r) (.float .f64 4611686018427387904)).run Try.prog w = .ok (.float .f64 hb) w := fun w => run_float_arith w .quo 23 .f64 _ _ _ hb1
  have hg := gt_rung hlt (show 4845873199050653696 < 9218868437227405312 by decide)
  by_cases h3 : 4845873199050653696 < r
  · have HO := Aside0.mk (show textB r = ([], false) from by unfold textB; rw [habs, if_neg h1, if_neg (by omega)])
    rw [decide_eq_true h3] at hg
    clear hlt hr h0 h1 h3 habs hb1
    go_enter Try.func67, Try.ntmps67
    go_wp2_with fail
    refine (CM.out _).mono ?_
    rintro e w1 ⟨rfl, b1⟩
    have B1 := Aside0.mk b1
    clear b1
    go_wp2_with fail
    rw [HT.out]
    exact ⟨by rw [HO.out]; rfl, B1.out⟩
  rw [decide_eq_false h3] at hg
  have hw53 := whole_53 (r := r) (by omega)
  have hwl := wordN_lt hw53
  have heq := eq_rung hlt (show wordN (whole r) < 9218868437227405312 by omega)
  have hcv : ∀ wx, (convert 23 3 (.float .f64 r)).run Try.prog wx = .ok (.int .i64 (whole r : Int)) wx := fun wx => run_convert_float_int wx 23 3 .f64 .i64 _ _ (by kernel_rfl) Try.underlying3 (int_whole (by omega))
  have hcb : ∀ wx, (convert 3 23 (.int .i64 (whole r : Int))).run Try.prog wx = .ok (.float .f64 (wordN (whole r))) wx := fun wx => (run_convert_int_float wx 3 23 .i64 .f64 (whole r : Int) (by kernel_rfl) Try.underlying23).trans (by rw [ofInt_W (by omega), Int.toNat_natCast]; rfl)
  have HO := Aside0.mk (show textB r = if wordN (whole r) = r then (Lib.decDigits (whole r), true) else ([], false) from by
    unfold textB
    rw [habs, if_neg h1]
    by_cases hq : wordN (whole r) = r
    · rw [if_pos ⟨by omega, hq⟩, if_pos hq, HS.out]
    · rw [if_neg (fun h => hq h.2), if_neg hq])
  have CP := Aside0.mk (fun W => gatewardenref02_Put.calls 50 (whole r : Int) (strOf (Lib.decDigits (whole r))) true W (by rw [refPut_eq _ 50 (by decide), if_neg (by omega), Int.toNat_natCast]))
  generalize whole r = n at heq hcv hcb HO CP hw53 hwl
  generalize hwn : wordN n = wn at heq HO hwl hcb
  generalize Lib.decDigits n = dd at CP HO
  clear hwn hwl hw53 h0 h1 hr habs hb1
  by_cases h4 : wn = r
  · rw [decide_eq_true h4.symm] at heq
    rw [if_pos h4] at HO
    clear h4 h3 hlt
    go_enter Try.func67, Try.ntmps67
    go_wp2_with fail
    refine (CM.out _).mono ?_
    rintro e w1 ⟨rfl, b1⟩
    have B1 := Aside0.mk b1
    clear b1
    go_wp2_with fail
    refine (CP.out _).mono ?_
    rintro e w3 ⟨rfl, b3⟩
    have B3 := Aside0.mk (below_step B1.out b3)
    clear b3
    go_wp2_with fail
    rw [HT.out]
    exact ⟨by rw [HO.out]; rfl, B3.out⟩
  · rw [decide_eq_false (fun h => h4 h.symm)] at heq
    rw [if_neg h4] at HO
    clear h4 h3 hlt
    go_enter Try.func67, Try.ntmps67
    go_wp2_with fail
    refine (CM.out _).mono ?_
    rintro e w1 ⟨rfl, b1⟩
    have B1 := Aside0.mk b1
    clear b1
    go_wp2_with fail
    rw [HT.out]
    exact ⟨by rw [HO.out]; rfl, B1.out⟩
theorem text_neg {b r : Nat} (e1 : absF b = r) (e2 : absF r = r) (s1 : sgn b = true) (s2 : sgn r = false) : textB b = ((if (textB r).2 then 45 :: (textB r).1 else []), (textB r).2) := by
  unfold textB signed
  rw [e1, e2, s1, s2]
  generalize 9218868437227405312 = c
  generalize 4845873199050653696 = d
  by_cases c1 : r = c
  · rw [if_pos c1, if_pos c1]; rfl
  · rw [if_neg c1, if_neg c1]
    by_cases c2 : r ≤ d ∧ wordN (whole r) = r
    · rw [if_pos c2, if_pos c2]; rfl
    · rw [if_neg c2, if_neg c2]; rfl
theorem rtext_calls (b : Nat) (hb : b < 18446744073709551616) (w : World) : Calls Try.prog 67 #[.float .f64 b] w (TextTold b w) := by
  have hnan := abs_nan hb
  by_cases hn : 9218868437227405312 < absF b
  · have HO : textB b = ([], false) := by unfold textB; rw [if_neg (by omega), if_neg (by omega)]
    rw [decide_eq_false (by omega)] at hnan
    refine (rtext_nan b hnan w).mono ?_
    rintro e w1 ⟨rfl, h1⟩
    exact ⟨by rw [HO], h1⟩
  rw [decide_eq_true (by omega)] at hnan
  by_cases hs : b < 9223372036854775808
  · have : absF b = b := Nat.mod_eq_of_lt hs
    exact rtext_pos b (by omega) w
  obtain ⟨r, hbr⟩ : ∃ r, b = 9223372036854775808 + r := ⟨absF b, by unfold absF; omega⟩
  have habs : absF b = r := by unfold absF; omega
  have habs2 : absF r = r := by unfold absF; omega
  have hsg2 : sgn r = false := decide_eq_false (by omega)
  have hsg : sgn b = true := decide_eq_true (by omega)
  have CM := Aside0.mk (fun W => minus_calls b hb hnan W)
  rw [hsg] at CM
  obtain ⟨T, hT⟩ : ∃ T : Ending → World → Prop, T = TextTold b w := ⟨_, rfl⟩
  have HT := Aside0.mk hT
  rw [← hT]
  clear hT
  by_cases hz : b = 9223372036854775808
  · subst hz
    have HO := Aside0.mk (show textB 9223372036854775808 = ([45, 48], true) from by
      have e1 : whole 0 = 0 := by decide +kernel
      have e2 : wordN 0 = 0 := by decide +kernel
      have e3 : absF 9223372036854775808 = 0 := by decide +kernel
      unfold textB signed
      rw [e3, if_neg (by decide), e1, if_pos ⟨by decide, e2⟩, show Lib.decDigits 0 = [48] from dec_small (by decide), hsg]
      rfl)
    have he := e_zero
    clear habs hsg hs hn hb habs2 hsg2 hbr
    go_enter Try.func67, Try.ntmps67
    go_wp2_with fail
    refine (CM.out _).mono ?_
    rintro e w1 ⟨rfl, b1⟩
    have B1 := Aside0.mk b1
    clear b1
    go_wp2_with fail
    rw [HT.out]
    exact ⟨by rw [HO.out]; rfl, B1.out⟩
  have he : eqF b 0 = false := by
    rcases minus_facts hb hnan with ⟨h, _⟩ | ⟨h, h1⟩
    · omega
    · rcases h1 with h1 | h1
      · unfold ltF at h1
        unfold eqF
        cases hq : ord b 0 with
        | none => rfl
        | some o => rw [hq] at h1; cases o <;> first | rfl | (exact absurd h1 (by decide))
      · exact absurd h1 hz
  have hneg : negF b = r := by unfold negF; rw [neg_word hb, if_neg hs]; omega
  have CT := Aside0.mk (fun W => rtext_pos r (by omega) W)
  have HO := Aside0.mk (text_neg habs habs2 hsg hsg2)
  have HLEN := Aside0.mk (show (strOf (textB (r)).1).size ≤ 20 from by
    rw [size_list, strOf_list]
    unfold textB signed
    rw [habs2, hsg2]
    split
    · decide
    · split
      · rename_i hc
        have := nDigits_M (n := whole (r)) (by have := whole_53 hc.1; omega)
        show (Lib.decDigits _).length ≤ 20
        rw [Go.Lib.decDigits_length]
        omega
      · exact Nat.zero_le _)
  unfold TextTold at CT
  generalize textB (r) = tb at CT HO HLEN
  obtain ⟨dd, ok⟩ := tb
  have hcat := cat_sign dd
  have hlen := HLEN.out
  clear habs hsg hs hn hb hz HLEN habs2 hsg2 hbr
  dsimp only at CT HO hlen
  cases ok with
  | false =>
    have HCAT := Aside0.mk hcat
    clear hcat hlen
    go_enter Try.func67, Try.ntmps67
    go_wp2_with fail
    refine (CM.out _).mono ?_
    rintro e w1 ⟨rfl, b1⟩
    have B1 := Aside0.mk b1
    clear b1
    go_wp2_with fail
    refine (CT.out _).mono ?_
    rintro e w2 ⟨rfl, b2⟩
    have B2 := Aside0.mk (below_step B1.out b2)
    clear b2
    go_wp2_with fail
    rw [HT.out]
    exact ⟨by rw [HO.out]; rfl, B2.out⟩
  | true =>
    have HCAT := Aside0.mk hcat
    clear hcat
    go_enter Try.func67, Try.ntmps67
    go_wp2_with fail
    refine (CM.out _).mono ?_
    rintro e w1 ⟨rfl, b1⟩
    have B1 := Aside0.mk b1
    clear b1
    go_wp2_with fail
    refine (CT.out _).mono ?_
    rintro e w2 ⟨rfl, b2⟩
    have B2 := Aside0.mk (below_step B1.out b2)
    clear b2
    go_wp2_with fail
    rw [HT.out]
    exact ⟨by rw [HO.out]; simp only [if_true]; rw [← HCAT.out]; rfl, B2.out⟩
end Go.Proofs.Ytppmcbkcohiodaa.Fl
