/- Texts of this claim, put together (wip/pack.py): RefRegs5, RefReals, RefRealsMore, SpanCovers. -/
import Derived.Test.YtppmcbkcohiodaaK11
import Derived.Test.YtppmcbkcohiodaaK9
import Derived.Deep.RegionHeld3
import Derived.Test.YtppmcbkcohiodaaK0
import Derived.Test.YtppmcbkcohiodaaK6
namespace Go.Proofs.Ytppmcbkcohiodaa.Fl
open Go Go.RowKit Go.Proofs.YtppmcbkcohiodaaW.PrintWords Go.Proofs.Ytppmcbkcohiodaa.Base Go.Proofs.Ytppmcbkcohiodaa.Dbl
set_option maxHeartbeats 8000000
set_option maxRecDepth 100000
def gtF (a b : Nat) : Bool := ord a b == some .gt
def geF (a b : Nat) : Bool := ord a b == some .gt || ord a b == some .eq
theorem f_gtr (t : TypeId) (a b : Nat) : binOp .gtr t (.float .f64 a) (.float .f64 b) = pure (.bool (gtF a b)) := binOp_float_cmp_gtr t .f64 a b
theorem f_geq (t : TypeId) (a b : Nat) : binOp .geq t (.float .f64 a) (.float .f64 b) = pure (.bool (geF a b)) := binOp_float_cmp_geq t .f64 a b
theorem gt_zero {r : Nat} (h0 : 0 < r) (h : r < 9218868437227405312) : gtF r 0 = true := by
  unfold gtF
  rw [ord_rung h (by omega), cmp_gt]
  exact decide_eq_true (val_lt h0)
theorem gt_none : gtF 0 0 = false := by decide +kernel
theorem gt_inf : gtF 9218868437227405312 0 = true := by decide +kernel
theorem eq_inf : eqF 9218868437227405312 9218868437227405312 = true := by decide +kernel
theorem half_inf (t : TypeId) (P : Program) (w : World) : (binOp .quo t (.float .f64 9218868437227405312) (.float .f64 4611686018427387904)).run P w = .ok (.float .f64 9218868437227405312) w :=
  run_float_arith w .quo t .f64 _ _ _ (by decide +kernel)
theorem V_succ (m : Nat) (e : Int) (he : -1074 ≤ e) : V m (e + 1) = 2 * V m e := by
  unfold V
  rw [show (e + 1 + 1074).toNat = (e + 1074).toNat + 1 from by omega, Nat.pow_succ]
  rw [← Nat.mul_assoc, Nat.mul_comm]
theorem half_ne {r : Nat} (h0 : 0 < r) (h : r < 9218868437227405312) : ∃ b, Ieee.double.div r 4611686018427387904 = some b ∧ eqF b r = false := by
  by_cases hs : r < 9007199254740992
  · obtain ⟨b, h1, h2, h3⟩ := half_small r h0 hs
    refine ⟨b, h1, ?_⟩
    rw [eq_rung (by omega) h]
    exact decide_eq_false h3
  · have hp : -1073 ≤ plR r := by unfold plR; rw [if_neg (by omega)]; omega
    have hm : 0 < magR r := by unfold magR; rw [if_neg (by omega)]; omega
    have hd := div_two (magR r) (plR r) (magR_lt r) hp (plR_le h)
    rw [W_rung r h] at hd
    refine ⟨_, hd, ?_⟩
    have hl := plR_le h
    have ho := order_W (magR r) (magR r) (plR r - 1) (plR r) (magR_lt r) (magR_lt r) (by omega) (by omega) (by omega) hl
    rw [W_rung r h] at ho
    show (Ieee.double.order _ r == some .eq) = false
    rw [ho, cmp_eq]
    have hv := V_succ (magR r) (plR r - 1) (by omega)
    rw [show plR r - 1 + 1 = plR r from by omega] at hv
    have : 0 < V (magR r) (plR r - 1) := Nat.mul_pos hm (Nat.two_pow_pos _)
    exact decide_eq_false (by omega)
theorem big_of (r : Nat) (h : 0 ≤ plR r) : 4503599627370496 ≤ magR r := by
  unfold magR
  split
  · rename_i h1
    have : plR r = -1074 := if_pos h1
    omega
  · omega
theorem c52 : W 4503599627370496 0 = 4841369599423283200 := by decide +kernel
theorem c53 : W 4503599627370496 1 = 4845873199050653696 := by decide +kernel
theorem V_le {m n : Nat} {e f : Int} (he : -1074 ≤ e) (hf : e ≤ f) (h : m ≤ n * 2 ^ (f - e).toNat) : V m e ≤ V n f := by
  unfold V
  rw [show (f + 1074).toNat = (f - e).toNat + (e + 1074).toNat from by omega, Nat.pow_add, ← Nat.mul_assoc]
  exact Nat.mul_le_mul_right _ h
theorem V_lt {m n : Nat} {e f : Int} (he : -1074 ≤ e) (hf : e ≤ f) (h : m < n * 2 ^ (f - e).toNat) : V m e < V n f := by
  unfold V
  rw [show (f + 1074).toNat = (f - e).toNat + (e + 1074).toNat from by omega, Nat.pow_add, ← Nat.mul_assoc]
  exact (Nat.mul_lt_mul_right (Nat.two_pow_pos _)).2 h
theorem eq0_W {m : Nat} {e : Int} (h0 : 0 < m) (h : m < 9007199254740992) (he : -1074 ≤ e) (he2 : e ≤ 971) : eqF (W m e) 0 = false := by
  have ho := order_W m 0 e 0 h (by omega) he he2 (by omega) (by omega)
  rw [W_zero] at ho
  show (Ieee.double.order (W m e) 0 == some .eq) = false
  rw [ho, cmp_eq]
  have : 0 < V m e := Nat.mul_pos h0 (Nat.two_pow_pos _)
  have h2 : V 0 0 = 0 := Nat.zero_mul _
  exact decide_eq_false (by omega)
theorem lt52 {m : Nat} {e : Int} (h : m < 9007199254740992) (he : -1074 ≤ e) (he2 : e ≤ 971) : ltF (W m e) 4841369599423283200 = decide (V m e < V 4503599627370496 0) := by
  have ho := order_W m 4503599627370496 e 0 h (by omega) he he2 (by omega) (by omega)
  rw [c52] at ho
  show (Ieee.double.order (W m e) _ == some .lt) = _
  rw [ho, cmp_lt]
theorem lt52_yes {m : Nat} {e : Int} (h : m < 9007199254740992) (he : -1074 ≤ e) (he2 : e < 0) : ltF (W m e) 4841369599423283200 = true := by
  rw [lt52 h he (by omega)]
  refine decide_eq_true (V_lt he (by omega) ?_)
  have h1 : 2 ^ 1 ≤ 2 ^ (0 - e).toNat := Nat.pow_le_pow_right (by decide) (by omega)
  omega
theorem lt52_zero {m : Nat} (h : m < 9007199254740992) : ltF (W m 0) 4841369599423283200 = decide (m < 4503599627370496) := by
  rw [lt52 h (by omega) (by omega)]
  congr 1
  apply propext
  unfold V
  exact Nat.mul_lt_mul_right (Nat.two_pow_pos _)
theorem lt52_no {m : Nat} {e : Int} (h1 : 4503599627370496 ≤ m) (h : m < 9007199254740992) (he : 0 ≤ e) (he2 : e ≤ 971) : ltF (W m e) 4841369599423283200 = false := by
  rw [lt52 h (by omega) he2]
  refine decide_eq_false (Nat.not_lt.2 (V_le (by omega) he ?_))
  exact Nat.le_trans h1 (Nat.le_mul_of_pos_right _ (Nat.two_pow_pos _))
theorem ge_cmp (a b : Nat) : (some (compare a b) == some Ordering.gt || some (compare a b) == some Ordering.eq) = decide (b ≤ a) := by
  rw [cmp_gt, cmp_eq]
  by_cases h : b < a
  · simp [h]; omega
  · by_cases h2 : a = b
    · subst h2; simp
    · simp [h, h2]; omega
theorem ge53 {m : Nat} {e : Int} (h : m < 9007199254740992) (he : -1074 ≤ e) (he2 : e ≤ 971) : geF (W m e) 4845873199050653696 = decide (V 4503599627370496 1 ≤ V m e) := by
  have ho := order_W m 4503599627370496 e 1 h (by omega) he he2 (by omega) (by omega)
  rw [c53] at ho
  show (Ieee.double.order (W m e) _ == some .gt || Ieee.double.order (W m e) _ == some .eq) = _
  rw [ho, ge_cmp]
theorem ge53_yes {m : Nat} {e : Int} (h1 : 4503599627370496 ≤ m) (h : m < 9007199254740992) (he : 1 ≤ e) (he2 : e ≤ 971) : geF (W m e) 4845873199050653696 = true := by
  rw [ge53 h (by omega) he2]
  exact decide_eq_true (V_le (by omega) he (Nat.le_trans h1 (Nat.le_mul_of_pos_right _ (Nat.two_pow_pos _))))
theorem ge53_no {m : Nat} {e : Int} (h : m < 9007199254740992) (he : -1074 ≤ e) (he2 : e ≤ 0) : geF (W m e) 4845873199050653696 = false := by
  rw [ge53 h he (by omega)]
  refine decide_eq_false (Nat.not_le.2 (V_lt he (by omega) ?_))
  have h1 : 2 ^ 1 ≤ 2 ^ (1 - e).toNat := Nat.pow_le_pow_right (by decide) (by omega)
  omega
theorem int_W {m : Nat} (h : m < 9007199254740992) : floatToIntVal .f64 (W m 0) .i64 = some (m : Int) := by
  have hd : (Ieee.double.read (W m 0)).toInt .zero = some (m : Int) := by
    by_cases h0 : m = 0
    · subst h0; rw [W_zero]; decide +kernel
    rw [read_W m 0 (by omega) h (by omega) (by omega)]
    unfold Ieee.Datum.toInt Ieee.Datum.integral
    simp only
    have e1 : ((0 : Int) - (gapN m 0 : Int)).toNat = 0 := by omega
    have e2 : (-((0 : Int) - (gapN m 0 : Int))).toNat = gapN m 0 := by omega
    rw [e1, e2, Nat.shiftLeft_zero, cut_exact m _ _ _ (by omega)]
    simp [Ieee.signed]
  unfold floatToIntVal
  show (match (Ieee.double.read (W m 0)).toInt .zero with | some n => if IntKind.i64.min ≤ n ∧ n ≤ IntKind.i64.max then some n else none | none => none) = some (m : Int)
  rw [hd]
  have h1 : IntKind.i64.min ≤ (m : Int) ∧ (m : Int) ≤ IntKind.i64.max := by
    constructor
    · show (-9223372036854775808 : Int) ≤ m; omega
    · show (m : Int) ≤ 9223372036854775807; omega
  exact if_pos h1
attribute [-go_sem] binOp_float_cmp_eql binOp_float_cmp_neq binOp_float_cmp_lss binOp_float_cmp_leq binOp_float_cmp_gtr binOp_float_cmp_geq
attribute [local go_sem] f_eql f_neq f_lss f_leq f_gtr f_geq frombits_run neg_run gt_none gt_inf eq_inf half_inf eq_zero lt_zero

end Go.Proofs.Ytppmcbkcohiodaa.Fl
namespace Go.Proofs.Ytppmcbkcohiodaa.Range
open Go Go.RowKit Go.Proofs.YtppmcbkcohiodaaW.PrintWords Go.Proofs.Ytppmcbkcohiodaa.Fl Go.Proofs.Ytppmcbkcohiodaa.Base Go.Proofs.Ytppmcbkcohiodaa.Dbl Go.Proofs.YtppmcbkcohiodaaW.PrintLast
set_option maxHeartbeats 8000000
set_option maxRecDepth 100000
set_option linter.unusedVariables false
set_option linter.unusedSimpArgs false
theorem ofF_lt (l : List Int) : (ofF l).1 < 18446744073709551616 := by
  by_cases h : l.length ≠ 4 ∨ ∃ n ∈ l, ¬ In n
  · rw [ofF_out h]; decide
  · have h4 : l.length = 4 := Classical.byContradiction fun e => h (.inl e)
    have hin : ∀ n ∈ l, In n := fun n hn => Classical.byContradiction fun e => h (.inr ⟨n, hn, e⟩)
    obtain ⟨a, b, c, d, rfl⟩ : ∃ a b c d, l = [a, b, c, d] := by
      match l, h4 with
      | [a, b, c, d], _ => exact ⟨a, b, c, d, rfl⟩
    have ha := hin a (by simp)
    have hb := hin b (by simp)
    have hc := hin c (by simp)
    have hd := hin d (by simp)
    rw [ofF_in ha hb hc hd]
    unfold In at ha hb hc hd
    show word4 a b c d < 18446744073709551616
    unfold word4
    omega
theorem same_self (a : Nat) : sameF a a = true := by
  unfold sameF
  cases eqF a a <;> simp
/-- Rows of floats. -/
abbrev kf : Kd Nat := Kd.scalar (Value.float .f64) (fun _ => rfl)
theorem at_f {w : World} {A : Option Addr} {n : Nat} {xs : List Nat} (h : Kd.C kf w A n xs) (i : Int) (h0 : 0 ≤ i) (h1 : i < n) : ∃ ad, A = some ad ∧ w.cell? (ad.add i.toNat) = some (.float .f64 (rdOf 0 xs i)) :=
  ReadsOf.at_ (Kd.reads_of_C (enc := Value.float .f64) (d := (0 : Nat)) (h1 := fun _ => rfl) h) i h0 h1
end Go.Proofs.Ytppmcbkcohiodaa.Range
namespace Go.Proofs.Ytppmcbkcohiodaa.Range
open Go Go.RowKit Go.Proofs.YtppmcbkcohiodaaW.PrintWords Go.Proofs.Ytppmcbkcohiodaa.Fl Go.Proofs.Ytppmcbkcohiodaa.Base Go.Proofs.Ytppmcbkcohiodaa.Dbl
set_option maxHeartbeats 8000000
set_option maxRecDepth 100000
set_option linter.unusedVariables false
theorem infoI : (Try.prog.info? 3).map (fun i => (i.zero, i.size, i.bytes)) = some (some (.int .i64 0), 1, 8) := by kernel_rfl
theorem chunk_mid (l : List Int) (k : Nat) (i : Int) (hi : i = ((4 * k : Nat) : Int)) : (l.take (i + 4).toNat).drop i.toNat = chunk l k := by
  subst hi
  rw [show (((4 * k : Nat) : Int) + 4).toNat = 4 * k + 4 from by omega, Int.toNat_natCast]
  unfold chunk
  rw [List.drop_take, show 4 * k + 4 - 4 * k = 4 from by omega]
theorem own_below {w w' : World} {base : Nat} {e : TypeId} {size n : Nat} {v : Value} {xs : List Value} (h : w.ownsRow base e size v n xs) (hb : Below w.heap.size w w') : w'.ownsRow base e size v n xs :=
  h.kept (row := none) ⟨hb.os, hb.tape, hb.output, hb.size, fun k hk _ => hb.block k hk⟩ (by cases hv : v.ownBlock <;> simp)
/-- The floats ys are those of l's first k fours. -/
def Same4 (l : List Int) (k : Nat) (ys : List Nat) : Prop := ys.length = k ∧ ∀ j : Nat, j < k → sameF (ofF (chunk l j)).1 (rdOf 0 ys (j : Int)) = true ∧ rdOf 0 ys (j : Int) < 18446744073709551616
theorem Same4.snoc {l : List Int} {k : Nat} {ys : List Nat} {y : Nat} (h : Same4 l k ys) (hs : sameF (ofF (chunk l k)).1 y = true) (hy : y < 18446744073709551616) : Same4 l (k + 1) (ys ++ [y]) := by
  refine ⟨by rw [List.length_append, h.1]; rfl, fun j hj => ?_⟩
  by_cases e : j = k
  · subst e
    have : rdOf 0 (ys ++ [y]) (j : Int) = y := by simp [rdOf, h.1]
    rw [this]; exact ⟨hs, hy⟩
  · have hj' : j < k := by omega
    have : rdOf 0 (ys ++ [y]) (j : Int) = rdOf 0 ys (j : Int) := by
      simp [rdOf, List.getElem?_append_left (show j < ys.length by rw [h.1]; exact hj')]
    rw [this]; exact h.2 j hj'
def RRTold (n0 : Nat) (w : World) (l : List Int) (e : Ending) (w' : World) : Prop :=
  ((realsB l ∧ ∃ v ys, e = .returned (.tuple #[v, .bool true]) ∧ w'.ownsRow n0 23 1 v ys.length (encs (Value.float .f64) ys) ∧ Same4 l (l.length / 4) ys) ∨ (¬ realsB l ∧ e = .returned (.tuple #[.slice none 0 0, .bool false]))) ∧ Below n0 w w'
theorem rreals_calls (A0 : Option Addr) (c0 : Nat) (l : List Int) (w : World) (hr0 : Kd.C (Kd.int .i64) w A0 l.length l) (hc0 : l.length ≤ c0) (hl : l.length ≤ 4000) :
    Calls Try.prog 62 #[.slice A0 l.length c0] w (RRTold w.heap.size w l) := by
  obtain ⟨iI, hiI, hzI, hsI, _⟩ := info_parts infoI
  have HR0 := Aside0.mk hr0
  obtain ⟨T, hT⟩ : ∃ T, T = RRTold w.heap.size w l := ⟨_, rfl⟩
  have HT := Aside0.mk hT
  rw [← hT]
  clear hr0 hT
  by_cases h4 : l.length % 4 = 0
  · go_enter Try.func62, Try.ntmps62
    have h4z : (l.length : Int).tmod 4 = 0 := by rw [Int.tmod_eq_emod_of_nonneg (by omega)]; omega
    have h4y : (l.length : Int) % 4 = 0 := by omega
    go_wp2
    go_loopg [4, 5] (l.length / 4) (fun gg s4 s5 wr => ∃ (kk : Nat) (v : Value) (ys : List Nat), kk ≤ l.length / 4 ∧ l.length / 4 - kk ≤ gg ∧ s4 = v ∧ s5 = .int .i64 ((4 * kk : Nat) : Int) ∧ Aside0 (wr.ownsRow w.heap.size 23 1 v ys.length (encs (Value.float .f64) ys)) ∧ Aside0 (Same4 l kk ys) ∧ Aside0 (okUpto l kk) ∧ Aside0 (Below w.heap.size w wr))
    case atStart => exact ⟨0, _, [], Nat.zero_le _, by omega, rfl, rfl, ⟨World.ownsRow_nil _ _ _ _⟩, ⟨rfl, fun j hj => absurd hj (Nat.not_lt_zero _)⟩, ⟨fun j hj => absurd hj (Nat.not_lt_zero _)⟩, ⟨Below.refl _ _⟩⟩
    case round =>
      obtain ⟨kk, v, ys, hkk, hg, rfl, rfl, HO, HS, HK, D⟩ := hrel
      obtain ⟨i, hi⟩ : ∃ i : Int, i = ((4 * kk : Nat) : Int) := ⟨_, rfl⟩
      rw [← hi]
      by_cases hlt : kk < l.length / 4
      · have hltz : i < (l.length : Int) := by omega
        have hw4 : IntKind.i64.wrap (i + 4) = i + 4 := by rw [IntKind.wrap_i64]; omega
        have hw4' : wrap64 (i + 4) = i + 4 := w64 (by omega) (by omega)
        obtain ⟨ad, hA, _⟩ := HR0.out.2.2 (by omega)
        subst hA
        have hC : Kd.C (Kd.int .i64) wr (some (ad.add (4 * kk))) (chunk l kk).length (chunk l kk) := chunk_C (Kd.C_below HR0.out D.out) kk (by omega)
        have hof := rof_calls (some (ad.add (4 * kk))) (c0 - 4 * kk) (chunk l kk) wr hC
        rw [chunk_length l kk (by omega)] at hof
        have HOF := Aside0.mk hof
        clear hof hC
        go_wp2_with fail
        refine HOF.out.mono ?_
        rintro e w2 ⟨⟨y, rfl, hy⟩, hb⟩
        have D2 := Aside0.mk (below_step D.out hb)
        have HY := Aside0.mk hy
        have HO2 := Aside0.mk (own_below HO.out hb)
        clear hb hy HO D HOF
        cases hx : (ofF (chunk l kk)).2 with
        | false =>
          go_wp2_with fail
          rw [HT.out]
          refine ⟨.inr ⟨fun h => ?_, rfl⟩, D2.out⟩
          have := h.2 kk hlt
          rw [hx] at this
          cases this
        | true =>
          have HY2 := Aside0.mk (show sameF (ofF (chunk l kk)).1 y = true ∧ y < 18446744073709551616 by
            rcases HY.out with rfl | ⟨h, h'⟩
            · exact ⟨same_self _, ofF_lt _⟩
            · exact ⟨by unfold sameF; rw [h.1, h']; rfl, h.2⟩)
          go_wp2_with ((with_reducible refine gate_builtin (b := .append) (xs := #[.tmp 29, .tmp 31]) rfl ?_); at_builtin; refine print_append_of (w0 := w) (Value.float .f64) w.heap.size rfl (.tmp 29) (.tmp 31) 76 23 (.float .f64 0) 8 rfl Try.underlying76 infoF rfl (by omega) _ ys y rfl rfl rfl HO2.out D2.out D2.out.size (by have := HS.out.1; omega) ?_; intro v3 w3 ho hb _ _; have HO3 := Aside0.mk ho; have D3 := Aside0.mk hb; clear ho hb)
          go_roundg (l.length / 4 - (kk + 1))
          case measure => omega
          case rel => exact ⟨kk + 1, _, ys ++ [y], by omega, by omega, rfl, by go_num, ⟨HO3.out⟩, ⟨HS.out.snoc HY2.out.1 HY2.out.2⟩, ⟨okUpto_succ HK.out hx⟩, ⟨D3.out⟩⟩
      · have hltz : ¬ i < (l.length : Int) := by omega
        go_wp2
        rw [HT.out]
        obtain rfl : kk = l.length / 4 := by omega
        exact ⟨.inl ⟨⟨h4, HK.out⟩, _, ys, rfl, HO.out, HS.out⟩, D.out⟩
  · go_enter Try.func62, Try.ntmps62
    have h4z : ¬ (l.length : Int).tmod 4 = 0 := by rw [Int.tmod_eq_emod_of_nonneg (by omega)]; omega
    have h4y : ¬ (l.length : Int) % 4 = 0 := by omega
    go_wp2
    rw [HT.out]
    exact ⟨.inr ⟨fun h => h4 h.1, rfl⟩, Below.refl _ _⟩
end Go.Proofs.Ytppmcbkcohiodaa.Range
namespace Go.Proofs.Ytppmcbkcohiodaa.PMeanTells
open Go Go.RowKit Go.Proofs.YtppmcbkcohiodaaW.PrintWords Go.Proofs.YtppmcbkcohiodaaW.PrintLast Go.Proofs.Ytppmcbkcohiodaa.Spans Go.Proofs.Ytppmcbkcohiodaa.Base
set_option maxHeartbeats 2000000
set_option maxRecDepth 100000
set_option linter.unusedVariables false
set_option linter.unusedSimpArgs false
/-- All of a range's numbers are there. -/
def AllIn (l : List R) (r : R) : Prop := ∀ n, r.f0 ≤ n → n ≤ r.f1 → hasB l n = true
theorem predC (r : R) (rb : Nat) (w : World) (h : w.heap[rb]? = some (.cells #[.int .i64 r.f0, .int .i64 r.f1] 55 (0, 0))) :
    PredR 72 #[.pointer (some ⟨rb, 0, none⟩)] (fun x => decide (x.f0 ≤ r.f0) && decide (r.f1 ≤ x.f1)) w := by
  intro W x hb
  have KW := blk_below h hb
  have k0 : W.cell? ⟨rb, 0, none⟩ = some (.int .i64 r.f0) := blk_cell KW 0
  have k1 : W.cell? ⟨rb, 1, none⟩ = some (.int .i64 r.f1) := blk_cell KW 1
  have hlt := blk_lt KW
  have hne : rb ≠ W.heap.size := by omega
  obtain ⟨a, b⟩ := x
  obtain ⟨c, d⟩ := r
  simp only at k0 k1 ⊢
  clear hb h KW
  show Calls Try.prog 72 #[.agg #[.int .i64 a, .int .i64 b], .pointer (some ⟨rb, 0, none⟩)] W _
  have HB : Aside0 (Below W.heap.size W (W.alloc (.cells #[.int .i64 a, .int .i64 b] 55))) := ⟨below_alloc (Below.refl _ _) _⟩
  by_cases h1 : a ≤ c
  · have e1 : decide (a ≤ c) = true := decide_eq_true h1
    by_cases h2 : d ≤ b
    · have e2 : decide (d ≤ b) = true := decide_eq_true h2
      go_enter Try.func72, Try.ntmps72
      go_wp2
      go_ret
      exact ⟨by rw [e1, e2]; rfl, HB.out⟩
    · have e2 : decide (d ≤ b) = false := decide_eq_false h2
      go_enter Try.func72, Try.ntmps72
      go_wp2
      go_ret
      exact ⟨rfl, HB.out⟩
  · have e1 : decide (a ≤ c) = false := decide_eq_false h1
    go_enter Try.func72, Try.ntmps72
    go_wp2
    go_ret
    exact ⟨rfl, HB.out⟩
def CovTold (w : World) (l : List R) (r : R) (e : Ending) (w' : World) : Prop := ∃ b : Bool, e = .returned (.bool b) ∧ (b = true ↔ AllIn l r) ∧ Below w.heap.size w w'
theorem span_Covers_calls (A0 : Option Addr) (c0 : Nat) (l0 : List R) (r : R) (w : World) (hr0 : Kd.C k55 w A0 l0.length l0) (hm : l0.length ≤ 1000000) (hf : Fit l0) :
    Calls Try.prog 52 #[.slice A0 l0.length c0, .agg #[.int .i64 r.f0, .int .i64 r.f1]] w (CovTold w l0 r) := by
  have eg : ∀ args w, (callFunc 72 args).run Try.prog w = .ok (.enter 72 args) w := fun args w => enters_ Try.func72 (by kernel_rfl) rfl args w
  have EG := Aside0.mk eg
  clear eg
  have HN := Aside0.mk (blk_new w (.cells #[.int .i64 r.f0, .int .i64 r.f1] 55))
  have HA := Aside0.mk (below_alloc (Below.refl w.heap.size w) (.cells #[.int .i64 r.f0, .int .i64 r.f1] 55))
  have HC := Aside0.mk (Kd.C_below hr0 (below_alloc (Below.refl _ w) (.cells #[.int .i64 r.f0, .int .i64 r.f1] 55)))
  have HF := Aside0.mk hf
  obtain ⟨T, hT⟩ : ∃ T, T = CovTold w l0 r := ⟨_, rfl⟩
  have HT := Aside0.mk hT
  rw [← hT]
  clear hT hr0 hf
  obtain ⟨a, b⟩ := r
  simp only at HN HA HC ⊢
  by_cases h1 : a > b
  · have e1 : decide (a > b) = true := decide_eq_true h1
    go_enter Try.func52, Try.ntmps52
    go_wp2_with fail
    rw [HT.out]
    exact ⟨true, rfl, ⟨fun _ n h2 h3 => by simp only at h2 h3; omega, fun _ => rfl⟩, HA.out⟩
  · have e1 : decide (a > b) = false := decide_eq_false h1
    go_enter Try.func52, Try.ntmps52
    go_wp2_with fail
    refine (span_Norm_calls A0 c0 l0 _ HC.out hm HF.out).mono ?_
    rintro e w2 ⟨v, out, rfl, hR, hN, hb⟩
    obtain ⟨A, c, rfl, _, hC⟩ := Kd.R_reads hR
    have HB := Aside0.mk (below_step HA.out hb)
    have HN2 := Aside0.mk (blk_below HN.out hb)
    have HCO := Aside0.mk hC
    have HNO := Aside0.mk hN
    have HL := Aside0.mk (show out.length ≤ 1099511627776 by have := hN.len; omega)
    clear hR hb hC hN HN HA HC
    go_wp2_with fail
    refine (ContainsFuncR A c out 72 _ _ _ HCO.out HL.out EG.out (predC ⟨a, b⟩ w.heap.size _ HN2.out)).mono ?_
    rintro e w3 ⟨rfl, hb⟩
    have HB3 := Aside0.mk (below_step HB.out hb)
    clear hb
    obtain ⟨bb, hbb⟩ : ∃ bb, bb = out.any fun x => decide (x.f0 ≤ (⟨a, b⟩ : R).f0) && decide ((⟨a, b⟩ : R).f1 ≤ x.f1) := ⟨_, rfl⟩
    rw [← hbb]
    have HBB := Aside0.mk hbb
    clear hbb
    go_wp2_with fail
    rw [HT.out]
    refine ⟨bb, rfl, ?_, HB3.out⟩
    rw [HBB.out]
    have h := covers_iff HNO.out.rt (r := ⟨a, b⟩) (by simp only; omega)
    unfold coversB at h
    rw [h]
    exact ⟨fun h n h2 h3 => by rw [← HNO.out.has]; exact h n h2 h3, fun h n h2 h3 => by rw [HNO.out.has]; exact h n h2 h3⟩
end Go.Proofs.Ytppmcbkcohiodaa.PMeanTells
