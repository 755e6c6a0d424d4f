/- Texts of this claim, put together (wip/pack.py): FloatOrder, OfPure5, RealRef5, RefOf5. -/
import Derived.Test.YtppmcbkcohiodaaK3
import Derived.Test.YtppmcbkcohiodaaK10
import Derived.Test.YtppmcbkcohiodaaK4
namespace Go.Proofs.Ytppmcbkcohiodaa.Fl
open Go Go.RowKit Ieee

theorem order_swap (d e : Datum) : e.order d = (d.order e).map Ordering.swap := by
  cases d with
  | nan _ _ => cases e <;> rfl
  | infinity s =>
    cases e with
    | nan _ _ => rfl
    | infinity t =>
      show some (compare s.toNat t.toNat) = some (compare t.toNat s.toNat).swap
      rw [Std.OrientedCmp.eq_swap (cmp := compare) (a := s.toNat)]
    | number t n j => cases s <;> rfl
  | number s m i =>
    cases e with
    | nan _ _ => rfl
    | infinity t => cases t <;> rfl
    | number t n j =>
      show some (compare (signed t n (j - min j i).toNat) (signed s m (i - min j i).toNat)) = some (compare (signed s m (i - min i j).toNat) (signed t n (j - min i j).toNat)).swap
      rw [Int.min_comm j i, Std.OrientedCmp.eq_swap (cmp := compare) (a := signed t n (j - min i j).toNat)]
theorem order_self (d : Datum) : d.order d = none ∨ d.order d = some .eq := by
  cases d with
  | nan _ _ => exact .inl rfl
  | infinity s => exact .inr (congrArg some (Std.ReflCmp.compare_self (cmp := compare) (a := s.toNat)))
  | number s m i => exact .inr (congrArg some (Std.ReflCmp.compare_self (cmp := compare) (a := signed s m (i - min i i).toNat)))
theorem order_none (d e : Datum) (h : d.order d = none) : d.order e = none := by
  cases d <;> cases e <;> simp_all [Datum.order]
theorem order_some (d e : Datum) (h1 : d.order d = some .eq) (h2 : e.order e = some .eq) : ∃ o, d.order e = some o := by
  cases d <;> cases e <;> simp_all [Datum.order]
theorem ord_swap (a b : Nat) : ord b a = (ord a b).map Ordering.swap := order_swap _ _
theorem ord_nan {a : Nat} (h : eqF a a = false) (b : Nat) : ord a b = none ∧ ord b a = none := by
  have h1 : ord a a = none := by
    rcases order_self (FloatKind.f64.format.read a) with e | e
    · exact e
    · have : ord a a = some .eq := e
      unfold eqF at h; rw [this] at h; cases h
  have h2 : ord a b = none := order_none _ _ h1
  exact ⟨h2, by rw [ord_swap a b, h2]; rfl⟩
theorem ord_two {a b : Nat} (ha : eqF a a = true) (hb : eqF b b = true) : ∃ o, ord a b = some o ∧ ord b a = some o.swap := by
  have h1 : ord a a = some .eq := eq_of_beq ha
  have h2 : ord b b = some .eq := eq_of_beq hb
  obtain ⟨o, ho⟩ := order_some _ _ h1 h2
  have ho : ord a b = some o := ho
  exact ⟨o, ho, by rw [ord_swap a b, ho]; rfl⟩
theorem leF_self {a : Nat} (h : eqF a a = true) : leF a a = true := by
  have h1 : ord a a = some .eq := eq_of_beq h
  unfold leF; rw [h1]; rfl
theorem le_nan {a : Nat} (h : eqF a a = false) (b : Nat) : leF a b = false ∧ leF b a = false ∧ ltF a b = false ∧ ltF b a = false ∧ eqF a b = false ∧ eqF b a = false := by
  obtain ⟨h1, h2⟩ := ord_nan h b
  unfold leF ltF eqF
  rw [h1, h2]
  exact ⟨rfl, rfl, rfl, rfl, rfl, rfl⟩
theorem lt_two {a b : Nat} (h : ltF a b = true) : leF a b = true ∧ leF b a = false ∧ eqF a a = true ∧ eqF b b = true := by
  have h1 : ord a b = some .lt := eq_of_beq h
  refine ⟨by unfold leF; rw [h1]; rfl, by unfold leF; rw [ord_swap a b, h1]; rfl, ?_, ?_⟩
  · cases e : eqF a a
    · rw [(ord_nan e b).1] at h1; cases h1
    · rfl
  · cases e : eqF b b
    · rw [(ord_nan e a).2] at h1; cases h1
    · rfl
end Go.Proofs.Ytppmcbkcohiodaa.Fl
namespace Go.Proofs.Ytppmcbkcohiodaa.Fl
open Go Go.RowKit Go.Proofs.YtppmcbkcohiodaaW.PrintWords Go.Proofs.Ytppmcbkcohiodaa.Base Go.Proofs.Ytppmcbkcohiodaa.Dbl

theorem more_eq {b n : Int} (h0 : 0 ≤ b) (h1 : b < 281474976710656) (h2 : 0 ≤ n) (h3 : n ≤ 65535) : more b n = b * 65536 + n := by
  unfold more
  rw [u64w (by omega) (by omega)]
  obtain ⟨B, rfl⟩ : ∃ B : Nat, b = B := ⟨b.toNat, by omega⟩
  obtain ⟨m, rfl⟩ : ∃ m : Nat, n = m := ⟨n.toNat, by omega⟩
  have key : B * 65536 ||| m = B * 65536 + m := by
    have := Nat.shiftLeft_add_eq_or_of_lt (i := 16) (b := m) (by omega) B
    rw [Nat.shiftLeft_eq, show (2 : Nat) ^ 16 = 65536 from rfl] at this
    exact this.symm
  have hx : (BitVec.ofInt 64 ((B : Int) * 65536)).toNat = B * 65536 := by
    rw [BitVec.toNat_ofInt]; omega
  have hy : (BitVec.ofInt 64 (m : Int)).toNat = m := by
    rw [BitVec.toNat_ofInt]; omega
  show IntKind.u64.wrap (((BitVec.ofInt 64 ((B : Int) * 65536)) ||| (BitVec.ofInt 64 (m : Int))).toNat : Int) = _
  rw [BitVec.toNat_or, hx, hy, key, u64w (by omega) (by omega)]
  omega
/-- Four numbers that may be. -/
def In (n : Int) : Prop := 0 ≤ n ∧ n ≤ 65535
/-- The four numbers' word. -/
def word4 (a b c d : Int) : Nat := (((a * 65536 + b) * 65536 + c) * 65536 + d).toNat
theorem ofF_in {a b c d : Int} (ha : In a) (hb : In b) (hc : In c) (hd : In d) : ofF [a, b, c, d] = (word4 a b c d, true) := by
  unfold In at *
  unfold ofF word4
  rw [if_pos (show [a, b, c, d].length = 4 from rfl)]
  simp only [ofL]
  rw [if_neg (by omega), if_neg (by omega), if_neg (by omega), if_neg (by omega), more_eq (b := 0) (by omega) (by omega) ha.1 ha.2,
    more_eq (by omega) (by omega) hb.1 hb.2, more_eq (by omega) (by omega) hc.1 hc.2, more_eq (by omega) (by omega) hd.1 hd.2]
  simp
theorem ofL_out (l : List Int) (b : Int) (h : ∃ n ∈ l, ¬ In n) : ofL l b = (0, false) := by
  unfold In at h
  induction l generalizing b with
  | nil => obtain ⟨n, hn, _⟩ := h; cases hn
  | cons x t ih =>
    simp only [ofL]
    split
    · rfl
    · obtain ⟨n, hn, hnn⟩ := h
      rcases List.mem_cons.1 hn with rfl | hn
      · omega
      · exact ih _ ⟨n, hn, hnn⟩
theorem ofF_out {l : List Int} (h : l.length ≠ 4 ∨ ∃ n ∈ l, ¬ In n) : ofF l = (0, false) := by
  unfold ofF
  split
  · rename_i h4
    rcases h with h | h
    · exact absurd h4 h
    · exact ofL_out l 0 h
  · rfl
/-- The fields of the four numbers' word. -/
theorem word4_parts {a b c d : Int} (ha : In a) (hb : In b) (hc : In c) (hd : In d) :
    (word4 a b c d : Int) = (a / 32768) * 9223372036854775808 + (a % 32768 / 16) * 4503599627370496 + ((b * 65536 + c) * 65536 + d + a % 16 * 281474976710656) ∧
    0 ≤ (b * 65536 + c) * 65536 + d + a % 16 * 281474976710656 ∧ (b * 65536 + c) * 65536 + d + a % 16 * 281474976710656 < 4503599627370496 := by
  unfold In at *
  unfold word4
  refine ⟨by omega, by omega, by omega⟩
/-- A normal float's word, of its digits. -/
theorem W_normal {f : Nat} {x : Int} (hf : f < 4503599627370496) (h1 : 1 ≤ x) (h2 : x ≤ 2046) : W (f + 4503599627370496) (x - 1075) = x.toNat * 4503599627370496 + f := by
  obtain ⟨q, rfl⟩ : ∃ q : Nat, x = q := ⟨x.toNat, by omega⟩
  have := W_rung (q * 4503599627370496 + f) (by omega)
  have e1 : magR (q * 4503599627370496 + f) = f + 4503599627370496 := by unfold magR; rw [if_neg (by omega)]; omega
  have e2 : plR (q * 4503599627370496 + f) = (q : Int) - 1075 := by unfold plR; rw [if_neg (by omega)]; omega
  rw [e1, e2] at this
  rw [this]
  rfl
theorem ofInt_W {n : Int} (h : 0 ≤ n) : floatOfInt .f64 n = W n.toNat 0 := by
  show Ieee.double.nearest (decide (n < 0)) n.natAbs 0 = Ieee.double.nearest false n.toNat 0
  rw [decide_eq_false (by omega)]
  congr 1
  omega
end Go.Proofs.Ytppmcbkcohiodaa.Fl
namespace Go.Proofs.Ytppmcbkcohiodaa.Fl
open Go Go.RowKit Go.Proofs.YtppmcbkcohiodaaW.PrintWords Go.Proofs.Ytppmcbkcohiodaa.Base Go.Proofs.Ytppmcbkcohiodaa.Dbl
attribute [-go_sem] binOp_float_cmp_eql binOp_float_cmp_neq binOp_float_cmp_lss binOp_float_cmp_leq
attribute [local go_sem] f_eql f_neq f_lss f_leq frombits_run
set_option maxHeartbeats 8000000
set_option maxRecDepth 100000
theorem scale_calls (m : Nat) (n : Int) (hm : m < 9007199254740992) (h0 : -1074 ≤ n) (h1 : n ≤ 971) (w : World) :
    Calls Try.prog 91 #[.float .f64 (W m 0), .int .i64 n] w fun e w' => e = .returned (.float .f64 (W m n)) ∧ Below w.heap.size w w' := by
  have HM := Aside0.mk hm
  have H0 := Aside0.mk h0
  have H1 := Aside0.mk h1
  clear hm h0 h1
  go_enter Try.func91, Try.ntmps91
  go_wp2
  go_loopg [0, 1] n.toNat (fun gg s0 s1 wr => ∃ (e l : Int), s0 = .float .f64 (W m e) ∧ s1 = .int .i64 l ∧ Aside0 (e + l = n ∧ 0 ≤ e ∧ l.toNat ≤ gg ∧ (0 < n → 0 ≤ l) ∧ (n ≤ 0 → e = 0)) ∧ Aside0 (Below w.heap.size w wr))
  case atStart => exact ⟨0, n, rfl, rfl, ⟨by omega⟩, ⟨Below.refl _ _⟩⟩
  case round =>
    obtain ⟨e, l, rfl, rfl, A, D⟩ := hrel
    by_cases hl : l > 0
    · have B := H1.out
      have A1 := A.out
      have hmul : ∀ t wx, (binOp .mul t (.float .f64 (W m e)) (.float .f64 4611686018427387904)).run Try.prog wx = .ok (.float .f64 (W m (e + 1))) wx :=
        fun t wx => run_float_arith wx .mul t .f64 _ _ _ (mul_two m e HM.out (by omega) (by omega))
      have hpos := A1.2.1
      clear A1 B
      go_wp2
      go_roundg (l - 1).toNat
      case measure => have := A.out; omega
      case rel =>
        have A1 := A.out
        exact ⟨e + 1, l - 1, rfl, by rw [w64 (by omega) (by have := H1.out; omega)], ⟨by omega⟩, ⟨D.out⟩⟩
    · have A1 := A.out
      by_cases hn : 0 < n
      · have hl0 : l = 0 := by omega
        have he : e = n := by omega
        subst he hl0
        clear A1
        go_wp2
        go_loopg [0, 1] 1 (fun gg s0 s1 wr' => s0 = .float .f64 (W m e) ∧ s1 = .int .i64 0 ∧ Aside0 (Below w.heap.size w wr'))
        case atStart => exact ⟨rfl, rfl, ⟨D.out⟩⟩
        case round =>
          obtain ⟨rfl, rfl, D2⟩ := hrel
          go_wp2
          go_ret
          exact ⟨rfl, D2.out⟩
      · have he : e = 0 := A1.2.2.2.2 (by omega)
        have hln : l = n := by omega
        subst he hln
        clear A1
        go_wp2
        go_loopg [0, 1] (-l).toNat (fun gg s0 s1 wr' => ∃ (e l' : Int), s0 = .float .f64 (W m e) ∧ s1 = .int .i64 l' ∧ Aside0 (e + l' = l ∧ e ≤ 0 ∧ (-l').toNat ≤ gg ∧ l' ≤ 0) ∧ Aside0 (Below w.heap.size w wr'))
        case atStart => exact ⟨0, l, rfl, rfl, ⟨by omega⟩, ⟨D.out⟩⟩
        case round =>
          obtain ⟨e, l', rfl, rfl, A2, D2⟩ := hrel
          by_cases hl' : l' < 0
          · have B := H0.out
            have A3 := A2.out
            have hdiv : ∀ t wx, (binOp .quo t (.float .f64 (W m e)) (.float .f64 4611686018427387904)).run Try.prog wx = .ok (.float .f64 (W m (e - 1))) wx :=
              fun t wx => run_float_arith wx .quo t .f64 _ _ _ (div_two m e HM.out (by omega) (by omega))
            clear A3 B
            go_wp2
            go_roundg (-(l' + 1)).toNat
            case measure => have := A2.out; omega
            case rel =>
              have A3 := A2.out
              exact ⟨e - 1, l' + 1, rfl, by rw [w64 (by have := H0.out; omega) (by omega)], ⟨by omega⟩, ⟨D2.out⟩⟩
          · have hl0 : l' = 0 := by have := A2.out; omega
            have he : e = l := by have := A2.out; omega
            subst he hl0
            go_wp2
            go_ret
            exact ⟨rfl, D2.out⟩

theorem quo_nan (t : TypeId) (P : Program) (w : World) : ∃ b, (eqF b b = false ∧ b < 18446744073709551616) ∧ (binOp .quo t (.float .f64 0) (.float .f64 0)).run P w = .ok (.float .f64 b) w.drew := by
  refine ⟨(Question.nanBits .f64 0 0).cut (w.tape w.drawn (.nanBits .f64 0 0)), ?_, ?_⟩
  · generalize w.tape w.drawn (.nanBits .f64 0 0) = q
    have hb : (Question.nanBits .f64 0 0).cut q = (q % 2) * 2 ^ 63 + 0x7ff0000000000000 + 1 + (q / 2) % (2 ^ 52 - 1) := rfl
    rw [hb]
    have h1 : q / 2 % (2 ^ 52 - 1) < 2 ^ 52 - 1 := Nat.mod_lt _ (by decide)
    generalize q / 2 % (2 ^ 52 - 1) = r at h1
    rcases Nat.mod_two_eq_zero_or_one q with e | e
    · rw [e, nan_iff (by omega)]; exact ⟨decide_eq_false (by omega), by omega⟩
    · rw [e, nan_iff (by omega)]; exact ⟨decide_eq_false (by omega), by omega⟩
  · have h : Ieee.double.div 0 0 = none := by decide +kernel
    have h' : FloatKind.f64.format.div 0 0 = none := h
    simp [binOp, Op.floatArith, h', Question.forced]
theorem nan_calls (w : World) : Calls Try.prog 89 #[] w fun e w' => (∃ b, e = .returned (.float .f64 b) ∧ (eqF b b = false ∧ b < 18446744073709551616)) ∧ Below w.heap.size w w' := by
  go_enter Try.func89, Try.ntmps89
  obtain ⟨b, hb, hq⟩ := quo_nan 23 Try.prog w
  have HB := Aside0.mk hb
  clear hb
  go_wp2
  go_ret
  exact ⟨⟨b, rfl, HB.out⟩, below_drew (Below.refl _ _)⟩
theorem quo_inf (t : TypeId) (P : Program) (w : World) : (binOp .quo t (.float .f64 4607182418800017408) (.float .f64 0)).run P w = .ok (.float .f64 9218868437227405312) w :=
  run_float_arith w .quo t .f64 _ _ _ (by decide +kernel)
attribute [local go_sem] quo_inf quo_run
theorem inf_calls (w : World) : Calls Try.prog 90 #[] w fun e w' => e = .returned (.float .f64 9218868437227405312) ∧ Below w.heap.size w w' := by
  go_enter Try.func90, Try.ntmps90
  go_wp2
  go_ret
  exact ⟨rfl, Below.refl _ _⟩
theorem lt_inf : ltF 9218868437227405312 0 = false := by decide +kernel
theorem lt_zero : ltF 0 0 = false := by decide +kernel
theorem eq_zero : eqF 0 0 = true := by decide +kernel
theorem lt_mzero : ltF 9223372036854775808 0 = false := by decide +kernel
attribute [local go_sem] lt_inf lt_zero eq_zero lt_mzero l_inf e_zero
/-- Is the sign -? -/
def sgn (b : Nat) : Bool := decide (9223372036854775808 ≤ b)
theorem minus_calls (b : Nat) (hb : b < 18446744073709551616) (nb : eqF b b = true) (w : World) : Calls Try.prog 68 #[.float .f64 b] w fun e w' => e = .returned (.bool (sgn b)) ∧ Below w.heap.size w w' := by
  rcases minus_facts hb nb with ⟨h, h1, h2⟩ | ⟨h, h1⟩
  · have hs : sgn b = false := decide_eq_false (by omega)
    rw [hs]
    clear h hb
    rcases h2 with rfl | h2
    · go_enter Try.func68, Try.ntmps68
      go_wp2
      go_ret
      exact ⟨rfl, Below.refl _ _⟩
    · go_enter Try.func68, Try.ntmps68
      go_wp2
      go_ret
      exact ⟨rfl, Below.refl _ _⟩
  · have hs : sgn b = true := decide_eq_true h
    rw [hs]
    clear h hb
    rcases h1 with h1 | rfl
    · go_enter Try.func68, Try.ntmps68
      go_wp2
      go_ret
      exact ⟨rfl, Below.refl _ _⟩
    · go_enter Try.func68, Try.ntmps68
      go_wp2
      go_ret
      exact ⟨rfl, Below.refl _ _⟩
theorem rwithin_calls (x lo hi : Nat) (w : World) : Calls Try.prog 63 #[.float .f64 x, .float .f64 lo, .float .f64 hi] w fun e w' => e = .returned (.bool (leF lo x && leF x hi)) ∧ Below w.heap.size w w' := by
  cases h : leF lo x
  · go_enter Try.func63, Try.ntmps63
    go_wp2
    go_ret
    exact ⟨rfl, Below.refl _ _⟩
  · go_enter Try.func63, Try.ntmps63
    go_wp2
    go_ret
    exact ⟨by rw [Bool.true_and]; rfl, Below.refl _ _⟩
theorem rsame_calls (a b : Nat) (ha : a < 18446744073709551616) (hb : b < 18446744073709551616) (w : World) : Calls Try.prog 47 #[.float .f64 a, .float .f64 b] w fun e w' => e = .returned (.bool (sameF a b)) ∧ Below w.heap.size w w' := by
  cases na : eqF a a
  · have HS : sameF a b = !eqF b b := by unfold sameF; rw [na]; rfl
    rw [HS]
    clear ha hb HS
    cases nb : eqF b b
    · go_enter Try.func47, Try.ntmps47
      go_wp2
      go_ret
      exact ⟨rfl, Below.refl _ _⟩
    · go_enter Try.func47, Try.ntmps47
      go_wp2
      go_ret
      exact ⟨rfl, Below.refl _ _⟩
  · cases nb : eqF b b
    · have HS : sameF a b = false := by unfold sameF; rw [na, nb]; rfl
      rw [HS]
      clear ha hb HS
      go_enter Try.func47, Try.ntmps47
      go_wp2
      go_ret
      exact ⟨rfl, Below.refl _ _⟩
    · have HS : sameF a b = (a == b) := by unfold sameF; rw [na, nb]; rfl
      rw [HS]
      clear HS
      cases hab : eqF a b
      · have hne : (a == b) = false := by
          rw [beq_eq_false_iff_ne]; intro e; subst e; rw [na] at hab; cases hab
        rw [hne]
        clear ha hb hne
        go_enter Try.func47, Try.ntmps47
        go_wp2
        go_ret
        exact ⟨rfl, Below.refl _ _⟩
      · have HA := Aside0.mk (And.intro ha na)
        have HB := Aside0.mk (And.intro hb nb)
        have he : (a == b) = (sgn a == sgn b) := by
          by_cases hs : sgn a = sgn b
          · have := eq_words ha hb na nb hs hab
            subst this
            simp
          · rw [beq_eq_false_iff_ne.2 hs, beq_eq_false_iff_ne]; intro e; subst e; exact hs rfl
        rw [he]
        clear he ha hb
        go_enter Try.func47, Try.ntmps47
        go_wp2_with fail
        refine (minus_calls a HA.out.1 HA.out.2 _).mono ?_
        rintro e w1 ⟨rfl, hw1⟩
        go_wp2_with fail
        refine (minus_calls b HB.out.1 HB.out.2 _).mono ?_
        rintro e w2 ⟨rfl, hw2⟩
        go_wp2
        go_ret
        exact ⟨rfl, below_step hw1 hw2⟩
end Go.Proofs.Ytppmcbkcohiodaa.Fl
namespace Go.Proofs.Ytppmcbkcohiodaa.Fl
open Go Go.RowKit Go.Proofs.YtppmcbkcohiodaaW.PrintWords Go.Proofs.Ytppmcbkcohiodaa.Base Go.Proofs.Ytppmcbkcohiodaa.Dbl
attribute [-go_sem] binOp_float_cmp_eql binOp_float_cmp_neq binOp_float_cmp_lss binOp_float_cmp_leq
attribute [local go_sem] f_eql f_neq f_lss f_leq frombits_run
set_option maxHeartbeats 8000000
set_option maxRecDepth 100000
/-- The number of those behind the first. -/
def nAt (l : List Int) : Nat → Int
  | 0 => 0
  | k + 1 => if k = 0 then 0 else nAt l k * 65536 + rd l (k : Int)
theorem nAt_bound (l : List Int) (k : Nat) (hk : k ≤ 4) (h : ∀ j : Nat, j < k → In (rd l (j : Int))) : 0 ≤ nAt l k ∧ nAt l k < 281474976710656 := by
  have h1 := h 1
  have h2 := h 2
  have h3 := h 3
  unfold In at h1 h2 h3
  match k, hk with
  | 0, _ => simp [nAt]
  | 1, _ => simp [nAt]
  | 2, _ => have := h1 (by omega); simp [nAt] at *; omega
  | 3, _ => have := h1 (by omega); have := h2 (by omega); simp [nAt] at *; omega
  | 4, _ => have := h1 (by omega); have := h2 (by omega); have := h3 (by omega); simp [nAt] at *; omega
def negF (b : Nat) : Nat := b ^^^ 2 ^ 63
theorem negF_eq {b : Nat} (hb : b < 9223372036854775808) : negF b = 9223372036854775808 + b := by
  have h := neg_word (b := b) (by omega)
  rwa [if_pos hb] at h
theorem neg_run (b : Nat) : Op.unary .neg (.float .f64 b) = pure (.float .f64 (negF b)) := rfl
attribute [local go_sem] neg_run
theorem cell0 {w : World} {ad : Addr} {l : List Int} (h : Kd.C (Kd.int .i64) w (some ad) l.length l) (hn : 0 < l.length) : w.cell? ad = some (.int .i64 (rd l 0)) := by
  obtain ⟨ad', hA, hcell⟩ := Kd.at_int h 0 (by omega) (by omega)
  cases hA
  exact hcell
theorem of_parts {l : List Int} (h4 : l.length = 4) (A : ∀ j : Nat, j < 4 → In (rd l (j : Int))) :
    ∃ X E F : Nat, ofF l = (X, true) ∧ X = (rd l 0).toNat / 32768 * 9223372036854775808 + E * 4503599627370496 + F ∧ E ≤ 2047 ∧ F < 4503599627370496 ∧ 0 ≤ rd l 0 ∧ rd l 0 ≤ 65535 ∧
      wrap64 (((rd l 0).tmod 32768).tdiv 16) = (E : Int) ∧ wrap64 (nAt l 4 + wrap64 (wrap64 (wrap64 ((rd l 0).tmod 16 * 65536) * 65536) * 65536)) = (F : Int) := by
  obtain ⟨a, b, c, d, rfl⟩ : ∃ a b c d, l = [a, b, c, d] := by
    match l, h4 with
    | [a, b, c, d], _ => exact ⟨a, b, c, d, rfl⟩
  have ha : In a := A 0 (by omega)
  have hb : In b := A 1 (by omega)
  have hc : In c := A 2 (by omega)
  have hd : In d := A 3 (by omega)
  have e0 : rd [a, b, c, d] 0 = a := rfl
  have e4 : nAt [a, b, c, d] 4 = (b * 65536 + c) * 65536 + d := by
    simp [nAt, rd]
  obtain ⟨p1, p2, p3⟩ := word4_parts ha hb hc hd
  rw [e0, e4]
  unfold In at ha hb hc hd
  refine ⟨word4 a b c d, (a % 32768 / 16).toNat, ((b * 65536 + c) * 65536 + d + a % 16 * 281474976710656).toNat, ofF_in ha hb hc hd, by omega, by omega, by omega, ha.1, ha.2, ?_, ?_⟩
  · rw [Int.tmod_eq_emod_of_nonneg ha.1, Int.tdiv_eq_ediv_of_nonneg (by omega), w64 (by omega) (by omega)]; exact (Int.toNat_of_nonneg (by omega)).symm
  · rw [Int.tmod_eq_emod_of_nonneg ha.1, w64 (n := a % 16 * 65536) (by omega) (by omega), w64 (n := a % 16 * 65536 * 65536) (by omega) (by omega), w64 (n := a % 16 * 65536 * 65536 * 65536) (by omega) (by omega), w64 (by omega) (by omega)]
    omega
def Told (w : World) (l : List Int) (e : Ending) (w' : World) : Prop :=
  (∃ b, e = .returned (.tuple #[.float .f64 b, .bool (ofF l).2]) ∧ (b = (ofF l).1 ∨ (eqF b b = false ∧ b < 18446744073709551616) ∧ eqF (ofF l).1 (ofF l).1 = false)) ∧ Below w.heap.size w w'
theorem rof_calls (A0 : Option Addr) (c0 : Nat) (l0 : List Int) (w : World) (hr0 : Kd.C (Kd.int .i64) w A0 l0.length l0) :
    Calls Try.prog 77 #[.slice A0 l0.length c0] w (Told w l0) := by
  by_cases h4 : l0.length = 4
  · have HR0 := Aside0.mk hr0
    have H4 := Aside0.mk h4
    clear hr0
    obtain ⟨T, hT⟩ : ∃ T, T = Told w l0 := ⟨_, rfl⟩
    have HT := Aside0.mk hT
    rw [← hT, h4]
    clear hT h4
    go_enter Try.func77, Try.ntmps77
    go_wp2
    go_loopg [4, 5] 4 (fun gg s4 s5 wr => ∃ (kk : Nat), kk ≤ 4 ∧ 4 - kk ≤ gg ∧ s5 = .int .i64 kk ∧ s4 = .int .i64 (nAt l0 kk) ∧ Aside0 (Below w.heap.size w wr) ∧ Aside0 (∀ j : Nat, j < kk → In (rd l0 (j : Int))))
    case atStart => exact ⟨0, Nat.zero_le _, by omega, rfl, rfl, ⟨Below.refl _ _⟩, ⟨fun j hj => absurd hj (Nat.not_lt_zero _)⟩⟩
    case round =>
      obtain ⟨kk, hkk, hg, rfl, rfl, D, A⟩ := hrel
      by_cases hlt : kk < 4
      · have hltz : ((kk : Int) < 4) := by omega
        obtain ⟨ad, hA, hcell⟩ := Kd.at_int (Kd.C_below HR0.out D.out) (kk : Int) (by omega) (by have := H4.out; omega)
        subst hA
        rw [Int.toNat_natCast] at hcell
        obtain ⟨y, hy⟩ : ∃ y, y = rd l0 (kk : Int) := ⟨_, rfl⟩
        rw [← hy] at hcell
        have HY := Aside0.mk hy
        clear hy
        have hmem : ∃ n ∈ l0, n = y := ⟨l0[kk]'(by have := H4.out; omega), List.getElem_mem _, by rw [HY.out]; simp [rd, List.getD_eq_getElem?_getD, List.getElem?_eq_getElem (show kk < l0.length by have := H4.out; omega)]⟩
        have HM := Aside0.mk hmem
        clear hmem
        by_cases h0 : y < 0
        · have HX := Aside0.mk (show ofF l0 = (0, false) by obtain ⟨n, hn, rfl⟩ := HM.out; exact ofF_out (.inr ⟨n, hn, by unfold In; omega⟩))
          go_wp2
          rw [HT.out]
          exact ⟨⟨0, by rw [HX.out]; rfl, .inl (by rw [HX.out])⟩, D.out⟩
        · by_cases h1 : y > 65535
          · have HX := Aside0.mk (show ofF l0 = (0, false) by obtain ⟨n, hn, rfl⟩ := HM.out; exact ofF_out (.inr ⟨n, hn, by unfold In; omega⟩))
            go_wp2
            rw [HT.out]
            exact ⟨⟨0, by rw [HX.out], .inl (by rw [HX.out])⟩, D.out⟩
          · have HIN := Aside0.mk (show ∀ j : Nat, j < kk + 1 → In (rd l0 (j : Int)) by
              intro j hj
              rcases Nat.lt_succ_iff_lt_or_eq.1 hj with hj | rfl
              · exact A.out j hj
              · rw [← HY.out]; exact ⟨by omega, by omega⟩)
            have HN := Aside0.mk (nAt_bound l0 kk hkk A.out)
            have HN1 := Aside0.mk (nAt_bound l0 (kk + 1) (by omega) HIN.out)
            by_cases hk0 : kk > 0
            · have hk0z : ((kk : Int) > 0) := by omega
              go_wp2
              go_roundg (4 - (kk + 1))
              case measure => omega
              case rel =>
                refine ⟨kk + 1, by omega, by omega, by go_num, ?_, ⟨D.out⟩, ⟨HIN.out⟩⟩
                have e : nAt l0 (kk + 1) = nAt l0 kk * 65536 + y := by rw [HY.out]; exact if_neg (by omega)
                have b0 := HN.out
                have b1 := HN1.out
                rw [e] at b1 ⊢
                rw [w64 (n := nAt l0 kk * 65536) (by omega) (by omega), w64 (by omega) (by omega)]
            · have hk0z : ¬ ((kk : Int) > 0) := by omega
              go_wp2
              go_roundg (4 - (kk + 1))
              case measure => omega
              case rel =>
                refine ⟨kk + 1, by omega, by omega, by go_num, ?_, ⟨D.out⟩, ⟨HIN.out⟩⟩
                have : kk = 0 := by omega
                subst this
                rfl
      · have hltz : ¬ ((kk : Int) < 4) := by omega
        obtain rfl : kk = 4 := by omega
        obtain ⟨ad, hA, hcell⟩ := Kd.at_int (Kd.C_below HR0.out D.out) 0 (by omega) (by have := H4.out; omega)
        subst hA
        have hcell : wr.cell? ad = some (.int .i64 (rd l0 0)) := hcell
        obtain ⟨X, E, F, hX, hXe, hE, hF, ha0, ha1, rE, rF⟩ := of_parts H4.out A.out
        have HX := Aside0.mk (And.intro hX (And.intro hXe (And.intro hE (And.intro hF (And.intro ha0 ha1)))))
        clear hX hXe hE hF ha0 ha1
        by_cases c1 : (E : Int) = 2047
        · by_cases c2 : (F : Int) > 0
          · go_wp2_with fail
            refine (nan_calls _).mono ?_
            rintro e w1 ⟨⟨b, rfl, hb⟩, hw1⟩
            have HB := Aside0.mk hb
            clear hb
            go_wp2
            rw [HT.out]
            refine ⟨⟨b, by rw [HX.out.1]; rfl, .inr ⟨HB.out, ?_⟩⟩, below_step D.out hw1⟩
            obtain ⟨h1, h2, h3, h4, h5, h6⟩ := HX.out
            rw [h1, nan_iff (by omega)]
            exact decide_eq_false (by omega)
          · go_wp2_with fail
            refine (inf_calls _).mono ?_
            rintro e w1 ⟨rfl, hw1⟩
            have DD := Aside0.mk (below_step D.out hw1)
            clear hw1
            have hcell := cell0 (Kd.C_below HR0.out DD.out) (by have := H4.out; omega)
            by_cases c3 : rd l0 0 ≥ 32768
            · go_wp2
              rw [HT.out]
              refine ⟨⟨_, by rw [HX.out.1]; rfl, .inl ?_⟩, DD.out⟩
              obtain ⟨h1, h2, h3, h4, h5, h6⟩ := HX.out
              rw [h1, negF_eq (by omega)]
              omega
            · go_wp2
              rw [HT.out]
              refine ⟨⟨_, by rw [HX.out.1]; rfl, .inl ?_⟩, DD.out⟩
              obtain ⟨h1, h2, h3, h4, h5, h6⟩ := HX.out
              rw [h1]
              omega
        · by_cases c2 : (E : Int) = 0
          · go_wp2_with fail
            rw [ofInt_W (by omega), Int.toNat_natCast]
            refine (scale_calls F (-1074) (by have := HX.out; omega) (by omega) (by omega) _).mono ?_
            rw [W_small F (by have := HX.out; omega)]
            rintro e w1 ⟨rfl, hw1⟩
            have DD := Aside0.mk (below_step D.out hw1)
            clear hw1
            have hcell := cell0 (Kd.C_below HR0.out DD.out) (by have := H4.out; omega)
            by_cases c3 : rd l0 0 ≥ 32768
            · go_wp2
              rw [HT.out]
              refine ⟨⟨_, by rw [HX.out.1]; rfl, .inl ?_⟩, DD.out⟩
              obtain ⟨h1, h2, h3, h4, h5, h6⟩ := HX.out
              rw [h1, negF_eq (by omega)]
              omega
            · go_wp2
              rw [HT.out]
              refine ⟨⟨_, by rw [HX.out.1]; rfl, .inl ?_⟩, DD.out⟩
              obtain ⟨h1, h2, h3, h4, h5, h6⟩ := HX.out
              rw [h1]
              omega
          · have hw := w64 (n := (F : Int) + 4503599627370496) (by omega) (by have := HX.out; omega)
            have hv := w64 (n := (E : Int) - 1075) (by omega) (by have := HX.out; omega)
            go_wp2_with fail
            clear hw hv
            rw [ofInt_W (by omega), show ((F : Int) + 4503599627370496).toNat = F + 4503599627370496 from by omega]
            refine (scale_calls (F + 4503599627370496) ((E : Int) - 1075) (by have := HX.out; omega) (by omega) (by have := HX.out; omega) _).mono ?_
            rw [W_normal (by have := HX.out; omega) (by omega) (by have := HX.out; omega), Int.toNat_natCast]
            rintro e w1 ⟨rfl, hw1⟩
            have DD := Aside0.mk (below_step D.out hw1)
            clear hw1
            have hcell := cell0 (Kd.C_below HR0.out DD.out) (by have := H4.out; omega)
            by_cases c3 : rd l0 0 ≥ 32768
            · go_wp2
              rw [HT.out]
              refine ⟨⟨_, by rw [HX.out.1]; rfl, .inl ?_⟩, DD.out⟩
              obtain ⟨h1, h2, h3, h4, h5, h6⟩ := HX.out
              rw [h1, negF_eq (by omega)]
              omega
            · go_wp2
              rw [HT.out]
              refine ⟨⟨_, by rw [HX.out.1]; rfl, .inl ?_⟩, DD.out⟩
              obtain ⟨h1, h2, h3, h4, h5, h6⟩ := HX.out
              rw [h1]
              omega
  · have h4z : ¬ (l0.length : Int) = 4 := by omega
    have HF := Aside0.mk (show ofF l0 = (0, false) by unfold ofF; rw [if_neg h4])
    go_enter Try.func77, Try.ntmps77
    go_wp2
    go_ret2
    exact ⟨⟨0, by rw [HF.out]; rfl, .inl (by rw [HF.out])⟩, Below.refl _ _⟩
end Go.Proofs.Ytppmcbkcohiodaa.Fl
