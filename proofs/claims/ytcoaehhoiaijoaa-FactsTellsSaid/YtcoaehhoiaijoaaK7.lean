/- Texts of this claim, put together (wip/pack.py): RefOf, RealRegs. -/
import Derived.Test.YtcoaehhoiaijoaaK6
namespace Go.Proofs.Ytcoaehhoiaijoaa.Fl
open Go Go.RowKit Go.Proofs.YtcoaehhoiaijoaaW.PrintWords Go.Proofs.Ytcoaehhoiaijoaa.Base Go.Proofs.Ytcoaehhoiaijoaa.Dbl
attribute [-go_sem] binOp_float_cmp_eql binOp_float_cmp_neq binOp_float_cmp_lss binOp_float_cmp_leq
attribute [local go_sem] f_eql f_neq f_lss f_leq bits_run frombits_run
set_option maxHeartbeats 8000000
set_option maxRecDepth 100000
/-- The number of those behind the first. -/
def nAt (l : List Int) : Nat → Int
  | 0 => 0
  | k + 1 => if k = 0 then 0 else nAt l k * 65536 + rd l (k : Int)
theorem nAt_bound (l : List Int) (k : Nat) (hk : k ≤ 4) (h : ∀ j : Nat, j < k → In (rd l (j : Int))) : 0 ≤ nAt l k ∧ nAt l k < 281474976710656 := by
  have h1 := h 1
  have h2 := h 2
  have h3 := h 3
  unfold In at h1 h2 h3
  match k, hk with
  | 0, _ => simp [nAt]
  | 1, _ => simp [nAt]
  | 2, _ => have := h1 (by omega); simp [nAt] at *; omega
  | 3, _ => have := h1 (by omega); have := h2 (by omega); simp [nAt] at *; omega
  | 4, _ => have := h1 (by omega); have := h2 (by omega); have := h3 (by omega); simp [nAt] at *; omega
def negF (b : Nat) : Nat := b ^^^ 2 ^ 63
theorem negF_eq {b : Nat} (hb : b < 9223372036854775808) : negF b = 9223372036854775808 + b := by
  have h := neg_word (b := b) (by omega)
  rwa [if_pos hb] at h
theorem neg_run (b : Nat) : Op.unary .neg (.float .f64 b) = pure (.float .f64 (negF b)) := rfl
attribute [local go_sem] neg_run
theorem cell0 {w : World} {ad : Addr} {l : List Int} (h : Kd.C (Kd.int .i64) w (some ad) l.length l) (hn : 0 < l.length) : w.cell? ad = some (.int .i64 (rd l 0)) := by
  obtain ⟨ad', hA, hcell⟩ := Kd.at_int h 0 (by omega) (by omega)
  cases hA
  exact hcell
theorem of_parts {l : List Int} (h4 : l.length = 4) (A : ∀ j : Nat, j < 4 → In (rd l (j : Int))) :
    ∃ X E F : Nat, ofF l = (X, true) ∧ X = (rd l 0).toNat / 32768 * 9223372036854775808 + E * 4503599627370496 + F ∧ E ≤ 2047 ∧ F < 4503599627370496 ∧ 0 ≤ rd l 0 ∧ rd l 0 ≤ 65535 ∧
      wrap64 (((rd l 0).tmod 32768).tdiv 16) = (E : Int) ∧ wrap64 (nAt l 4 + wrap64 (wrap64 (wrap64 ((rd l 0).tmod 16 * 65536) * 65536) * 65536)) = (F : Int) := by
  obtain ⟨a, b, c, d, rfl⟩ : ∃ a b c d, l = [a, b, c, d] := by
    match l, h4 with
    | [a, b, c, d], _ => exact ⟨a, b, c, d, rfl⟩
  have ha : In a := A 0 (by omega)
  have hb : In b := A 1 (by omega)
  have hc : In c := A 2 (by omega)
  have hd : In d := A 3 (by omega)
  have e0 : rd [a, b, c, d] 0 = a := rfl
  have e4 : nAt [a, b, c, d] 4 = (b * 65536 + c) * 65536 + d := by
    simp [nAt, rd]
  obtain ⟨p1, p2, p3⟩ := word4_parts ha hb hc hd
  rw [e0, e4]
  unfold In at ha hb hc hd
  refine ⟨word4 a b c d, (a % 32768 / 16).toNat, ((b * 65536 + c) * 65536 + d + a % 16 * 281474976710656).toNat, ofF_in ha hb hc hd, by omega, by omega, by omega, ha.1, ha.2, ?_, ?_⟩
  · rw [Int.tmod_eq_emod_of_nonneg ha.1, Int.tdiv_eq_ediv_of_nonneg (by omega), w64 (by omega) (by omega)]; exact (Int.toNat_of_nonneg (by omega)).symm
  · rw [Int.tmod_eq_emod_of_nonneg ha.1, w64 (n := a % 16 * 65536) (by omega) (by omega), w64 (n := a % 16 * 65536 * 65536) (by omega) (by omega), w64 (n := a % 16 * 65536 * 65536 * 65536) (by omega) (by omega), w64 (by omega) (by omega)]
    omega
def Told (w : World) (l : List Int) (e : Ending) (w' : World) : Prop :=
  (∃ b, e = .returned (.tuple #[.float .f64 b, .bool (ofF l).2]) ∧ (b = (ofF l).1 ∨ (eqF b b = false ∧ b < 18446744073709551616) ∧ eqF (ofF l).1 (ofF l).1 = false)) ∧ Below w.heap.size w w'
theorem rof_calls (A0 : Option Addr) (c0 : Nat) (l0 : List Int) (w : World) (hr0 : Kd.C (Kd.int .i64) w A0 l0.length l0) :
    Calls Try.prog 31 #[.slice A0 l0.length c0] w (Told w l0) := by
  by_cases h4 : l0.length = 4
  · have HR0 := Aside0.mk hr0
    have H4 := Aside0.mk h4
    clear hr0
    obtain ⟨T, hT⟩ : ∃ T, T = Told w l0 := ⟨_, rfl⟩
    have HT := Aside0.mk hT
    rw [← hT, h4]
    clear hT h4
    go_enter Try.func31, Try.ntmps31
    go_wp2
    go_loopg [4, 5] 4 (fun gg s4 s5 wr => ∃ (kk : Nat), kk ≤ 4 ∧ 4 - kk ≤ gg ∧ s5 = .int .i64 kk ∧ s4 = .int .i64 (nAt l0 kk) ∧ Aside0 (Below w.heap.size w wr) ∧ Aside0 (∀ j : Nat, j < kk → In (rd l0 (j : Int))))
    case atStart => exact ⟨0, Nat.zero_le _, by omega, rfl, rfl, ⟨Below.refl _ _⟩, ⟨fun j hj => absurd hj (Nat.not_lt_zero _)⟩⟩
    case round =>
      obtain ⟨kk, hkk, hg, rfl, rfl, D, A⟩ := hrel
      by_cases hlt : kk < 4
      · have hltz : ((kk : Int) < 4) := by omega
        obtain ⟨ad, hA, hcell⟩ := Kd.at_int (Kd.C_below HR0.out D.out) (kk : Int) (by omega) (by have := H4.out; omega)
        subst hA
        rw [Int.toNat_natCast] at hcell
        obtain ⟨y, hy⟩ : ∃ y, y = rd l0 (kk : Int) := ⟨_, rfl⟩
        rw [← hy] at hcell
        have HY := Aside0.mk hy
        clear hy
        have hmem : ∃ n ∈ l0, n = y := ⟨l0[kk]'(by have := H4.out; omega), List.getElem_mem _, by rw [HY.out]; simp [rd, List.getD_eq_getElem?_getD, List.getElem?_eq_getElem (show kk < l0.length by have := H4.out; omega)]⟩
        have HM := Aside0.mk hmem
        clear hmem
        by_cases h0 : y < 0
        · have HX := Aside0.mk (show ofF l0 = (0, false) by obtain ⟨n, hn, rfl⟩ := HM.out; exact ofF_out (.inr ⟨n, hn, by unfold In; omega⟩))
          go_wp2
          rw [HT.out]
          exact ⟨⟨0, by rw [HX.out]; rfl, .inl (by rw [HX.out])⟩, D.out⟩
        · by_cases h1 : y > 65535
          · have HX := Aside0.mk (show ofF l0 = (0, false) by obtain ⟨n, hn, rfl⟩ := HM.out; exact ofF_out (.inr ⟨n, hn, by unfold In; omega⟩))
            go_wp2
            rw [HT.out]
            exact ⟨⟨0, by rw [HX.out], .inl (by rw [HX.out])⟩, D.out⟩
          · have HIN := Aside0.mk (show ∀ j : Nat, j < kk + 1 → In (rd l0 (j : Int)) by
              intro j hj
              rcases Nat.lt_succ_iff_lt_or_eq.1 hj with hj | rfl
              · exact A.out j hj
              · rw [← HY.out]; exact ⟨by omega, by omega⟩)
            have HN := Aside0.mk (nAt_bound l0 kk hkk A.out)
            have HN1 := Aside0.mk (nAt_bound l0 (kk + 1) (by omega) HIN.out)
            by_cases hk0 : kk > 0
            · have hk0z : ((kk : Int) > 0) := by omega
              go_wp2
              go_roundg (4 - (kk + 1))
              case measure => omega
              case rel =>
                refine ⟨kk + 1, by omega, by omega, by go_num, ?_, ⟨D.out⟩, ⟨HIN.out⟩⟩
                have e : nAt l0 (kk + 1) = nAt l0 kk * 65536 + y := by rw [HY.out]; exact if_neg (by omega)
                have b0 := HN.out
                have b1 := HN1.out
                rw [e] at b1 ⊢
                rw [w64 (n := nAt l0 kk * 65536) (by omega) (by omega), w64 (by omega) (by omega)]
            · have hk0z : ¬ ((kk : Int) > 0) := by omega
              go_wp2
              go_roundg (4 - (kk + 1))
              case measure => omega
              case rel =>
                refine ⟨kk + 1, by omega, by omega, by go_num, ?_, ⟨D.out⟩, ⟨HIN.out⟩⟩
                have : kk = 0 := by omega
                subst this
                rfl
      · have hltz : ¬ ((kk : Int) < 4) := by omega
        obtain rfl : kk = 4 := by omega
        obtain ⟨ad, hA, hcell⟩ := Kd.at_int (Kd.C_below HR0.out D.out) 0 (by omega) (by have := H4.out; omega)
        subst hA
        have hcell : wr.cell? ad = some (.int .i64 (rd l0 0)) := hcell
        obtain ⟨X, E, F, hX, hXe, hE, hF, ha0, ha1, rE, rF⟩ := of_parts H4.out A.out
        have HX := Aside0.mk (And.intro hX (And.intro hXe (And.intro hE (And.intro hF (And.intro ha0 ha1)))))
        clear hX hXe hE hF ha0 ha1
        by_cases c1 : (E : Int) = 2047
        · by_cases c2 : (F : Int) > 0
          · go_wp2_with fail
            refine (nan_calls _).mono ?_
            rintro e w1 ⟨⟨b, rfl, hb⟩, hw1⟩
            have HB := Aside0.mk hb
            clear hb
            go_wp2
            rw [HT.out]
            refine ⟨⟨b, by rw [HX.out.1]; rfl, .inr ⟨HB.out, ?_⟩⟩, below_step D.out hw1⟩
            obtain ⟨h1, h2, h3, h4, h5, h6⟩ := HX.out
            rw [h1, nan_iff (by omega)]
            exact decide_eq_false (by omega)
          · go_wp2_with fail
            refine (inf_calls _).mono ?_
            rintro e w1 ⟨rfl, hw1⟩
            have DD := Aside0.mk (below_step D.out hw1)
            clear hw1
            have hcell := cell0 (Kd.C_below HR0.out DD.out) (by have := H4.out; omega)
            by_cases c3 : rd l0 0 ≥ 32768
            · go_wp2
              rw [HT.out]
              refine ⟨⟨_, by rw [HX.out.1]; rfl, .inl ?_⟩, DD.out⟩
              obtain ⟨h1, h2, h3, h4, h5, h6⟩ := HX.out
              rw [h1, negF_eq (by omega)]
              omega
            · go_wp2
              rw [HT.out]
              refine ⟨⟨_, by rw [HX.out.1]; rfl, .inl ?_⟩, DD.out⟩
              obtain ⟨h1, h2, h3, h4, h5, h6⟩ := HX.out
              rw [h1]
              omega
        · by_cases c2 : (E : Int) = 0
          · go_wp2_with fail
            rw [ofInt_W (by omega), Int.toNat_natCast]
            refine (scale_calls F (-1074) (by have := HX.out; omega) (by omega) (by omega) _).mono ?_
            rw [W_small F (by have := HX.out; omega)]
            rintro e w1 ⟨rfl, hw1⟩
            have DD := Aside0.mk (below_step D.out hw1)
            clear hw1
            have hcell := cell0 (Kd.C_below HR0.out DD.out) (by have := H4.out; omega)
            by_cases c3 : rd l0 0 ≥ 32768
            · go_wp2
              rw [HT.out]
              refine ⟨⟨_, by rw [HX.out.1]; rfl, .inl ?_⟩, DD.out⟩
              obtain ⟨h1, h2, h3, h4, h5, h6⟩ := HX.out
              rw [h1, negF_eq (by omega)]
              omega
            · go_wp2
              rw [HT.out]
              refine ⟨⟨_, by rw [HX.out.1]; rfl, .inl ?_⟩, DD.out⟩
              obtain ⟨h1, h2, h3, h4, h5, h6⟩ := HX.out
              rw [h1]
              omega
          · have hw := w64 (n := (F : Int) + 4503599627370496) (by omega) (by have := HX.out; omega)
            have hv := w64 (n := (E : Int) - 1075) (by omega) (by have := HX.out; omega)
            go_wp2_with fail
            clear hw hv
            rw [ofInt_W (by omega), show ((F : Int) + 4503599627370496).toNat = F + 4503599627370496 from by omega]
            refine (scale_calls (F + 4503599627370496) ((E : Int) - 1075) (by have := HX.out; omega) (by omega) (by have := HX.out; omega) _).mono ?_
            rw [W_normal (by have := HX.out; omega) (by omega) (by have := HX.out; omega), Int.toNat_natCast]
            rintro e w1 ⟨rfl, hw1⟩
            have DD := Aside0.mk (below_step D.out hw1)
            clear hw1
            have hcell := cell0 (Kd.C_below HR0.out DD.out) (by have := H4.out; omega)
            by_cases c3 : rd l0 0 ≥ 32768
            · go_wp2
              rw [HT.out]
              refine ⟨⟨_, by rw [HX.out.1]; rfl, .inl ?_⟩, DD.out⟩
              obtain ⟨h1, h2, h3, h4, h5, h6⟩ := HX.out
              rw [h1, negF_eq (by omega)]
              omega
            · go_wp2
              rw [HT.out]
              refine ⟨⟨_, by rw [HX.out.1]; rfl, .inl ?_⟩, DD.out⟩
              obtain ⟨h1, h2, h3, h4, h5, h6⟩ := HX.out
              rw [h1]
              omega
  · have h4z : ¬ (l0.length : Int) = 4 := by omega
    have HF := Aside0.mk (show ofF l0 = (0, false) by unfold ofF; rw [if_neg h4])
    go_enter Try.func31, Try.ntmps31
    go_wp2
    go_ret2
    exact ⟨⟨0, by rw [HF.out]; rfl, .inl (by rw [HF.out])⟩, Below.refl _ _⟩
end Go.Proofs.Ytcoaehhoiaijoaa.Fl
namespace Go.Proofs.Ytcoaehhoiaijoaa.Fl
open Go Go.RowKit Go.Proofs.YtcoaehhoiaijoaaW.PrintWords Go.Proofs.Ytcoaehhoiaijoaa.Base Go.Proofs.Ytcoaehhoiaijoaa.Dbl
attribute [-go_sem] binOp_float_cmp_eql binOp_float_cmp_neq binOp_float_cmp_lss binOp_float_cmp_leq
attribute [local go_sem] f_eql f_neq f_lss f_leq bits_run frombits_run
set_option maxHeartbeats 8000000
set_option maxRecDepth 100000
/-- A number's four parts. -/
def part (b i : Nat) : Int := ((b / 2 ^ (48 - 16 * i) % 65536 : Nat) : Int)
def regsP (b : Nat) : List Int := if eqF b b then [part b 0, part b 1, part b 2, part b 3] else [32760, 0, 0, 0]
def arr4 (b k : Nat) : Array Value := #[.int .i64 (if 0 < k then part b 0 else 0), .int .i64 (if 1 < k then part b 1 else 0), .int .i64 (if 2 < k then part b 2 else 0), .int .i64 (if 3 < k then part b 3 else 0)]
def Row4 (w : World) (xs : List Int) (e : Ending) (w' : World) : Prop :=
  (∃ A c, e = .returned (.slice A xs.length c) ∧ xs.length ≤ c ∧ Kd.C (Kd.int .i64) w' A xs.length xs) ∧ Below w.heap.size w w'
theorem made4 : madeCells #[.int .i64 0] 4 = #[.int .i64 0, .int .i64 0, .int .i64 0, .int .i64 0] := by
  unfold madeCells
  rw [show Array.range 4 = #[0, 1, 2, 3] from by decide]
  simp [Nat.mod_one]
theorem and_part (b d : Nat) (hb : b < 18446744073709551616) : wrap64 (Go.bits .and .u64 ((b : Int) / (d : Int)) 65535) = ((b / d % 65536 : Nat) : Int) := by
  have hle : b / d ≤ b := Nat.div_le_self b d
  have e : ((b : Int) / (d : Int)) = ((b / d : Nat) : Int) := rfl
  rw [e]
  generalize b / d = x at hle
  have hx : (BitVec.ofInt 64 (x : Int)).toNat = x := by rw [BitVec.toNat_ofInt]; omega
  have hy : (BitVec.ofInt 64 (65535 : Int)).toNat = 65535 := rfl
  have hm : x &&& 65535 = x % 65536 := Nat.and_two_pow_sub_one_eq_mod x 16
  show wrap64 (IntKind.u64.wrap (((BitVec.ofInt 64 (x : Int)) &&& (BitVec.ofInt 64 (65535 : Int))).toNat : Int)) = _
  rw [BitVec.toNat_and, hx, hy, hm, u64w (by omega) (by omega), w64 (by omega) (by omega)]
theorem regs_calls (b : Nat) (hb : b < 18446744073709551616) (w : World) : Calls Try.prog 33 #[.float .f64 b] w (Row4 w (regsP b)) := by
  cases hn : eqF b b
  · have HP := Aside0.mk (show regsP b = [32760, 0, 0, 0] by unfold regsP; rw [hn]; rfl)
    go_enter Try.func33, Try.ntmps33
    go_wp2_with fail
    refine (isnan_calls _ _).mono ?_
    rintro e w1 ⟨rfl, hw1⟩
    rw [hn]
    go_wp2
    go_ret
    rw [HP.out]
    exact ⟨⟨_, _, rfl, Nat.le_refl _, lit_C w1 [32760, 0, 0, 0] 3 (by decide)⟩, below_alloc hw1 _⟩
  · have HP := Aside0.mk (show regsP b = [part b 0, part b 1, part b 2, part b 3] by unfold regsP; rw [hn]; rfl)
    obtain ⟨T, hT⟩ : ∃ T, T = Row4 w (regsP b) := ⟨_, rfl⟩
    have HT := Aside0.mk hT
    rw [← hT]
    clear hT
    have hmk : ∀ W : World, (Instr.makeSlice 22 (.int .i64 4) (.int .i64 4)).run Try.prog W = .ok (.slice (some ⟨W.heap.size, 0, none⟩) 4 4) (W.alloc (.cells #[.int .i64 0, .int .i64 0, .int .i64 0, .int .i64 0] 3)) :=
      fun W => (print_make_int (P := Try.prog) 22 3 (.int .i64 0) 8 Try.underlying22 (by kernel_rfl) rfl (by decide) 4 (by omega) (by decide) W).trans (by rw [show madeCells #[.int .i64 0] (Int.toNat 4) = #[.int .i64 0, .int .i64 0, .int .i64 0, .int .i64 0] from made4]; rfl)
    go_enter Try.func33, Try.ntmps33
    go_wp2_with fail
    refine (isnan_calls _ _).mono ?_
    rintro e w1 ⟨rfl, hw1⟩
    rw [hn]
    have D1 := Aside0.mk hw1
    clear hw1
    go_wp2
    go_loopg [5, 14] 4 (fun gg s5 s14 wr => ∃ (kk : Nat), kk ≤ 4 ∧ 4 - kk ≤ gg ∧ s14 = .int .i64 kk ∧ wr = w1.alloc (.cells (arr4 b kk) 3))
    case atStart => exact ⟨0, Nat.zero_le _, by omega, rfl, rfl⟩
    case round =>
      obtain ⟨kk, hkk, hg, rfl, rfl⟩ := hrel
      match kk, hkk with
      | 0, _ =>
        have hp := and_part b 281474976710656 hb
        go_wp2
        go_roundg (4 - 1)
        case measure => omega
        case rel =>
          refine ⟨1, by omega, by omega, rfl, ?_⟩
          have hp' : wrap64 (Go.bits .and .u64 ((b : Int) / 281474976710656) 65535) = part b 0 := hp
          rw [hp']
          rfl
      | 1, _ =>
        have hp := and_part b 4294967296 hb
        go_wp2
        go_roundg (4 - 2)
        case measure => omega
        case rel =>
          refine ⟨2, by omega, by omega, rfl, ?_⟩
          have hp' : wrap64 (Go.bits .and .u64 ((b : Int) / 4294967296) 65535) = part b 1 := hp
          rw [hp']
          rfl
      | 2, _ =>
        have hp := and_part b 65536 hb
        go_wp2
        go_roundg (4 - 3)
        case measure => omega
        case rel =>
          refine ⟨3, by omega, by omega, rfl, ?_⟩
          have hp' : wrap64 (Go.bits .and .u64 ((b : Int) / 65536) 65535) = part b 2 := hp
          rw [hp']
          rfl
      | 3, _ =>
        have hp := and_part b 1 hb
        go_wp2
        go_roundg (4 - 4)
        case measure => omega
        case rel =>
          refine ⟨4, by omega, by omega, rfl, ?_⟩
          have hp' : wrap64 (Go.bits .and .u64 ((b : Int)) 65535) = part b 3 := by have h := and_part b 1 hb; rwa [show ((b : Int) / ((1 : Nat) : Int)) = (b : Int) from Int.ediv_one _] at h
          rw [hp']
          rfl
      | 4, _ =>
        go_wp2
        rw [HT.out, HP.out]
        exact ⟨⟨_, _, rfl, Nat.le_refl _, lit_C w1 [part b 0, part b 1, part b 2, part b 3] 3 (by simp)⟩, below_alloc D1.out _⟩
end Go.Proofs.Ytcoaehhoiaijoaa.Fl
