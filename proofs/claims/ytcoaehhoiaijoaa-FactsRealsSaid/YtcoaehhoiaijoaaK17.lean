/- Texts of this claim, put together (wip/pack.py): FactsAwake, FactsRealsWalk. -/
import Derived.Test.YtcoaehhoiaijoaaK9
import Derived.Test.YtcoaehhoiaijoaaK12
import Derived.Test.YtcoaehhoiaijoaaK16
namespace Go.Proofs.Ytcoaehhoiaijoaa.Range
open Go Go.RowKit Go.Proofs.YtcoaehhoiaijoaaW.PrintWords Go.Proofs.Ytcoaehhoiaijoaa.Fl Go.Proofs.Ytcoaehhoiaijoaa.Base Go.Proofs.Ytcoaehhoiaijoaa.Dbl Go.Proofs.Ytcoaehhoiaijoaa.PFactsTells
attribute [-go_sem] binOp_float_cmp_eql binOp_float_cmp_neq binOp_float_cmp_lss binOp_float_cmp_leq binOp_float_cmp_gtr binOp_float_cmp_geq
attribute [local go_sem] f_eql f_neq f_lss f_leq
set_option maxHeartbeats 8000000
set_option maxRecDepth 100000
set_option linter.unusedVariables false
theorem lit_C (W : World) (xs : List Int) (hm : xs.length ≤ 1000) : Kd.C (Kd.int .i64) (W.alloc (.cells (nums .i64 xs).toArray 3)) (some ⟨W.heap.size, 0, none⟩) xs.length xs := by
  obtain ⟨A, c, e, _, h⟩ := Kd.R_reads (slices_Clone_int_int.litR W xs 3 hm)
  cases e
  exact h
theorem lit_C' (W : World) (b : Nat) (hb : b = W.heap.size) (xs : List Int) (hm : xs.length ≤ 1000) : Kd.C (Kd.int .i64) (W.alloc (.cells (nums .i64 xs).toArray 3)) (some ⟨b, 0, none⟩) xs.length xs := by
  subst hb; exact lit_C W xs hm
theorem of_awake : facts_Of.f 1 2 16 0 0 10 2 [5, 6] = some (1, 2, 16, [⟨10, 11⟩], [5, 6], [5, 6]) := by
  simp [facts_Of.f, slices_Clone_int_int.f, facts_stretch.f, wrap64]
theorem vals_length (l : List Int) (k : Nat) : (vals l k).length = k := by simp [vals]
theorem reals_row {w : World} {n0 : Nat} {v : Value} {l : List Int} {m : Nat} (h : w.ownsRow n0 37 1 v m (fls (vals l m))) : ∃ A c, v = .slice A m c ∧ Kd.C kf w A m (vals l m) := by
  have e : w.ownsRow n0 37 1 v (vals l m).length (encs (Value.float .f64) (vals l m)) := by rw [vals_length]; exact h
  obtain ⟨A, c, e1, _, e2⟩ := Kd.R_reads (Kd.R_of_own (h1 := fun _ => rfl) (ok := fun _ => True) e (fun _ _ => trivial))
  rw [vals_length] at e1 e2
  exact ⟨A, c, e1, e2⟩
theorem one_real : realsB [16368, 0, 0, 0] ∧ vals [16368, 0, 0, 0] 1 = [4607182418800017408] := by
  have h : ofF [16368, 0, 0, 0] = (4607182418800017408, true) := ofF_in (by unfold In; omega) (by unfold In; omega) (by unfold In; omega) (by unfold In; omega)
  refine ⟨⟨rfl, fun j hj => ?_⟩, ?_⟩
  · obtain rfl : j = 0 := by simp at hj; omega
    show (ofF [16368, 0, 0, 0]).2 = true
    rw [h]
  · show [(ofF [16368, 0, 0, 0]).1] = _
    rw [h]
theorem awake14 (w : World) : Calls Try.prog 37 #[] w fun e w' => e = .returned (.bool true) ∧ Below w.heap.size w w' := by
  go_enter Try.func37, Try.ntmps37
  go_wp2_with fail
  refine (facts_Of.calls 1 2 16 0 0 10 2 (some ⟨w.heap.size, 0, none⟩) 2 [5, 6] 1 2 16 [⟨10, 11⟩] [5, 6] [5, 6] _ (lit_C w [5, 6] (by decide)) (by decide) of_awake).mono ?_
  rintro e w1 ⟨v3, v4, v5, rfl, h3, h4, h5, hb⟩
  obtain ⟨A3, c3, rfl, _, q3⟩ := Kd.R_reads h3
  obtain ⟨A4, c4, rfl, _, q4⟩ := Kd.R_reads h4
  obtain ⟨A5, c5, rfl, _, q5⟩ := Kd.R_reads h5
  have C3 := Aside0.mk q3
  have D1 := Aside0.mk (below_step (below_alloc (Below.refl _ w) (.cells #[.int .i64 5, .int .i64 6] 3)) hb)
  clear h3 h4 h5 hb q3 q4 q5
  go_wp2_with fail
  refine (reals_calls (some ⟨w1.heap.size + 1, 0, none⟩) 4 [16368, 0, 0, 0] _ (lit_C' (w1.alloc (.cells #[.int .i64 1, .int .i64 2, .int .i64 16, .slice A3 1 c3, .slice A4 2 c4, .slice A5 2 c5] 51)) _ (by simp) [16368, 0, 0, 0] (by decide)) (by decide) (by decide)).mono ?_
  rintro e w2 ⟨h | h, hb⟩
  · obtain ⟨_, v, rfl, hrow⟩ := h
    obtain ⟨A6, c6, rfl, q6⟩ := reals_row (l := [16368, 0, 0, 0]) (m := 1) hrow
    rw [one_real.2] at q6
    obtain ⟨ad6, rfl, x6⟩ := at_f q6 0 (by decide) (by decide)
    have x6 : w2.cell? ad6 = some (.float .f64 4607182418800017408) := x6
    have D2 := Aside0.mk (below_step (below_alloc (below_alloc (Below.refl _ w1) (.cells #[.int .i64 1, .int .i64 2, .int .i64 16, .slice A3 1 c3, .slice A4 2 c4, .slice A5 2 c5] 51)) (.cells #[.int .i64 16368, .int .i64 0, .int .i64 0, .int .i64 0] 3)) hb)
    have K2 := Aside0.mk (blk_below (blk_alloc (blk_new w1 (.cells #[.int .i64 1, .int .i64 2, .int .i64 16, .slice A3 1 c3, .slice A4 2 c4, .slice A5 2 c5] 51)) (.cells #[.int .i64 16368, .int .i64 0, .int .i64 0, .int .i64 0] 3)) hb)
    obtain ⟨ad3, rfl, y0, y1⟩ := at_T74 (Kd.C_below C3.out D2.out) 0 (by decide) (by decide)
    have y0 : w2.cell? ad3 = some (.int .i64 10) := y0
    have y1 : w2.cell? ⟨ad3.block, ad3.off + 1, none⟩ = some (.int .i64 11) := y1
    have hq : eqF 4607182418800017408 4607182418800017408 = true := by decide
    clear hrow q6 hb
    have k0 : w2.cell? ⟨w1.heap.size, 0, none⟩ = some (.int .i64 1) := blk_cell K2.out 0
    have k1 : w2.cell? ⟨w1.heap.size, 1, none⟩ = some (.int .i64 2) := blk_cell K2.out 1
    have k2 : w2.cell? ⟨w1.heap.size, 2, none⟩ = some (.int .i64 16) := blk_cell K2.out 2
    have k3 : w2.cell? ⟨w1.heap.size, 3, none⟩ = some (.slice (some ad3) 1 c3) := blk_cell K2.out 3
    have k4 : w2.cell? ⟨w1.heap.size, 4, none⟩ = some (.slice A4 2 c4) := blk_cell K2.out 4
    have k5 : w2.cell? ⟨w1.heap.size, 5, none⟩ = some (.slice A5 2 c5) := blk_cell K2.out 5
    go_wp2_with fail
    go_ret
    exact ⟨rfl, below_step D1.out D2.out⟩
  · exact absurd one_real.1 h.1
end Go.Proofs.Ytcoaehhoiaijoaa.Range
namespace Go.Proofs.Ytcoaehhoiaijoaa.Range
open Go Go.RowKit Go.Proofs.YtcoaehhoiaijoaaW.PrintWords Go.Proofs.Ytcoaehhoiaijoaa.Fl Go.Proofs.Ytcoaehhoiaijoaa.Base Go.Proofs.Ytcoaehhoiaijoaa.Dbl
set_option maxHeartbeats 8000000
set_option maxRecDepth 100000
set_option linter.unusedVariables false
theorem regsP_length (b : Nat) : (regsP b).length = 4 := by unfold regsP; split <;> rfl
theorem ofF_regs (b : Nat) (hb : b < 18446744073709551616) : (ofF (regsP b)).2 = true ∧ sameF (ofF (regsP b)).1 b = true := by
  unfold regsP
  split
  · have hp : ∀ i : Nat, In (Fl.part b i) := by intro i; unfold In Fl.part; constructor <;> omega
    rw [ofF_in (hp 0) (hp 1) (hp 2) (hp 3)]
    have : word4 (Fl.part b 0) (Fl.part b 1) (Fl.part b 2) (Fl.part b 3) = b := by unfold word4 Fl.part; simp; omega
    rw [this]
    exact ⟨rfl, same_self b⟩
  · rename_i h
    rw [ofF_in (by unfold In; omega) (by unfold In; omega) (by unfold In; omega) (by unfold In; omega)]
    refine ⟨rfl, ?_⟩
    have e : eqF (word4 32760 0 0 0) (word4 32760 0 0 0) = false := by decide
    have e2 : eqF b b = false := by simpa using h
    unfold sameF
    rw [e, e2]; rfl
def flat (l : List Nat) : List Int := l.flatMap regsP
theorem flat_length (l : List Nat) : (flat l).length = 4 * l.length := by
  induction l with
  | nil => rfl
  | cons x t ih => unfold flat at ih ⊢; rw [List.flatMap_cons, List.length_append, ih, regsP_length, List.length_cons]; omega
theorem flat_snoc (l : List Nat) (x : Nat) : flat (l ++ [x]) = flat l ++ regsP x := by unfold flat; simp
theorem chunk_flat (l : List Nat) : ∀ j : Nat, j < l.length → chunk (flat l) j = regsP (rdOf 0 l (j : Int)) := by
  induction l with
  | nil => intro j h; exact absurd h (Nat.not_lt_zero _)
  | cons x t ih =>
    intro j h
    have e : flat (x :: t) = regsP x ++ flat t := by unfold flat; simp
    cases j with
    | zero =>
      unfold chunk
      rw [e, Nat.mul_zero, List.drop_zero, List.take_append_of_le_length (by rw [regsP_length]; exact Nat.le_refl _), List.take_of_length_le (by rw [regsP_length]; exact Nat.le_refl _)]
      rfl
    | succ j =>
      have h' : j < t.length := by simpa using h
      have := ih j h'
      unfold chunk at this ⊢
      rw [e, show 4 * (j + 1) = (regsP x).length + 4 * j from by rw [regsP_length]; omega, List.drop_append, List.drop_eq_nil_of_le (by omega), List.nil_append, Nat.add_sub_cancel_left, this]
      simp [rdOf]
theorem flat_real (l : List Nat) (hlt : ∀ j : Nat, j < l.length → rdOf 0 l (j : Int) < 18446744073709551616) : realsB (flat l) ∧ (flat l).length / 4 = l.length ∧ ∀ j : Nat, j < l.length → sameF (rdOf 0 (vals (flat l) l.length) (j : Int)) (rdOf 0 l (j : Int)) = true ∧ rdOf 0 (vals (flat l) l.length) (j : Int) < 18446744073709551616 := by
  have e4 : (flat l).length / 4 = l.length := by rw [flat_length]; omega
  refine ⟨⟨by rw [flat_length]; omega, fun j hj => ?_⟩, e4, fun j hj => ?_⟩
  · rw [e4] at hj
    rw [chunk_flat l j hj]
    exact (ofF_regs _ (hlt j hj)).1
  · have : rdOf 0 (vals (flat l) l.length) (j : Int) = (ofF (chunk (flat l) j)).1 := by
      simp [rdOf, vals, List.getD_eq_getElem?_getD, List.getElem?_map, List.getElem?_range hj]
    rw [this]
    refine ⟨?_, ofF_lt _⟩
    rw [chunk_flat l j hj]
    exact (ofF_regs _ (hlt j hj)).2
theorem flat_take (l : List Nat) (k : Nat) (h : k < l.length) : flat (l.take (k + 1)) = flat (l.take k) ++ regsP (rdOf 0 l (k : Int)) := by
  rw [List.take_succ_eq_append_getElem h, flat_snoc]
  simp [rdOf, List.getD_eq_getElem?_getD, List.getElem?_eq_getElem h]
theorem FactsReals_calls (A0 : Option Addr) (c0 : Nat) (l : List Nat) (w : World) (hr0 : Kd.C kf w A0 l.length l) (hlt : ∀ j : Nat, j < l.length → rdOf 0 l (j : Int) < 18446744073709551616) (hm : l.length ≤ 9223372036854775807) :
    Calls Try.prog 12 #[.slice A0 l.length c0] w fun e w' => e = .returned (.bool true) ∧ Below w.heap.size w w' := by
  have HR0 := Aside0.mk hr0
  have HLT := Aside0.mk hlt
  clear hr0 hlt
  by_cases h20 : (l.length : Int) > 20
  · go_enter Try.func12, Try.ntmps12
    go_wp2_with fail
    refine (awake14 _).mono ?_
    rintro e w1 ⟨rfl, hb⟩
    go_wp2
    go_ret
    exact ⟨rfl, hb⟩
  · go_enter Try.func12, Try.ntmps12
    go_wp2_with fail
    go_loopg [3, 4] l.length (fun gg s3 s4 wr => ∃ (kk : Nat) (v : Value), kk ≤ l.length ∧ l.length - kk ≤ gg ∧ s3 = v ∧ s4 = .int .i64 (kk : Int) ∧ Aside0 (wr.ownsRow w.heap.size 3 1 v (flat (l.take kk)).length (encs (Value.int .i64) (flat (l.take kk)))) ∧ Aside0 (Below w.heap.size w wr))
    case atStart => exact ⟨0, _, Nat.zero_le _, by omega, rfl, rfl, ⟨World.ownsRow_nil _ _ _ _⟩, ⟨Below.refl _ _⟩⟩
    case round =>
      obtain ⟨kk, v, hkk, hg, rfl, rfl, HO, D⟩ := hrel
      by_cases hlt : kk < l.length
      · have hltz : (kk : Int) < (l.length : Int) := by omega
        obtain ⟨ad, hA, hca⟩ := at_f (Kd.C_below HR0.out D.out) (kk : Int) (by omega) (by omega)
        subst hA
        rw [Int.toNat_natCast] at hca
        have HT := Aside0.mk (flat_take l kk hlt)
        have HX := Aside0.mk (HLT.out kk hlt)
        generalize rdOf 0 l (kk : Int) = x at hca HT HX
        go_wp2_with fail
        refine (rregs_calls x HX.out _).mono ?_
        rintro e w2 ⟨⟨A1, c1, rfl, hc1, hr1⟩, hb⟩
        have D2 := Aside0.mk (below_step D.out hb)
        have HO2 := Aside0.mk (own_below HO.out hb)
        have HR1 := Aside0.mk hr1
        have HL1 := Aside0.mk (show (flat (l.take kk)).length ≤ 80 by rw [flat_length, List.length_take]; omega)
        have HL2 := Aside0.mk (regsP_length x)
        clear hb hr1 HO D hca
        go_wp2_with ((with_reducible refine gate_builtin (b := .append) (xs := #[.tmp 17, .tmp 22]) rfl ?_); at_builtin; refine print_append_row_of (w0 := w) (Value.int .i64) (0 : Int) w.heap.size rfl (.tmp 17) (.tmp 22) 22 3 (.int .i64 0) 8 rfl Try.underlying22 infoI rfl (by omega) (fun _ => rfl) _ (flat (l.take kk)) (regsP x) _ _ _ rfl rfl HO2.out (Kd.reads_of_C HR1.out) D2.out D2.out.size (by have := HL1.out; have := HL2.out; omega) ?_; intro v3 w3 ho hb _ _; rw [← HT.out] at ho; have HO3 := Aside0.mk ho; have D3 := Aside0.mk hb; clear ho hb)
        go_roundg (l.length - (kk + 1))
        case measure => omega
        case rel => exact ⟨kk + 1, _, by omega, by omega, rfl, by go_num, ⟨HO3.out⟩, ⟨D3.out⟩⟩
      · have hltz : ¬ (kk : Int) < (l.length : Int) := by omega
        obtain rfl : kk = l.length := by omega
        obtain ⟨h1, h2, h3⟩ := flat_real l HLT.out
        obtain ⟨Ar, cr, rfl, hcr, hrr⟩ := Kd.R_reads (Kd.R_of_own (enc := Value.int .i64) (h1 := fun _ => rfl) (ok := fun _ => True) HO.out (fun _ _ => trivial))
        rw [List.take_length] at hcr hrr ⊢
        have HRR := Aside0.mk hrr
        have H1 := Aside0.mk h1
        have H2 := Aside0.mk h2
        have H3 := Aside0.mk h3
        have HL1 := Aside0.mk (show (flat l).length ≤ 80 by rw [flat_length]; omega)
        clear hrr h1 h2 h3 HO
        go_wp2_with fail
        refine (reals_calls Ar cr (flat l) _ HRR.out hcr (by have := HL1.out; omega)).mono ?_
        rintro e w2 ⟨h | h, hb⟩
        · obtain ⟨_, v, rfl, hrow⟩ := h
          rw [H2.out] at hrow
          obtain ⟨A6, c6, rfl, q6⟩ := reals_row hrow
          have D2 := Aside0.mk (below_step D.out hb)
          have Q6 := Aside0.mk q6
          clear hrow q6 hb
          go_wp2_with fail
          refine (awake14 _).mono ?_
          rintro e w3 ⟨rfl, hb⟩
          have D3 := Aside0.mk (below_step D2.out hb)
          have hf := floats_calls A6 A0 c6 c0 (vals (flat l) l.length) l w3 (by rw [vals_length]; exact Kd.C_below Q6.out hb) (Kd.C_below HR0.out D3.out) (vals_length _ _) (by rw [vals_length]; omega) (by rw [vals_length]; exact fun j hj => ⟨(H3.out j hj).1, (H3.out j hj).2, HLT.out j hj⟩)
          rw [vals_length] at hf
          have HF := Aside0.mk hf
          clear hb hf
          go_wp2_with fail
          refine HF.out.mono ?_
          rintro e w4 ⟨rfl, hb⟩
          have D4 := Aside0.mk (below_step D3.out hb)
          clear hb
          go_wp2
          go_ret
          exact ⟨rfl, D4.out⟩
        · exact absurd H1.out h.1
end Go.Proofs.Ytcoaehhoiaijoaa.Range
