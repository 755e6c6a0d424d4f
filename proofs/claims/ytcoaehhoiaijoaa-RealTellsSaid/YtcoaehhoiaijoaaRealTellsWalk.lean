/- RealTells: what the floats' functions tell is the document's. -/
import Derived.Test.YtcoaehhoiaijoaaRefRegs
import Derived.Test.YtcoaehhoiaijoaaPRealTellsx1
import Derived.BigQuiet
namespace Go.Proofs.Ytcoaehhoiaijoaa.Fl
open Go Go.RowKit Go.Proofs.YtcoaehhoiaijoaaW.PrintWords Go.Proofs.Ytcoaehhoiaijoaa.Base Go.Proofs.Ytcoaehhoiaijoaa.Dbl Go.Proofs.Ytcoaehhoiaijoaa.PRealTells
attribute [-go_sem] binOp_float_cmp_eql binOp_float_cmp_neq binOp_float_cmp_lss binOp_float_cmp_leq binOp_float_cmp_gtr binOp_float_cmp_geq
attribute [local go_sem] f_eql f_neq f_lss f_leq
set_option maxHeartbeats 8000000
set_option maxRecDepth 100000
theorem ints_four (a b c d : Int) : gatewardenref01_Ints.f 9 [a, b, c, d] [a, b, c, d] = some true := by
  unfold gatewardenref01_Ints.f
  rw [if_pos rfl]
  simp [gatewardenref01_Ints.l0, w64]
theorem ofF_lt (l : List Int) : (ofF l).1 < 18446744073709551616 := by
  by_cases h : l.length ≠ 4 ∨ ∃ n ∈ l, ¬ In n
  · rw [ofF_out h]; decide
  · have h4 : l.length = 4 := Classical.byContradiction fun e => h (.inl e)
    have hin : ∀ n ∈ l, In n := fun n hn => Classical.byContradiction fun e => h (.inr ⟨n, hn, e⟩)
    obtain ⟨a, b, c, d, rfl⟩ : ∃ a b c d, l = [a, b, c, d] := by
      match l, h4 with
      | [a, b, c, d], _ => exact ⟨a, b, c, d, rfl⟩
    have ha := hin a (by simp)
    have hb := hin b (by simp)
    have hc := hin c (by simp)
    have hd := hin d (by simp)
    rw [ofF_in ha hb hc hd]
    unfold In at ha hb hc hd
    show word4 a b c d < 18446744073709551616
    unfold word4
    omega
theorem ints_regs (b : Nat) : gatewardenref01_Ints.f 9 (regsP b) (regsP b) = some true := by
  unfold regsP
  split <;> exact ints_four _ _ _ _
theorem same_self (a : Nat) : sameF a a = true := by
  unfold sameF
  cases eqF a a <;> simp
theorem RealTells_calls (A0 : Option Addr) (c0 : Nat) (l0 : List Int) (x lo hi : Nat) (w : World) (hr0 : Kd.C (Kd.int .i64) w A0 l0.length l0) (hx : x < 18446744073709551616) (hl : lo < 18446744073709551616) :
    Calls Try.prog 10 #[.agg #[.slice A0 l0.length c0, .float .f64 x, .float .f64 lo, .float .f64 hi]] w fun e w' => e = .returned (.bool true) ∧ Below w.heap.size w w' := by
  have HR0 := Aside0.mk hr0
  have HX := Aside0.mk (And.intro hx hl)
  clear hr0 hx hl
  have start : ∀ nq : Nat, Below w.heap.size w ((w.alloc (.cells #[.slice A0 l0.length c0, .float .f64 x, .float .f64 lo, .float .f64 hi] 41)).drewN nq) := fun nq => pw_below_drewN (below_alloc (Below.refl _ _) _) nq
  have ST := Aside0.mk start
  clear start
  by_cases h9 : (l0.length : Int) > 9
  · go_enter Try.func10, Try.ntmps10
    go_wp2_with fail
    go_quiet (fail)
    obtain ⟨W0, hW0⟩ : ∃ W0, W0 = (w.alloc (.cells #[.slice A0 l0.length c0, .float .f64 x, .float .f64 lo, .float .f64 hi] 41)).drewN nq := ⟨_, rfl⟩
    rw [← hW0]
    have D0 := Aside0.mk (show Below w.heap.size w W0 by rw [hW0]; exact ST.out nq)
    clear hW0
    go_wp2_with fail
    refine (awake_calls _).mono ?_
    rintro e w1 ⟨rfl, hw1⟩
    go_wp2
    go_ret
    exact ⟨rfl, below_step D0.out hw1⟩
  have HL := Aside0.mk (ofF_lt l0)
  go_enter Try.func10, Try.ntmps10
  go_wp2_with fail
  go_quiet (fail)
  obtain ⟨W0, hW0⟩ : ∃ W0, W0 = (w.alloc (.cells #[.slice A0 l0.length c0, .float .f64 x, .float .f64 lo, .float .f64 hi] 41)).drewN nq := ⟨_, rfl⟩
  rw [← hW0]
  have D0 := Aside0.mk (show Below w.heap.size w W0 by rw [hW0]; exact ST.out nq)
  clear hW0
  go_wp2_with fail
  refine (of_calls A0 c0 l0 _ (Kd.C_below HR0.out D0.out)).mono ?_
  rintro e w1 ⟨rfl, hw1⟩
  have D1 := Aside0.mk (below_step D0.out hw1)
  clear hw1
  go_wp2_with fail
  refine (rof_calls A0 c0 l0 _ (Kd.C_below HR0.out D1.out)).mono ?_
  rintro e w2 ⟨⟨b, rfl, hb⟩, hw2⟩
  have D2 := Aside0.mk (below_step D1.out hw2)
  have HBL := Aside0.mk (show b < 18446744073709551616 by rcases hb with h | h; · rw [h]; exact HL.out
                                                          · exact h.1.2)
  have HS := Aside0.mk (show sameF (ofF l0).1 b = true by
    rcases hb with h | h
    · rw [h]; exact same_self _
    · unfold sameF; rw [h.1.1, h.2]; rfl)
  clear hw2 hb
  go_wp2_with fail
  refine (rsame_calls _ b HL.out HBL.out _).mono ?_
  rw [HS.out]
  rintro e w3 ⟨rfl, hw3⟩
  have D3 := Aside0.mk (below_step D2.out hw3)
  clear hw3
  go_wp2_with fail
  refine (same_calls x lo _).mono ?_
  rintro e w4 ⟨rfl, hw4⟩
  have D4 := Aside0.mk (below_step D3.out hw4)
  clear hw4
  go_wp2_with fail
  refine (rsame_calls x lo HX.out.1 HX.out.2 _).mono ?_
  rintro e w5 ⟨rfl, hw5⟩
  have D5 := Aside0.mk (below_step D4.out hw5)
  clear hw5
  go_wp2_with fail
  refine (same_calls _ _ _).mono ?_
  rw [same_self]
  rintro e w6 ⟨rfl, hw6⟩
  have D6 := Aside0.mk (below_step D5.out hw6)
  clear hw6
  go_wp2_with fail
  refine (rsame_calls b b HBL.out HBL.out _).mono ?_
  rw [same_self]
  rintro e w7 ⟨rfl, hw7⟩
  have D7 := Aside0.mk (below_step D6.out hw7)
  clear hw7
  go_wp2_with fail
  refine (awake_calls _).mono ?_
  rintro e w8 ⟨rfl, hw8⟩
  have D8 := Aside0.mk (below_step D7.out hw8)
  clear hw8
  go_wp2_with fail
  refine (regs_calls x HX.out.1 _).mono ?_
  rintro e w9 ⟨⟨A1, c1, rfl, hc1, hC1⟩, hw9⟩
  have D9 := Aside0.mk (below_step D8.out hw9)
  have C1 := Aside0.mk (And.intro hc1 hC1)
  clear hc1 hC1
  clear hw9
  go_wp2_with fail
  refine (rregs_calls x HX.out.1 _).mono ?_
  rintro e w10 ⟨⟨A2, c2, rfl, hc2, hC2⟩, hw10⟩
  have D10 := Aside0.mk (below_step D9.out hw10)
  have C2 := Aside0.mk (And.intro hc2 hC2)
  have C3 := Aside0.mk (Kd.C_below C1.out.2 hw10)
  clear hc2 hC2
  clear hw10
  go_wp2_with fail
  refine (gatewardenref01_Ints.calls 9 A1 c1 (regsP x) A2 c2 (regsP x) true _ C3.out C1.out.1 C2.out.2 C2.out.1 (ints_regs x)).mono ?_
  rintro e w11 ⟨rfl, hw11⟩
  have D11 := Aside0.mk (below_step D10.out hw11.below)
  clear hw11
  go_wp2_with fail
  refine (within_calls x lo hi _).mono ?_
  rintro e w12 ⟨rfl, hw12⟩
  have D12 := Aside0.mk (below_step D11.out hw12)
  clear hw12
  go_wp2_with fail
  refine (rwithin_calls x lo hi _).mono ?_
  rintro e w13 ⟨rfl, hw13⟩
  have D13 := Aside0.mk (below_step D12.out hw13)
  clear hw13
  go_wp2
  go_ret
  exact ⟨by simp, D13.out⟩
end Go.Proofs.Ytcoaehhoiaijoaa.Fl
