/- Texts of this claim, put together (wip/pack.py): Kind47, FactsSpansWalk. -/
import Derived.Test.YtcoaehhoiaijoaaK10
import Derived.Test.YtcoaehhoiaijoaaK17
import Derived.Test.YtcoaehhoiaijoaaK18
namespace Go.Proofs.Ytcoaehhoiaijoaa.PFactsTells
open Go.RowKit Go.Proofs.YtcoaehhoiaijoaaW.PrintWords Go.Proofs.YtcoaehhoiaijoaaW.PrintLast Go.Proofs.YtcoaehhoiaijoaaW.PrintMore
set_option linter.unusedVariables false
set_option linter.unusedSimpArgs false
/-! #### struct type 47 -/
structure S47 where
  f0 : Int
  f1 : Int
  f2 : Int
  f3 : Int
  f4 : Int
  f5 : (List Int)
def z47 : S47 := ⟨(0 : Int), (0 : Int), (0 : Int), (0 : Int), (0 : Int), ([] : List Int)⟩
def k47 : Kd S47 := Kd.iso (Kd.pair (Kd.int .i64) (Kd.pair (Kd.int .i64) (Kd.pair (Kd.int .i64) (Kd.pair (Kd.int .i64) (Kd.pair (Kd.int .i64) (Kd.slice 3 (Kd.int .i64))))))) (fun x : S47 => (x.f0, x.f1, x.f2, x.f3, x.f4, x.f5))
theorem k47_open {w : World} {x : S47} {cs : List Value} (h : k47.K w x cs) : ∃ A5 c5, cs = [.int .i64 x.f0, .int .i64 x.f1, .int .i64 x.f2, .int .i64 x.f3, .int .i64 x.f4, .slice A5 x.f5.length c5] ∧ x.f5.length ≤ c5 ∧ (Kd.int .i64).C w A5 x.f5.length x.f5 := by
  obtain ⟨_, _, rfl, rfl, ⟨_, _, rfl, rfl, ⟨_, _, rfl, rfl, ⟨_, _, rfl, rfl, ⟨_, _, rfl, rfl, ⟨A5, c5, rfl, l5, g5⟩⟩⟩⟩⟩⟩ := h
  exact ⟨A5, c5, rfl, l5, g5⟩
theorem k47_openM {w : World} {base : Nat} {ok : Nat → Prop} {x : S47} {cs : List Value} (h : k47.M w base ok x cs) : ∃ v5, cs = [.int .i64 x.f0, .int .i64 x.f1, .int .i64 x.f2, .int .i64 x.f3, .int .i64 x.f4, v5] ∧ (Kd.int .i64).R 3 w base ok v5 x.f5 := by
  obtain ⟨_, _, rfl, rfl, ⟨_, _, rfl, rfl, ⟨_, _, rfl, rfl, ⟨_, _, rfl, rfl, ⟨_, _, rfl, rfl, ⟨v5, rfl, g5⟩⟩⟩⟩⟩⟩ := h
  exact ⟨v5, rfl, g5⟩
theorem k47_mk (w : World) (x : S47) {A5 : Option Addr} {c5 : Nat} (l5 : x.f5.length ≤ c5) (g5 : (Kd.int .i64).C w A5 x.f5.length x.f5) : k47.K w x [.int .i64 x.f0, .int .i64 x.f1, .int .i64 x.f2, .int .i64 x.f3, .int .i64 x.f4, .slice A5 x.f5.length c5] := ⟨[.int .i64 x.f0], [.int .i64 x.f1, .int .i64 x.f2, .int .i64 x.f3, .int .i64 x.f4, .slice A5 x.f5.length c5], rfl, rfl, ⟨[.int .i64 x.f1], [.int .i64 x.f2, .int .i64 x.f3, .int .i64 x.f4, .slice A5 x.f5.length c5], rfl, rfl, ⟨[.int .i64 x.f2], [.int .i64 x.f3, .int .i64 x.f4, .slice A5 x.f5.length c5], rfl, rfl, ⟨[.int .i64 x.f3], [.int .i64 x.f4, .slice A5 x.f5.length c5], rfl, rfl, ⟨[.int .i64 x.f4], [.slice A5 x.f5.length c5], rfl, rfl, ⟨A5, c5, rfl, l5, g5⟩⟩⟩⟩⟩⟩
theorem k47_mkM (w : World) (base : Nat) (ok : Nat → Prop) (x : S47) {v5 : Value} (g5 : (Kd.int .i64).R 3 w base ok v5 x.f5) : k47.M w base ok x [.int .i64 x.f0, .int .i64 x.f1, .int .i64 x.f2, .int .i64 x.f3, .int .i64 x.f4, v5] := ⟨[.int .i64 x.f0], [.int .i64 x.f1, .int .i64 x.f2, .int .i64 x.f3, .int .i64 x.f4, v5], rfl, rfl, ⟨[.int .i64 x.f1], [.int .i64 x.f2, .int .i64 x.f3, .int .i64 x.f4, v5], rfl, rfl, ⟨[.int .i64 x.f2], [.int .i64 x.f3, .int .i64 x.f4, v5], rfl, rfl, ⟨[.int .i64 x.f3], [.int .i64 x.f4, v5], rfl, rfl, ⟨[.int .i64 x.f4], [v5], rfl, rfl, ⟨v5, rfl, g5⟩⟩⟩⟩⟩⟩
def rd_T47 (xs : List S47) (i : Int) : S47 := xs.getD i.toNat z47
theorem at_T47 {w : World} {A : Option Addr} {n : Nat} {xs : List S47} (h : Kd.C k47 w A n xs) (i : Int) (h0 : 0 ≤ i) (h1 : i < n) : ∃ ad A5 c5, A = some ad ∧ w.cell? (ad.add (i.toNat * 6)) = some (.int .i64 (rd_T47 xs i).f0) ∧ w.cell? ⟨(ad.add (i.toNat * 6)).block, (ad.add (i.toNat * 6)).off + 1, none⟩ = some (.int .i64 (rd_T47 xs i).f1) ∧ w.cell? ⟨(ad.add (i.toNat * 6)).block, (ad.add (i.toNat * 6)).off + 2, none⟩ = some (.int .i64 (rd_T47 xs i).f2) ∧ w.cell? ⟨(ad.add (i.toNat * 6)).block, (ad.add (i.toNat * 6)).off + 3, none⟩ = some (.int .i64 (rd_T47 xs i).f3) ∧ w.cell? ⟨(ad.add (i.toNat * 6)).block, (ad.add (i.toNat * 6)).off + 4, none⟩ = some (.int .i64 (rd_T47 xs i).f4) ∧ w.cell? ⟨(ad.add (i.toNat * 6)).block, (ad.add (i.toNat * 6)).off + 5, none⟩ = some (.slice A5 (rd_T47 xs i).f5.length c5) ∧ (rd_T47 xs i).f5.length ≤ c5 ∧ (Kd.int .i64).C w A5 (rd_T47 xs i).f5.length (rd_T47 xs i).f5 := by
  obtain ⟨ad, c, e, _, hK, hc0⟩ := Kd.C_get h z47 i h0 h1
  have hc : ∀ j u, c[j]? = some u → w.cell? (ad.add (i.toNat * 6 + j)) = some u := hc0
  obtain ⟨A5, c5, rfl, l5, g5⟩ := k47_open hK
  exact ⟨ad, A5, c5, e, hc 0 _ rfl, by rw [← add_field _ _ 1 (by omega)]; exact hc 1 _ rfl, by rw [← add_field _ _ 2 (by omega)]; exact hc 2 _ rfl, by rw [← add_field _ _ 3 (by omega)]; exact hc 3 _ rfl, by rw [← add_field _ _ 4 (by omega)]; exact hc 4 _ rfl, by rw [← add_field _ _ 5 (by omega)]; exact hc 5 _ rfl, l5, g5⟩
end Go.Proofs.Ytcoaehhoiaijoaa.PFactsTells
namespace Go.Proofs.Ytcoaehhoiaijoaa.Range
open Go Go.RowKit Go.Proofs.YtcoaehhoiaijoaaW.PrintWords Go.Proofs.Ytcoaehhoiaijoaa.Base Go.Proofs.Ytcoaehhoiaijoaa.PFactsTells Go.Proofs.Ytcoaehhoiaijoaa.Fact
set_option maxHeartbeats 8000000
set_option maxRecDepth 100000
set_option linter.unusedVariables false
theorem u16_bound {n : Int} (h : (Lit.int .u16 n).wf = true) : 0 ≤ n ∧ n ≤ 65535 := by
  have : IntKind.u16.min ≤ n ∧ n ≤ IntKind.u16.max := by simpa [Lit.wf] using h
  exact this
theorem FactsSpans_calls (a0 a1 a2 a3 a4 : Int) (A : Option Addr) (c : Nat) (l : List Int) (n : Int) (w : World) (hr : Kd.C (Kd.int .i64) w A l.length l) (hc : l.length ≤ c) (hn : 0 ≤ n ∧ n ≤ 65535) :
    Calls Try.prog 11 #[.agg #[.int .i64 a0, .int .i64 a1, .int .i64 a2, .int .i64 a3, .int .i64 a4, .slice A l.length c], .int .u16 n] w fun e w' => e = .returned (.bool true) ∧ Below w.heap.size w w' := by
  have HR := Aside0.mk hr
  have hmax := hr.2.1
  have D0 := Aside0.mk (below_alloc (Below.refl _ w) (.cells #[.int .i64 a0, .int .i64 a1, .int .i64 a2, .int .i64 a3, .int .i64 a4, .slice A l.length c] 47))
  have K0 := Aside0.mk (blk_new w (.cells #[.int .i64 a0, .int .i64 a1, .int .i64 a2, .int .i64 a3, .int .i64 a4, .slice A l.length c] 47))
  clear hr
  by_cases hl : (l.length : Int) > 3000
  · have hld : decide ((l.length : Int) > 3000) = true := decide_eq_true hl
    go_enter Try.func11, Try.ntmps11
    go_wp2_with fail
    refine (awake14 _).mono ?_
    rintro e w1 ⟨rfl, hb⟩
    go_wp2
    go_ret
    exact ⟨rfl, below_step D0.out hb⟩
  have hld : decide ((l.length : Int) > 3000) = false := decide_eq_false hl
  have HQ := Aside0.mk (refRight_eq a0 a1 a2 a3 a4 l (by omega) 5000 (by omega))
  cases hrt : rightP a0 a1 a2 a3 a4 l with
  | false =>
    go_enter Try.func11, Try.ntmps11
    go_wp2_with fail
    refine (gatewardenref06_Right.calls 5000 a0 a1 a2 a3 a4 A c l false _ (Kd.C_below HR.out D0.out) hc (by rw [HQ.out, hrt])).mono ?_
    rintro e w1 ⟨rfl, hb⟩
    have D1 := Aside0.mk (below_step D0.out hb)
    clear hb
    go_wp2_with fail
    refine (awake14 _).mono ?_
    rintro e w2 ⟨rfl, hb⟩
    go_wp2
    go_ret
    exact ⟨rfl, below_step D1.out hb⟩
  | true =>
    have HE := Aside0.mk (ends_of (rt_of hrt))
    go_enter Try.func11, Try.ntmps11
    go_wp2_with fail
    refine (gatewardenref06_Right.calls 5000 a0 a1 a2 a3 a4 A c l true _ (Kd.C_below HR.out D0.out) hc (by rw [HQ.out, hrt])).mono ?_
    rintro e w1 ⟨rfl, hb⟩
    have D1 := Aside0.mk (below_step D0.out hb)
    have K1 := Aside0.mk (blk_below K0.out hb)
    have k0 : w1.cell? ⟨w.heap.size, 0, none⟩ = some (.int .i64 a0) := blk_cell K1.out 0
    have k1 : w1.cell? ⟨w.heap.size, 1, none⟩ = some (.int .i64 a1) := blk_cell K1.out 1
    have k2 : w1.cell? ⟨w.heap.size, 2, none⟩ = some (.int .i64 a2) := blk_cell K1.out 2
    have k3 : w1.cell? ⟨w.heap.size, 3, none⟩ = some (.int .i64 a3) := blk_cell K1.out 3
    have k4 : w1.cell? ⟨w.heap.size, 4, none⟩ = some (.int .i64 a4) := blk_cell K1.out 4
    have k5 : w1.cell? ⟨w.heap.size, 5, none⟩ = some (.slice A l.length c) := blk_cell K1.out 5
    clear hb
    go_wp2_with fail
    refine (facts_Of.calls 0 0 a0 a1 a2 a3 a4 A c l 0 0 a0 (sp a1 a2 a3 a4) l (regs a0 l) _ (Kd.C_below HR.out D1.out) hc (of_right 0 0 a0 l (by omega) HE.out)).mono ?_
    rintro e w2 ⟨v3, v4, v5, rfl, h3, h4, h5, hb⟩
    clear k0 k1 k2 k3 k4 k5
    obtain ⟨A3, c3, rfl, hc3, q3⟩ := Kd.R_reads h3
    obtain ⟨A4, c4, rfl, _, _⟩ := Kd.R_reads h4
    obtain ⟨A5, c5, rfl, _, _⟩ := Kd.R_reads h5
    have hs1 := sp_length HE.out
    have HH := Aside0.mk (has_eq HE.out n)
    generalize sp a1 a2 a3 a4 = s at hs1 HH q3 hc3 h3 ⊢
    have C3 := Aside0.mk (Kd.C_below q3 (below_alloc (Below.refl _ w2) (.cells #[.int .i64 0, .int .i64 0, .int .i64 a0, .slice A3 s.length c3, .slice A4 l.length c4, .slice A5 (regs a0 l).length c5] 51)))
    have D2 := Aside0.mk (below_alloc (below_step D1.out hb) (.cells #[.int .i64 0, .int .i64 0, .int .i64 a0, .slice A3 s.length c3, .slice A4 l.length c4, .slice A5 (regs a0 l).length c5] 51))
    have K2 := Aside0.mk (blk_alloc (blk_below K1.out hb) (.cells #[.int .i64 0, .int .i64 0, .int .i64 a0, .slice A3 s.length c3, .slice A4 l.length c4, .slice A5 (regs a0 l).length c5] 51))
    have F2 := Aside0.mk (blk_new w2 (.cells #[.int .i64 0, .int .i64 0, .int .i64 a0, .slice A3 s.length c3, .slice A4 l.length c4, .slice A5 (regs a0 l).length c5] 51))
    have hne : w.heap.size < w2.heap.size := blk_lt (blk_below K1.out hb)
    clear h3 h4 h5 hb q3
    go_upto_region 4 with (fail)
    obtain ⟨W0, hW0⟩ : ∃ W0, W0 = w2.alloc (.cells #[.int .i64 0, .int .i64 0, .int .i64 a0, .slice A3 s.length c3, .slice A4 l.length c4, .slice A5 (regs a0 l).length c5] 51) := ⟨_, rfl⟩
    rw [← hW0] at C3 D2 K2 F2 ⊢
    clear hW0
    have k1 : W0.cell? ⟨w.heap.size, 1, none⟩ = some (.int .i64 a1) := blk_cell K2.out 1
    have k2 : W0.cell? ⟨w.heap.size, 2, none⟩ = some (.int .i64 a2) := blk_cell K2.out 2
    have k3 : W0.cell? ⟨w.heap.size, 3, none⟩ = some (.int .i64 a3) := blk_cell K2.out 3
    have k4 : W0.cell? ⟨w.heap.size, 4, none⟩ = some (.int .i64 a4) := blk_cell K2.out 4
    obtain ⟨⟨p1, p2, p3, p4⟩, ⟨q1, q2, q3, q4⟩, _⟩ := HE.out
    have hw1 : wrap64 (a1 + a2) = a1 + a2 := w64 (by omega) (by omega)
    have hw2 : wrap64 (a3 + a4) = a3 + a4 := w64 (by omega) (by omega)
    have hwi1 : IntKind.i64.wrap (a1 + a2) = a1 + a2 := by rw [IntKind.wrap_i64]; omega
    have hwi2 : IntKind.i64.wrap (a3 + a4) = a3 + a4 := by rw [IntKind.wrap_i64]; omega
    have hn64 : IntKind.i64.wrap n = n := by rw [IntKind.wrap_i64]; omega
    have hn64' : wrap64 n = n := w64 (by omega) (by omega)
    generalize hB1 : decide (n ≥ a1) = b1 at HH
    generalize hB2 : decide (n < a1 + a2) = b2 at HH
    generalize hB3 : decide (n ≥ a3) = b3 at HH
    generalize hB4 : decide (n < a3 + a4) = b4 at HH
    clear p1 p2 p3 p4 q1 q2 q3 q4
    cases b1 <;> cases b2 <;> cases b3 <;> cases b4
    all_goals
      go_wp2_with fail
      refine (awake14 _).mono ?_
      rintro e w3 ⟨rfl, hb⟩
      have D3 := Aside0.mk (below_step D2.out hb)
      have F3 := Aside0.mk (blk_below F2.out hb)
      have f3 : w3.cell? ⟨w2.heap.size, 3, none⟩ = some (.slice A3 s.length c3) := blk_cell F3.out 3
      have C4 := Aside0.mk (Kd.C_below C3.out hb)
      clear hb k1 k2 k3 k4
      go_wp2_with fail
      refine (gatewardenref04_Has.calls 5 A3 c3 s n _ w3 C4.out hc3 HH.out).mono ?_
      rintro e w4 ⟨rfl, q, rfl⟩
      have f4 : (w3.drewN q).cell? ⟨w2.heap.size, 3, none⟩ = some (.slice A3 s.length c3) := f3
      have D4 := Aside0.mk (pw_below_drewN D3.out q)
      generalize w3.drewN q = w4 at f4 D4 ⊢
      clear f3
      have g1 : decide ((s.length : Int) ≥ 1) = true := decide_eq_true (by omega)
      have g2 : decide ((s.length : Int) ≤ 2) = true := decide_eq_true (by omega)
      go_wp2
      go_ret
      exact ⟨rfl, D4.out⟩
end Go.Proofs.Ytcoaehhoiaijoaa.Range
