/- AskTells: whether a request may be, its bytes, the request of bytes, are the document's (walked by hand over the functions as printed). -/
import Derived.Test.YtinoabkfekomcaaAskSame
namespace Go.Proofs.Ytinoabkfekomcaa.AskAskSizes
open Go Go.RowKit Go.Proofs.Ytinoabkfekomcaa.PAskSizes Go.Proofs.YtinoabkfekomcaaW.PrintWords Go.Proofs.YtinoabkfekomcaaW.PrintLast Go.Proofs.Ytinoabkfekomcaa.Base Go.Proofs.Ytinoabkfekomcaa.RepAskSizes Go.Proofs.Ytinoabkfekomcaa.CoilAskSizes Go.Proofs.Ytinoabkfekomcaa.Coil
set_option maxHeartbeats 16000000
set_option maxRecDepth 100000
set_option linter.unusedVariables false
theorem both_put (a0 a1 a2 a3 a4 : Int) (l : List Int) (hl : l.length ≤ 3000) : ∃ S u, ask_Put.f 5000 a0 a1 a2 a3 a4 l = some (S, u) ∧ gatewardenref06_Put.f 6000 a0 a1 a2 a3 a4 l = some (S, u) := by
  rcases put_told a0 a1 a2 a3 a4 l with ⟨hr, ht, hp⟩ | ⟨hr, hp⟩
  · exact ⟨_, _, hp, rput_right ht hr⟩
  · exact ⟨_, _, hp, rput_wrong hl hr⟩
theorem getP_len (s : ByteArray) (hs : s.size ≤ 300) : (getP s).2.2.2.2.2.1.length ≤ 65535 := by
  have hz := ext_size s 1
  have h := read_len (bt s 0) (s.extract 1 s.size) (by omega)
  unfold getP
  split
  · exact Nat.zero_le _
  split
  · exact Nat.zero_le _
  split
  · exact Nat.zero_le _
  · exact h
/-- The document's Get, in the words of ask.Get's own. -/
theorem refGet_calls (s : ByteArray) (hs : s.size ≤ 300) (w : World) : Calls Try.prog 33 #[.string s] w (GTold w (getP s)) := by
  have h := refGet_eq s hs
  generalize getP s = g at h ⊢
  obtain ⟨g1, g2, g3, g4, g5, g6, g7⟩ := g
  refine (gatewardenref06_Get.calls 80000 s g1 g2 g3 g4 g5 g6 g7 w h).mono ?_
  rintro e w' ⟨v, he, hr, hb⟩
  exact ⟨⟨v, he, rdr_of hr (Nat.le_refl _)⟩, hb⟩
theorem blk_two (w : World) (o o' : Obj) : ((w.alloc o).alloc o').heap[w.heap.size + 1]? = some o' := by
  have h := blk_new (w.alloc o) o'
  rw [World.size_alloc] at h
  exact h
theorem AskTells_calls (a0 a1 a2 a3 a4 : Int) (A0 : Option Addr) (c0 : Nat) (l0 : List Int) (b0 b1 b2 b3 b4 : Int) (A1 : Option Addr) (c1 : Nat) (l1 : List Int) (s : ByteArray) (w : World) (hr0 : Kd.C (Kd.int .i64) w A0 l0.length l0) (hc0 : l0.length ≤ c0) (hr1 : Kd.C (Kd.int .i64) w A1 l1.length l1) (hc1 : l1.length ≤ c1) :
    Calls Try.prog 10 #[.agg #[.int .i64 a0, .int .i64 a1, .int .i64 a2, .int .i64 a3, .int .i64 a4, .slice A0 l0.length c0], .agg #[.int .i64 b0, .int .i64 b1, .int .i64 b2, .int .i64 b3, .int .i64 b4, .slice A1 l1.length c1], .string s] w fun e w' => e = .returned (.bool true) ∧ Below w.heap.size w w' := by
  obtain ⟨T, hT⟩ : ∃ T : Ending → World → Prop, T = fun e w' => e = .returned (.bool true) ∧ Below w.heap.size w w' := ⟨_, rfl⟩
  have HT := Aside0.mk hT
  rw [← hT]
  clear hT
  by_cases hlen : (l0.length : Int) > 3000
  · go_enter Try.func10, Try.ntmps10
    go_wp2_with fail
    refine (awake_calls _).mono ?_
    rintro e w2 ⟨rfl, hb2⟩
    go_wp2
    rw [HT.out]
    exact ⟨rfl, below_step (below_alloc (below_alloc (Below.refl _ _) _) _) hb2⟩
  by_cases hlen1 : (l1.length : Int) > 3000
  · go_enter Try.func10, Try.ntmps10
    go_wp2_with fail
    refine (awake_calls _).mono ?_
    rintro e w2 ⟨rfl, hb2⟩
    go_wp2
    rw [HT.out]
    exact ⟨rfl, below_step (below_alloc (below_alloc (Below.refl _ _) _) _) hb2⟩
  by_cases hsl : (s.size : Int) > 300
  · go_enter Try.func10, Try.ntmps10
    go_wp2_with fail
    refine (awake_calls _).mono ?_
    rintro e w2 ⟨rfl, hb2⟩
    go_wp2
    rw [HT.out]
    exact ⟨rfl, below_step (below_alloc (below_alloc (Below.refl _ _) _) _) hb2⟩
  have HC := Aside0.mk (And.intro hc0 hc1)
  have HS := Aside0.mk (show s.size ≤ 300 by omega)
  have HK1 := Aside0.mk (known_eq a0 5 (by decide))
  have HK2 := Aside0.mk (show gatewardenref06_Known.f a0 = some (knownP a0) from refKnown_eq a0)
  have HR1 := Aside0.mk (right_eq a0 a1 a2 a3 a4 l0 5000 (by omega))
  have HR2 := Aside0.mk (refRight_eq a0 a1 a2 a3 a4 l0 (by omega) 5000 (by omega))
  have HM1 := Aside0.mk (same_both a0 a1 a2 a3 a4 l0 b0 b1 b2 b3 b4 l1 (by omega) 5000 (by omega)).1
  have HM2 := Aside0.mk (same_both a0 a1 a2 a3 a4 l0 b0 b1 b2 b3 b4 l1 (by omega) 5000 (by omega)).2
  clear hc0 hc1
  obtain ⟨S, u, hp, hq⟩ := both_put a0 a1 a2 a3 a4 l0 (by omega)
  have HP := Aside0.mk hp
  have HQ := Aside0.mk hq
  clear hp hq
  obtain ⟨⟨g1, g2, g3, g4, g5, gl, gc⟩, hg⟩ : ∃ g, getP s = g := ⟨_, rfl⟩
  have HGL := Aside0.mk (getP_len s HS.out)
  rw [hg] at HGL
  have hgl : gl.length ≤ 65535 := HGL.out
  have HI := Aside0.mk (show gatewardenref06_Same.f 70000 g1 g2 g3 g4 g5 gl g1 g2 g3 g4 g5 gl = some true from (same_both g1 g2 g3 g4 g5 gl g1 g2 g3 g4 g5 gl (by omega) 70000 (by omega)).1.trans (congrArg some (decide_eq_true rfl)))
  clear hgl HGL
  have HG := Aside0.mk hg
  clear hg
  have D_1 := Aside0.mk (below_alloc (below_alloc (Below.refl w.heap.size w) (.cells #[.int .i64 a0, .int .i64 a1, .int .i64 a2, .int .i64 a3, .int .i64 a4, .slice A0 l0.length c0] 24)) (.cells #[.int .i64 b0, .int .i64 b1, .int .i64 b2, .int .i64 b3, .int .i64 b4, .slice A1 l1.length c1] 24))
  have A_2 := Aside0.mk (blk_alloc (blk_new w (.cells #[.int .i64 a0, .int .i64 a1, .int .i64 a2, .int .i64 a3, .int .i64 a4, .slice A0 l0.length c0] 24)) (.cells #[.int .i64 b0, .int .i64 b1, .int .i64 b2, .int .i64 b3, .int .i64 b4, .slice A1 l1.length c1] 24))
  have B_3 := Aside0.mk (blk_two w (.cells #[.int .i64 a0, .int .i64 a1, .int .i64 a2, .int .i64 a3, .int .i64 a4, .slice A0 l0.length c0] 24) (.cells #[.int .i64 b0, .int .i64 b1, .int .i64 b2, .int .i64 b3, .int .i64 b4, .slice A1 l1.length c1] 24))
  have Ca_4 := Aside0.mk (Kd.C_below hr0 (below_alloc (below_alloc (Below.refl w.heap.size w) (.cells #[.int .i64 a0, .int .i64 a1, .int .i64 a2, .int .i64 a3, .int .i64 a4, .slice A0 l0.length c0] 24)) (.cells #[.int .i64 b0, .int .i64 b1, .int .i64 b2, .int .i64 b3, .int .i64 b4, .slice A1 l1.length c1] 24)))
  have Cb_5 := Aside0.mk (Kd.C_below hr1 (below_alloc (below_alloc (Below.refl w.heap.size w) (.cells #[.int .i64 a0, .int .i64 a1, .int .i64 a2, .int .i64 a3, .int .i64 a4, .slice A0 l0.length c0] 24)) (.cells #[.int .i64 b0, .int .i64 b1, .int .i64 b2, .int .i64 b3, .int .i64 b4, .slice A1 l1.length c1] 24)))
  clear hr0 hr1
  go_enter Try.func10, Try.ntmps10
  go_wp2_with fail
  refine (ask_Put.calls 5000 a0 a1 a2 a3 a4 A0 c0 l0 S u _ Ca_4.out HC.out.1 HP.out).mono ?_
  rintro e w1 ⟨rfl, hb⟩
  have D_6 := Aside0.mk (below_step D_1.out hb)
  have A_7 := Aside0.mk (blk_below A_2.out hb)
  have B_8 := Aside0.mk (blk_below B_3.out hb)
  have Ca_9 := Aside0.mk (Kd.C_below Ca_4.out hb)
  have Cb_10 := Aside0.mk (Kd.C_below Cb_5.out hb)
  clear D_1 A_2 B_3 Ca_4 Cb_5
  clear hb
  obtain ⟨⟨x00, x01, x02, x03, x04, x05⟩, y0⟩ := six_cells A_7.out
  go_wp2_with fail
  refine (gatewardenref06_Put.calls 6000 a0 a1 a2 a3 a4 A0 c0 l0 S u _ Ca_9.out HC.out.1 HQ.out).mono ?_
  rintro e w2 ⟨rfl, hb⟩
  clear x00 x01 x02 x03 x04 x05 y0
  have D_11 := Aside0.mk (below_step D_6.out hb)
  have A_12 := Aside0.mk (blk_below A_7.out hb)
  have B_13 := Aside0.mk (blk_below B_8.out hb)
  have Ca_14 := Aside0.mk (Kd.C_below Ca_9.out hb)
  have Cb_15 := Aside0.mk (Kd.C_below Cb_10.out hb)
  clear D_6 A_7 B_8 Ca_9 Cb_10
  clear hb
  go_wp2_with fail
  refine (get_calls s (by have := HS.out; omega) _).mono ?_
  rw [HG.out]
  rintro e w3 ⟨⟨v, rfl, ⟨A5, c5, rfl, h5, h6, -⟩⟩, hb⟩
  have D_16 := Aside0.mk (below_step D_11.out hb)
  have A_17 := Aside0.mk (blk_below A_12.out hb)
  have B_18 := Aside0.mk (blk_below B_13.out hb)
  have Ca_19 := Aside0.mk (Kd.C_below Ca_14.out hb)
  have Cb_20 := Aside0.mk (Kd.C_below Cb_15.out hb)
  clear D_11 A_12 B_13 Ca_14 Cb_15
  have Cx_21 := Aside0.mk (h6)
  clear hb
  have Hx := Aside0.mk h5
  clear h5 h6
  have D_22 := Aside0.mk (below_alloc D_16.out (.cells #[.int .i64 g1, .int .i64 g2, .int .i64 g3, .int .i64 g4, .int .i64 g5, .slice A5 gl.length c5] 24))
  have A_23 := Aside0.mk (blk_alloc A_17.out (.cells #[.int .i64 g1, .int .i64 g2, .int .i64 g3, .int .i64 g4, .int .i64 g5, .slice A5 gl.length c5] 24))
  have B_24 := Aside0.mk (blk_alloc B_18.out (.cells #[.int .i64 g1, .int .i64 g2, .int .i64 g3, .int .i64 g4, .int .i64 g5, .slice A5 gl.length c5] 24))
  have Ca_25 := Aside0.mk (Kd.C_below Ca_19.out (below_alloc (Below.refl _ _) (.cells #[.int .i64 g1, .int .i64 g2, .int .i64 g3, .int .i64 g4, .int .i64 g5, .slice A5 gl.length c5] 24)))
  have Cb_26 := Aside0.mk (Kd.C_below Cb_20.out (below_alloc (Below.refl _ _) (.cells #[.int .i64 g1, .int .i64 g2, .int .i64 g3, .int .i64 g4, .int .i64 g5, .slice A5 gl.length c5] 24)))
  have Cx_27 := Aside0.mk (Kd.C_below Cx_21.out (below_alloc (Below.refl _ _) (.cells #[.int .i64 g1, .int .i64 g2, .int .i64 g3, .int .i64 g4, .int .i64 g5, .slice A5 gl.length c5] 24)))
  clear D_16 A_17 B_18 Ca_19 Cb_20 Cx_21
  have X_28 := Aside0.mk (blk_new (w3) (.cells #[.int .i64 g1, .int .i64 g2, .int .i64 g3, .int .i64 g4, .int .i64 g5, .slice A5 gl.length c5] 24))
  go_wp2_with fail
  refine (refGet_calls s (by have := HS.out; omega) _).mono ?_
  rw [HG.out]
  rintro e w4 ⟨⟨v, rfl, ⟨A6, c6, rfl, h5, h6, -⟩⟩, hb⟩
  have D_29 := Aside0.mk (below_step D_22.out hb)
  have A_30 := Aside0.mk (blk_below A_23.out hb)
  have B_31 := Aside0.mk (blk_below B_24.out hb)
  have Ca_32 := Aside0.mk (Kd.C_below Ca_25.out hb)
  have Cb_33 := Aside0.mk (Kd.C_below Cb_26.out hb)
  have Cx_34 := Aside0.mk (Kd.C_below Cx_27.out hb)
  have X_35 := Aside0.mk (blk_below X_28.out hb)
  clear D_22 A_23 B_24 Ca_25 Cb_26 Cx_27 X_28
  have Cy_36 := Aside0.mk (h6)
  clear hb
  have Hy := Aside0.mk h5
  clear h5 h6
  have D_37 := Aside0.mk (below_alloc D_29.out (.cells #[.int .i64 g1, .int .i64 g2, .int .i64 g3, .int .i64 g4, .int .i64 g5, .slice A6 gl.length c6] 24))
  have A_38 := Aside0.mk (blk_alloc A_30.out (.cells #[.int .i64 g1, .int .i64 g2, .int .i64 g3, .int .i64 g4, .int .i64 g5, .slice A6 gl.length c6] 24))
  have B_39 := Aside0.mk (blk_alloc B_31.out (.cells #[.int .i64 g1, .int .i64 g2, .int .i64 g3, .int .i64 g4, .int .i64 g5, .slice A6 gl.length c6] 24))
  have Ca_40 := Aside0.mk (Kd.C_below Ca_32.out (below_alloc (Below.refl _ _) (.cells #[.int .i64 g1, .int .i64 g2, .int .i64 g3, .int .i64 g4, .int .i64 g5, .slice A6 gl.length c6] 24)))
  have Cb_41 := Aside0.mk (Kd.C_below Cb_33.out (below_alloc (Below.refl _ _) (.cells #[.int .i64 g1, .int .i64 g2, .int .i64 g3, .int .i64 g4, .int .i64 g5, .slice A6 gl.length c6] 24)))
  have Cx_42 := Aside0.mk (Kd.C_below Cx_34.out (below_alloc (Below.refl _ _) (.cells #[.int .i64 g1, .int .i64 g2, .int .i64 g3, .int .i64 g4, .int .i64 g5, .slice A6 gl.length c6] 24)))
  have X_43 := Aside0.mk (blk_alloc X_35.out (.cells #[.int .i64 g1, .int .i64 g2, .int .i64 g3, .int .i64 g4, .int .i64 g5, .slice A6 gl.length c6] 24))
  have Cy_44 := Aside0.mk (Kd.C_below Cy_36.out (below_alloc (Below.refl _ _) (.cells #[.int .i64 g1, .int .i64 g2, .int .i64 g3, .int .i64 g4, .int .i64 g5, .slice A6 gl.length c6] 24)))
  clear D_29 A_30 B_31 Ca_32 Cb_33 Cx_34 X_35 Cy_36
  have Y_45 := Aside0.mk (blk_new (w4) (.cells #[.int .i64 g1, .int .i64 g2, .int .i64 g3, .int .i64 g4, .int .i64 g5, .slice A6 gl.length c6] 24))
  go_upto_region 7 with (fail)
  obtain ⟨W0, hW0⟩ : ∃ W0, W0 = w4.alloc (.cells #[.int .i64 g1, .int .i64 g2, .int .i64 g3, .int .i64 g4, .int .i64 g5, .slice A6 gl.length c6] 24) := ⟨_, rfl⟩
  rw [← hW0]
  rw [← hW0] at D_37
  rw [← hW0] at A_38
  rw [← hW0] at B_39
  rw [← hW0] at Ca_40
  rw [← hW0] at Cb_41
  rw [← hW0] at Cx_42
  rw [← hW0] at X_43
  rw [← hW0] at Cy_44
  rw [← hW0] at Y_45
  clear hW0
  have HB := Aside0.mk (Below.refl W0.heap.size W0)
  have HKS : Aside0 (∀ w' : World, Below W0.heap.size W0 w' → (w'.cell? ⟨w.heap.size, 0, none⟩ = some (.int .i64 a0) ∧ w'.cell? ⟨w.heap.size, 1, none⟩ = some (.int .i64 a1) ∧ w'.cell? ⟨w.heap.size, 2, none⟩ = some (.int .i64 a2) ∧ w'.cell? ⟨w.heap.size, 3, none⟩ = some (.int .i64 a3) ∧ w'.cell? ⟨w.heap.size, 4, none⟩ = some (.int .i64 a4) ∧ w'.cell? ⟨w.heap.size, 5, none⟩ = some (.slice A0 l0.length c0) ∧ w'.cell? ⟨w.heap.size + 1, 0, none⟩ = some (.int .i64 b0) ∧ w'.cell? ⟨w.heap.size + 1, 1, none⟩ = some (.int .i64 b1) ∧ w'.cell? ⟨w.heap.size + 1, 2, none⟩ = some (.int .i64 b2) ∧ w'.cell? ⟨w.heap.size + 1, 3, none⟩ = some (.int .i64 b3) ∧ w'.cell? ⟨w.heap.size + 1, 4, none⟩ = some (.int .i64 b4) ∧ w'.cell? ⟨w.heap.size + 1, 5, none⟩ = some (.slice A1 l1.length c1) ∧ w'.cell? ⟨w3.heap.size, 0, none⟩ = some (.int .i64 g1) ∧ w'.cell? ⟨w3.heap.size, 1, none⟩ = some (.int .i64 g2) ∧ w'.cell? ⟨w3.heap.size, 2, none⟩ = some (.int .i64 g3) ∧ w'.cell? ⟨w3.heap.size, 3, none⟩ = some (.int .i64 g4) ∧ w'.cell? ⟨w3.heap.size, 4, none⟩ = some (.int .i64 g5) ∧ w'.cell? ⟨w3.heap.size, 5, none⟩ = some (.slice A5 gl.length c5) ∧ w'.cell? ⟨w4.heap.size, 0, none⟩ = some (.int .i64 g1) ∧ w'.cell? ⟨w4.heap.size, 1, none⟩ = some (.int .i64 g2) ∧ w'.cell? ⟨w4.heap.size, 2, none⟩ = some (.int .i64 g3) ∧ w'.cell? ⟨w4.heap.size, 3, none⟩ = some (.int .i64 g4) ∧ w'.cell? ⟨w4.heap.size, 4, none⟩ = some (.int .i64 g5) ∧ w'.cell? ⟨w4.heap.size, 5, none⟩ = some (.slice A6 gl.length c6))) := Aside0.mk (by
    intro w' hb
    obtain ⟨⟨p00, p01, p02, p03, p04, p05⟩, -⟩ := six_cells (blk_below A_38.out hb)
    obtain ⟨⟨p10, p11, p12, p13, p14, p15⟩, -⟩ := six_cells (blk_below B_39.out hb)
    obtain ⟨⟨p20, p21, p22, p23, p24, p25⟩, -⟩ := six_cells (blk_below X_43.out hb)
    obtain ⟨⟨p30, p31, p32, p33, p34, p35⟩, -⟩ := six_cells (blk_below Y_45.out hb)
    exact ⟨p00, p01, p02, p03, p04, p05, p10, p11, p12, p13, p14, p15, p20, p21, p22, p23, p24, p25, p30, p31, p32, p33, p34, p35⟩)
  have HS0 := HKS.out _ (Below.refl W0.heap.size W0)
  obtain ⟨p00, p01, p02, p03, p04, p05, p10, p11, p12, p13, p14, p15, p20, p21, p22, p23, p24, p25, p30, p31, p32, p33, p34, p35⟩ := HS0
  clear hlen hlen1 hsl
  go_region_held3 (fun w' => w'.cell? ⟨w.heap.size, 0, none⟩ = some (.int .i64 a0) ∧ w'.cell? ⟨w.heap.size, 1, none⟩ = some (.int .i64 a1) ∧ w'.cell? ⟨w.heap.size, 2, none⟩ = some (.int .i64 a2) ∧ w'.cell? ⟨w.heap.size, 3, none⟩ = some (.int .i64 a3) ∧ w'.cell? ⟨w.heap.size, 4, none⟩ = some (.int .i64 a4) ∧ w'.cell? ⟨w.heap.size, 5, none⟩ = some (.slice A0 l0.length c0) ∧ w'.cell? ⟨w.heap.size + 1, 0, none⟩ = some (.int .i64 b0) ∧ w'.cell? ⟨w.heap.size + 1, 1, none⟩ = some (.int .i64 b1) ∧ w'.cell? ⟨w.heap.size + 1, 2, none⟩ = some (.int .i64 b2) ∧ w'.cell? ⟨w.heap.size + 1, 3, none⟩ = some (.int .i64 b3) ∧ w'.cell? ⟨w.heap.size + 1, 4, none⟩ = some (.int .i64 b4) ∧ w'.cell? ⟨w.heap.size + 1, 5, none⟩ = some (.slice A1 l1.length c1) ∧ w'.cell? ⟨w3.heap.size, 0, none⟩ = some (.int .i64 g1) ∧ w'.cell? ⟨w3.heap.size, 1, none⟩ = some (.int .i64 g2) ∧ w'.cell? ⟨w3.heap.size, 2, none⟩ = some (.int .i64 g3) ∧ w'.cell? ⟨w3.heap.size, 3, none⟩ = some (.int .i64 g4) ∧ w'.cell? ⟨w3.heap.size, 4, none⟩ = some (.int .i64 g5) ∧ w'.cell? ⟨w3.heap.size, 5, none⟩ = some (.slice A5 gl.length c5) ∧ w'.cell? ⟨w4.heap.size, 0, none⟩ = some (.int .i64 g1) ∧ w'.cell? ⟨w4.heap.size, 1, none⟩ = some (.int .i64 g2) ∧ w'.cell? ⟨w4.heap.size, 2, none⟩ = some (.int .i64 g3) ∧ w'.cell? ⟨w4.heap.size, 3, none⟩ = some (.int .i64 g4) ∧ w'.cell? ⟨w4.heap.size, 4, none⟩ = some (.int .i64 g5) ∧ w'.cell? ⟨w4.heap.size, 5, none⟩ = some (.slice A6 gl.length c6)) (first | exact HKS.out _ (Below.refl W0.heap.size W0) | exact HKS.out _ HB.out | exact HKS.out _ (pw_below_drewN HB.out _)) (first | (go_at_call 35; refine (gatewardenref06_Known.calls a0 _ _ HK2.out).mono ?_; rintro e w5 ⟨rfl, hd⟩; have hb := hd.below; clear hd; have HN := Aside0.mk (below_step (by first | exact HB.out | exact pw_below_drewN HB.out _) hb); clear HB hb; have HB := Aside0.mk HN.out; clear HN) | (go_at_call 16; refine (ask_Right.calls 5000 a0 a1 a2 a3 a4 A0 c0 l0 _ _ (Kd.C_below Ca_40.out (by first | exact HB.out | exact pw_below_drewN HB.out _)) HC.out.1 HR1.out).mono ?_; rintro e w5 ⟨rfl, hb⟩; have HN := Aside0.mk (below_step (by first | exact HB.out | exact pw_below_drewN HB.out _) hb); clear HB hb; have HB := Aside0.mk HN.out; clear HN) | (go_at_call 31; refine (gatewardenref06_Right.calls 5000 a0 a1 a2 a3 a4 A0 c0 l0 _ _ (Kd.C_below Ca_40.out (by first | exact HB.out | exact pw_below_drewN HB.out _)) HC.out.1 HR2.out).mono ?_; rintro e w5 ⟨rfl, hb⟩; have HN := Aside0.mk (below_step (by first | exact HB.out | exact pw_below_drewN HB.out _) hb); clear HB hb; have HB := Aside0.mk HN.out; clear HN) | (go_at_call 18; refine (gatewardenref06_Same.calls 70000 g1 g2 g3 g4 g5 A5 c5 gl g1 g2 g3 g4 g5 A6 c6 gl true _ (Kd.C_below Cx_42.out (by first | exact HB.out | exact pw_below_drewN HB.out _)) Hx.out (Kd.C_below Cy_44.out (by first | exact HB.out | exact pw_below_drewN HB.out _)) Hy.out HI.out).mono ?_; rintro e w5 ⟨rfl, hb⟩; have HN := Aside0.mk (below_step (by first | exact HB.out | exact pw_below_drewN HB.out _) hb); clear HB hb; have HB := Aside0.mk HN.out; clear HN; clear HI) | (go_at_call 36; refine (ask_Same.calls 5000 a0 a1 a2 a3 a4 A0 c0 l0 b0 b1 b2 b3 b4 A1 c1 l1 _ _ (Kd.C_below Ca_40.out (by first | exact HB.out | exact pw_below_drewN HB.out _)) HC.out.1 (Kd.C_below Cb_41.out (by first | exact HB.out | exact pw_below_drewN HB.out _)) HC.out.2 HM2.out).mono ?_; rintro e w5 ⟨rfl, hb⟩; have HN := Aside0.mk (below_step (by first | exact HB.out | exact pw_below_drewN HB.out _) hb); clear HB hb; have HB := Aside0.mk HN.out; clear HN) | (go_at_call 18; refine (gatewardenref06_Same.calls 5000 a0 a1 a2 a3 a4 A0 c0 l0 b0 b1 b2 b3 b4 A1 c1 l1 _ _ (Kd.C_below Ca_40.out (by first | exact HB.out | exact pw_below_drewN HB.out _)) HC.out.1 (Kd.C_below Cb_41.out (by first | exact HB.out | exact pw_below_drewN HB.out _)) HC.out.2 HM1.out).mono ?_; rintro e w5 ⟨rfl, hb⟩; have HN := Aside0.mk (below_step (by first | exact HB.out | exact pw_below_drewN HB.out _) hb); clear HB hb; have HB := Aside0.mk HN.out; clear HN) | (go_at_call 14; refine (awake_calls _).mono ?_; rintro e w5 ⟨rfl, hb⟩; have HN := Aside0.mk (below_step (by first | exact HB.out | exact pw_below_drewN HB.out _) hb); clear HB hb; have HB := Aside0.mk HN.out; clear HN) | (go_at_call 34; refine (ask_Known.calls 5 a0 _ _ HK1.out).mono ?_; rintro e w5 ⟨rfl, hb⟩; have HN := Aside0.mk (below_step (by first | exact HB.out | exact pw_below_drewN HB.out _) hb); clear HB hb; have HB := Aside0.mk HN.out; clear HN))
  go_wp2
  rw [HT.out]
  refine ⟨rfl, ?_⟩
  have D0 := below_step D_37.out HB.out
  with_reducible (repeat (first | exact D0 | apply below_drew1 | apply pw_below_drewN))
end Go.Proofs.Ytinoabkfekomcaa.AskAskSizes
