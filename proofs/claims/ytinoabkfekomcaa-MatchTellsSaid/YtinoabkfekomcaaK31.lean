/- Texts of this claim, put together (wip/pack.py): MatchTellsWalk, PAskSizesm9. -/
import Derived.Test.YtinoabkfekomcaaK30
import Derived.Test.YtinoabkfekomcaaK1
namespace Go.Proofs.Ytinoabkfekomcaa.AskAskSizes
open Go Go.RowKit Go.Proofs.Ytinoabkfekomcaa.PAskSizes Go.Proofs.YtinoabkfekomcaaW.PrintWords Go.Proofs.YtinoabkfekomcaaW.PrintLast Go.Proofs.Ytinoabkfekomcaa.Base Go.Proofs.Ytinoabkfekomcaa.RepAskSizes Go.Proofs.Ytinoabkfekomcaa.CoilAskSizes Go.Proofs.Ytinoabkfekomcaa.Coil
set_option maxHeartbeats 16000000
set_option maxRecDepth 100000
set_option linter.unusedVariables false
set_option linter.unusedSimpArgs false
theorem fault_both (x : S56) (code : Int) : ∃ r1 r2 r3 r4, match_Fault.f x.f0 x.f1 x.f2 x.f3 x.f4 x.f5.f0 x.f5.f1 x.f5.f2 x.f5.f3 x.f5.f4 x.f5.f5 x.f6 code = some (r1, r2, r3, r4) ∧ gatewardenref21_Fault.f x.f0 x.f1 x.f2 x.f3 x.f4 x.f5.f0 x.f5.f1 x.f5.f2 x.f5.f3 x.f5.f4 x.f5.f5 x.f6 code = some (r1, r2, r3, r4) := by
  unfold match_Fault.f gatewardenref21_Fault.f
  rw [fault_eq, refFault_eq, Option.bind_some, Option.bind_some]
  by_cases h : (faultP x.f5.f0 code).2 = true
  · rw [if_pos h, if_pos h]
    exact ⟨_, _, _, _, rfl, rfl⟩
  · rw [if_neg h, if_neg h]
    exact ⟨_, _, _, _, rfl, rfl⟩
theorem hcells3 {W : World} {g : Nat} {v0 v1 v2 : Value} {t : TypeId} (h : W.heap[g]? = some (.cells #[v0, v1, v2] t (0, 0))) : W.cell? ⟨g, 0, none⟩ = some v0 ∧ W.cell? ⟨g, 1, none⟩ = some v1 ∧ W.cell? ⟨g, 2, none⟩ = some v2 :=
  ⟨(blk_cell h 0).trans rfl, (blk_cell h 1).trans rfl, (blk_cell h 2).trans rfl⟩
theorem MatchTells_calls (A0 : Option Addr) (c0 : Nat) (l0 : List S56) (id unit : Int) (pdu : ByteArray) (code : Int) (w : World) (hr0 : Kd.C k56 w A0 l0.length l0) (hc0 : l0.length ≤ c0) :
    Calls Try.prog 11 #[.slice A0 l0.length c0, .agg #[.int .i64 id, .int .i64 unit, .string pdu], .int .i64 code] w fun e w' => e = .returned (.bool true) ∧ Below w.heap.size w w' := by
  obtain ⟨T, hT⟩ : ∃ T : Ending → World → Prop, T = fun e w' => e = .returned (.bool true) ∧ Below w.heap.size w w' := ⟨_, rfl⟩
  have HT := Aside0.mk hT
  rw [← hT]
  clear hT
  have HC := Aside0.mk hc0
  have K0 := Aside0.mk (blk_new w (.cells #[.int .i64 id, .int .i64 unit, .string pdu] 49))
  have D0 := Aside0.mk (below_alloc (Below.refl w.heap.size w) (.cells #[.int .i64 id, .int .i64 unit, .string pdu] 49))
  have R0 := Aside0.mk (Kd.C_below hr0 (below_alloc (Below.refl w.heap.size w) (.cells #[.int .i64 id, .int .i64 unit, .string pdu] 49)))
  have HK0 : Aside0 (∀ w' : World, Below (w.alloc (.cells #[.int .i64 id, .int .i64 unit, .string pdu] 49)).heap.size (w.alloc (.cells #[.int .i64 id, .int .i64 unit, .string pdu] 49)) w' → (w'.cell? ⟨w.heap.size, 0, none⟩ = some (.int .i64 id) ∧ w'.cell? ⟨w.heap.size, 1, none⟩ = some (.int .i64 unit) ∧ w'.cell? ⟨w.heap.size, 2, none⟩ = some (.string pdu))) := Aside0.mk (fun w' hb => hcells3 (blk_below K0.out hb))
  clear hr0 hc0
  obtain ⟨fw, hfw, hfx⟩ := few_told l0
  have HF := Aside0.mk hfw
  clear hfw
  cases fw
  · clear hfx
    go_enter Try.func11, Try.ntmps11
    go_wp2_with fail
    refine (gatewardenlaw21_few.calls 100 A0 c0 l0 false _ R0.out HC.out HF.out).mono ?_
    rintro e w4 ⟨rfl, hd⟩
    have HB := Aside0.mk hd.below
    clear hd
    obtain ⟨y0, y1, y2⟩ := HK0.out _ HB.out
    have D1 := Aside0.mk (below_step D0.out HB.out)
    go_wp2_with fail
    refine (awake21_calls _).mono ?_
    rintro e w6 ⟨rfl, hb⟩
    go_wp2
    rw [HT.out]
    exact ⟨rfl, below_step D1.out hb⟩
  obtain ⟨hl80, hv⟩ := hfx rfl
  have HV := Aside0.mk hv
  clear hfx hv
  by_cases hs : (pdu.size : Int) > 300
  · have hs' : decide ((pdu.size : Int) > 300) = true := decide_eq_true hs
    go_enter Try.func11, Try.ntmps11
    go_wp2_with fail
    refine (gatewardenlaw21_few.calls 100 A0 c0 l0 true _ R0.out HC.out HF.out).mono ?_
    rintro e w4 ⟨rfl, hd⟩
    have HB := Aside0.mk hd.below
    clear hd
    obtain ⟨y0, y1, y2⟩ := HK0.out _ HB.out
    have D1 := Aside0.mk (below_step D0.out HB.out)
    go_wp2_with fail
    refine (awake21_calls _).mono ?_
    rintro e w6 ⟨rfl, hb⟩
    go_wp2
    rw [HT.out]
    exact ⟨rfl, below_step D1.out hb⟩
  have HS := Aside0.mk (show pdu.size ≤ 300 by omega)
  obtain ⟨rg, hrg, hrx⟩ := right20_told l0 hl80
  have HG := Aside0.mk hrg
  clear hrg hrx
  cases rg
  · skip
    go_enter Try.func11, Try.ntmps11
    go_wp2_with fail
    refine (gatewardenlaw21_few.calls 100 A0 c0 l0 true _ R0.out HC.out HF.out).mono ?_
    rintro e w4 ⟨rfl, hd⟩
    have HB := Aside0.mk hd.below
    clear hd
    obtain ⟨y0, y1, y2⟩ := HK0.out _ HB.out
    go_wp2_with fail
    refine (gatewardenref20_Right.calls 10000 A0 c0 l0 false _ (Kd.C_below R0.out HB.out) HC.out HG.out).mono ?_
    rintro e w5 ⟨rfl, hd⟩
    have hb := hd.below
    have HN := Aside0.mk (below_step HB.out hb)
    clear HB hb hd y0 y1 y2
    have HB := Aside0.mk HN.out
    clear HN
    obtain ⟨y0, y1, y2⟩ := HK0.out _ HB.out
    have D1 := Aside0.mk (below_step D0.out HB.out)
    go_wp2_with fail
    refine (awake21_calls _).mono ?_
    rintro e w6 ⟨rfl, hb⟩
    go_wp2
    rw [HT.out]
    exact ⟨rfl, below_step D1.out hb⟩
  go_enter Try.func11, Try.ntmps11
  go_wp2_with fail
  refine (gatewardenlaw21_few.calls 100 A0 c0 l0 true _ R0.out HC.out HF.out).mono ?_
  rintro e w4 ⟨rfl, hd⟩
  have HB := Aside0.mk hd.below
  clear hd
  obtain ⟨y0, y1, y2⟩ := HK0.out _ HB.out
  go_wp2_with fail
  refine (gatewardenref20_Right.calls 10000 A0 c0 l0 true _ (Kd.C_below R0.out HB.out) HC.out HG.out).mono ?_
  rintro e w5 ⟨rfl, hd⟩
  have hb := hd.below
  have HN := Aside0.mk (below_step HB.out hb)
  clear HB hb hd y0 y1 y2
  have HB := Aside0.mk HN.out
  clear HN
  obtain ⟨y0, y1, y2⟩ := HK0.out _ HB.out
  have D1 := Aside0.mk (below_step D0.out HB.out)
  obtain ⟨r, ok, hm1, hm2, -⟩ := find_both l0 id unit pdu HV.out HS.out
  have HM1 := Aside0.mk hm1
  have HM2 := Aside0.mk hm2
  clear hm1 hm2
  have R1 := Aside0.mk (Kd.C_below R0.out HB.out)
  go_wp2_with fail
  refine (match_Find.calls 8000 A0 c0 l0 id unit pdu r ok _ R1.out HC.out (by omega) HM1.out).mono ?_
  rintro e w6 ⟨rfl, hb⟩
  have HN := Aside0.mk (below_step HB.out hb)
  clear HB hb y0 y1 y2
  have HB := Aside0.mk HN.out
  clear HN
  obtain ⟨y0, y1, y2⟩ := HK0.out _ HB.out
  go_wp2_with fail
  refine (ref21_Find.calls 8000 100 A0 c0 l0 id unit pdu r ok _ (Kd.C_below R0.out HB.out) HC.out (refFind20_eq l0 id hl80) HM2.out).mono ?_
  rintro e w7 ⟨rfl, hb⟩
  have HN := Aside0.mk (below_step HB.out hb)
  clear HB hb y0 y1 y2
  have HB := Aside0.mk HN.out
  clear HN D1 R1
  have D1 := Aside0.mk (below_step D0.out HB.out)
  have R1 := Aside0.mk (Kd.C_below R0.out HB.out)
  have K1 := Aside0.mk (blk_below K0.out HB.out)
  have e1 : (r != r) = false := by simp
  have e2 : (ok != ok) = false := by simp
  clear HM1 HM2 HF HG HS HB HK0 R0 K0 D0
  go_wp2
  clear e1 e2 hs
  go_loopg [11, 12, 13, 14, 15] l0.length (fun gg s11 s12 s13 s14 s15 wr => ∃ kk : Nat, kk ≤ l0.length ∧ l0.length - kk ≤ gg ∧ s11 = .int .i64 kk ∧ Aside0 (Below w7.heap.size w7 wr))
  case atStart => exact ⟨0, Nat.zero_le _, by omega, rfl, ⟨Below.refl _ _⟩⟩
  case round =>
    obtain ⟨kk, hkk, hg, rfl, D⟩ := hrel
    by_cases hlt : kk < l0.length
    · have hltz : ((kk : Int) < (l0.length : Int)) := by omega
      have hltd : decide ((kk : Int) < (l0.length : Int)) = true := decide_eq_true hltz
      obtain ⟨ad, A10, c10, rfl, x0, x1, x2, x3, x4, x5, x6, x7, x8, x9, x10, x11, hl10, hi10⟩ := at_T56 (Kd.C_below R1.out D.out) (kk : Int) (by omega) (by omega)
      generalize rd_T56 l0 (kk : Int) = x at x0 x1 x2 x3 x4 x5 x6 x7 x8 x9 x10 x11 hl10 hi10
      rw [Int.toNat_natCast] at x0 x1 x2 x3 x4 x5 x6 x7 x8 x9 x10 x11
      have HL := Aside0.mk hl10
      have HI := Aside0.mk hi10
      clear hl10 hi10
      obtain ⟨q1, q2, q3, q4, hq1, hq2⟩ := fault_both x code
      have HQ1 := Aside0.mk hq1
      have HQ2 := Aside0.mk hq2
      clear hq1 hq2
      go_wp2_with fail

      have HX : Aside0 (∀ w' : World, Below wr.heap.size wr w' → (w'.cell? (ad.add (kk * 12)) = some (.int .i64 x.f0) ∧ w'.cell? ⟨(ad.add (kk * 12)).block, (ad.add (kk * 12)).off + 1, none⟩ = some (.int .i64 x.f1) ∧ w'.cell? ⟨(ad.add (kk * 12)).block, (ad.add (kk * 12)).off + 2, none⟩ = some (.int .i64 x.f2) ∧ w'.cell? ⟨(ad.add (kk * 12)).block, (ad.add (kk * 12)).off + 3, none⟩ = some (.int .i64 x.f3) ∧ w'.cell? ⟨(ad.add (kk * 12)).block, (ad.add (kk * 12)).off + 4, none⟩ = some (.int .i64 x.f4) ∧ w'.cell? ⟨(ad.add (kk * 12)).block, (ad.add (kk * 12)).off + 5, none⟩ = some (.int .i64 x.f5.f0) ∧ w'.cell? ⟨(ad.add (kk * 12)).block, (ad.add (kk * 12)).off + 6, none⟩ = some (.int .i64 x.f5.f1) ∧ w'.cell? ⟨(ad.add (kk * 12)).block, (ad.add (kk * 12)).off + 7, none⟩ = some (.int .i64 x.f5.f2) ∧ w'.cell? ⟨(ad.add (kk * 12)).block, (ad.add (kk * 12)).off + 8, none⟩ = some (.int .i64 x.f5.f3) ∧ w'.cell? ⟨(ad.add (kk * 12)).block, (ad.add (kk * 12)).off + 9, none⟩ = some (.int .i64 x.f5.f4) ∧ w'.cell? ⟨(ad.add (kk * 12)).block, (ad.add (kk * 12)).off + 10, none⟩ = some (.slice A10 x.f5.f5.length c10) ∧ w'.cell? ⟨(ad.add (kk * 12)).block, (ad.add (kk * 12)).off + 11, none⟩ = some (.int .i64 x.f6))) := Aside0.mk (fun w' hb => ⟨pw_cell_below hb x0, pw_cell_below hb x1, pw_cell_below hb x2, pw_cell_below hb x3, pw_cell_below hb x4, pw_cell_below hb x5, pw_cell_below hb x6, pw_cell_below hb x7, pw_cell_below hb x8, pw_cell_below hb x9, pw_cell_below hb x10, pw_cell_below hb x11⟩)
      refine (match_Fault.calls x.f0 x.f1 x.f2 x.f3 x.f4 x.f5.f0 x.f5.f1 x.f5.f2 x.f5.f3 x.f5.f4 A10 c10 x.f5.f5 x.f6 code q1 q2 q3 q4 _ HI.out HL.out HQ1.out).mono ?_
      rintro e w8 ⟨rfl, hb⟩
      clear x0 x1 x2 x3 x4 x5 x6 x7 x8 x9 x10 x11
      obtain ⟨x0, x1, x2, x3, x4, x5, x6, x7, x8, x9, x10, x11⟩ := HX.out _ hb
      have E1 := Aside0.mk (below_alloc hb (.cells #[.int .i64 q1, .int .i64 q2, .string q3] 49))
      have N1 := Aside0.mk (blk_new w8 (.cells #[.int .i64 q1, .int .i64 q2, .string q3] 49))
      clear hb
      have b8 : (ad.add (kk * 12)).block < w8.heap.size := World.block_lt_of_cell? _ _ x0
      have b9 : (ad.add (kk * 12)).block ≠ w8.heap.size := by omega
      go_wp2_with fail
      clear b8 b9
      refine (gatewardenref21_Fault.calls x.f0 x.f1 x.f2 x.f3 x.f4 x.f5.f0 x.f5.f1 x.f5.f2 x.f5.f3 x.f5.f4 A10 c10 x.f5.f5 x.f6 code q1 q2 q3 q4 _ (Kd.C_below HI.out E1.out) HL.out HQ2.out).mono ?_
      rintro e w9 ⟨rfl, hb⟩
      clear x0 x1 x2 x3 x4 x5 x6 x7 x8 x9 x10 x11
      have E2 := Aside0.mk (below_alloc (below_step E1.out hb) (.cells #[.int .i64 q1, .int .i64 q2, .string q3] 49))
      have N2 := Aside0.mk (blk_new w9 (.cells #[.int .i64 q1, .int .i64 q2, .string q3] 49))
      have N3 := Aside0.mk (blk_alloc (blk_below N1.out hb) (.cells #[.int .i64 q1, .int .i64 q2, .string q3] 49))
      clear hb N1 E1
      have K2 := Aside0.mk (blk_below (blk_below K1.out D.out) E2.out)
      go_upto_region 12 with (fail)
      obtain ⟨W1, hW1⟩ : ∃ W1 : World, W1 = w9.alloc (.cells #[.int .i64 q1, .int .i64 q2, .string q3] 49) := ⟨_, rfl⟩
      rw [← hW1] at E2 N2 N3 K2 ⊢
      clear hW1
      obtain ⟨p0, p1, p2, p3, p4, p5, p6, p7, p8, p9, p10, p11⟩ := HX.out _ E2.out
      have HKS : Aside0 (∀ w' : World, Below W1.heap.size W1 w' → (w'.cell? ⟨w.heap.size, 0, none⟩ = some (.int .i64 id) ∧ w'.cell? ⟨w.heap.size, 1, none⟩ = some (.int .i64 unit) ∧ w'.cell? ⟨w.heap.size, 2, none⟩ = some (.string pdu) ∧ w'.cell? (ad.add (kk * 12)) = some (.int .i64 x.f0) ∧ w'.cell? ⟨(ad.add (kk * 12)).block, (ad.add (kk * 12)).off + 1, none⟩ = some (.int .i64 x.f1) ∧ w'.cell? ⟨(ad.add (kk * 12)).block, (ad.add (kk * 12)).off + 2, none⟩ = some (.int .i64 x.f2) ∧ w'.cell? ⟨(ad.add (kk * 12)).block, (ad.add (kk * 12)).off + 3, none⟩ = some (.int .i64 x.f3) ∧ w'.cell? ⟨(ad.add (kk * 12)).block, (ad.add (kk * 12)).off + 4, none⟩ = some (.int .i64 x.f4) ∧ w'.cell? ⟨(ad.add (kk * 12)).block, (ad.add (kk * 12)).off + 5, none⟩ = some (.int .i64 x.f5.f0) ∧ w'.cell? ⟨(ad.add (kk * 12)).block, (ad.add (kk * 12)).off + 6, none⟩ = some (.int .i64 x.f5.f1) ∧ w'.cell? ⟨(ad.add (kk * 12)).block, (ad.add (kk * 12)).off + 7, none⟩ = some (.int .i64 x.f5.f2) ∧ w'.cell? ⟨(ad.add (kk * 12)).block, (ad.add (kk * 12)).off + 8, none⟩ = some (.int .i64 x.f5.f3) ∧ w'.cell? ⟨(ad.add (kk * 12)).block, (ad.add (kk * 12)).off + 9, none⟩ = some (.int .i64 x.f5.f4) ∧ w'.cell? ⟨(ad.add (kk * 12)).block, (ad.add (kk * 12)).off + 10, none⟩ = some (.slice A10 x.f5.f5.length c10) ∧ w'.cell? ⟨(ad.add (kk * 12)).block, (ad.add (kk * 12)).off + 11, none⟩ = some (.int .i64 x.f6) ∧ w'.cell? ⟨w8.heap.size, 0, none⟩ = some (.int .i64 q1) ∧ w'.cell? ⟨w8.heap.size, 1, none⟩ = some (.int .i64 q2) ∧ w'.cell? ⟨w8.heap.size, 2, none⟩ = some (.string q3) ∧ w'.cell? ⟨w9.heap.size, 0, none⟩ = some (.int .i64 q1) ∧ w'.cell? ⟨w9.heap.size, 1, none⟩ = some (.int .i64 q2) ∧ w'.cell? ⟨w9.heap.size, 2, none⟩ = some (.string q3))) := Aside0.mk (fun w' hb => ⟨(blk_cell (blk_below K2.out hb) 0).trans rfl, (blk_cell (blk_below K2.out hb) 1).trans rfl, (blk_cell (blk_below K2.out hb) 2).trans rfl, pw_cell_below hb p0, pw_cell_below hb p1, pw_cell_below hb p2, pw_cell_below hb p3, pw_cell_below hb p4, pw_cell_below hb p5, pw_cell_below hb p6, pw_cell_below hb p7, pw_cell_below hb p8, pw_cell_below hb p9, pw_cell_below hb p10, pw_cell_below hb p11, (blk_cell (blk_below N3.out hb) 0).trans rfl, (blk_cell (blk_below N3.out hb) 1).trans rfl, (blk_cell (blk_below N3.out hb) 2).trans rfl, (blk_cell (blk_below N2.out hb) 0).trans rfl, (blk_cell (blk_below N2.out hb) 1).trans rfl, (blk_cell (blk_below N2.out hb) 2).trans rfl⟩)
      clear p0 p1 p2 p3 p4 p5 p6 p7 p8 p9 p10 p11 HX K2 N2 N3
      have HB := Aside0.mk (below_drew1 (Below.refl W1.heap.size W1))
      have HW := Aside0.mk (Kd.C_below HI.out E2.out)
      skip
      refine reg_start [0, 1, 2, 3, 4, 5, 6, 7, 8, 9, 10, 11, 12, 13, 15, 16, 17, 18, 19, 14, 20, 21, 22] 23 (fun w' => w'.cell? ⟨w.heap.size, 0, none⟩ = some (.int .i64 id) ∧ w'.cell? ⟨w.heap.size, 1, none⟩ = some (.int .i64 unit) ∧ w'.cell? ⟨w.heap.size, 2, none⟩ = some (.string pdu) ∧ w'.cell? (ad.add (kk * 12)) = some (.int .i64 x.f0) ∧ w'.cell? ⟨(ad.add (kk * 12)).block, (ad.add (kk * 12)).off + 1, none⟩ = some (.int .i64 x.f1) ∧ w'.cell? ⟨(ad.add (kk * 12)).block, (ad.add (kk * 12)).off + 2, none⟩ = some (.int .i64 x.f2) ∧ w'.cell? ⟨(ad.add (kk * 12)).block, (ad.add (kk * 12)).off + 3, none⟩ = some (.int .i64 x.f3) ∧ w'.cell? ⟨(ad.add (kk * 12)).block, (ad.add (kk * 12)).off + 4, none⟩ = some (.int .i64 x.f4) ∧ w'.cell? ⟨(ad.add (kk * 12)).block, (ad.add (kk * 12)).off + 5, none⟩ = some (.int .i64 x.f5.f0) ∧ w'.cell? ⟨(ad.add (kk * 12)).block, (ad.add (kk * 12)).off + 6, none⟩ = some (.int .i64 x.f5.f1) ∧ w'.cell? ⟨(ad.add (kk * 12)).block, (ad.add (kk * 12)).off + 7, none⟩ = some (.int .i64 x.f5.f2) ∧ w'.cell? ⟨(ad.add (kk * 12)).block, (ad.add (kk * 12)).off + 8, none⟩ = some (.int .i64 x.f5.f3) ∧ w'.cell? ⟨(ad.add (kk * 12)).block, (ad.add (kk * 12)).off + 9, none⟩ = some (.int .i64 x.f5.f4) ∧ w'.cell? ⟨(ad.add (kk * 12)).block, (ad.add (kk * 12)).off + 10, none⟩ = some (.slice A10 x.f5.f5.length c10) ∧ w'.cell? ⟨(ad.add (kk * 12)).block, (ad.add (kk * 12)).off + 11, none⟩ = some (.int .i64 x.f6) ∧ w'.cell? ⟨w8.heap.size, 0, none⟩ = some (.int .i64 q1) ∧ w'.cell? ⟨w8.heap.size, 1, none⟩ = some (.int .i64 q2) ∧ w'.cell? ⟨w8.heap.size, 2, none⟩ = some (.string q3) ∧ w'.cell? ⟨w9.heap.size, 0, none⟩ = some (.int .i64 q1) ∧ w'.cell? ⟨w9.heap.size, 1, none⟩ = some (.int .i64 q2) ∧ w'.cell? ⟨w9.heap.size, 2, none⟩ = some (.string q3)) (by kernel_rfl) rfl (HKS.out _ HB.out) (fun hHeld => ?_)
      generalize W1.drew = w2 at HB hHeld ⊢
      repeat (first | (refine reg_pure (v := ?_) (a' := ?_) rfl rfl rfl (by kernel_rfl) (fun _ _ _ h => h) (by rfl) ?_ ?_ ?_; rotate_left; (solve | (intro w'; go_simp; with_reducible rfl)); rotate_left; (solve | (simp only [Act.put, List.setIfInBounds_toArray, List.set_cons_zero, List.set_cons_succ, i64_w, i32_w]; rfl))) | (refine reg_skip (a' := ?_) rfl rfl rfl (by rfl) (by kernel_rfl) (fun _ _ _ h => h) ?_ ?_; rotate_left; (solve | (simp only [Act.put, List.setIfInBounds_toArray, List.set_cons_zero, List.set_cons_succ, i64_w, i32_w]; rfl))) | (refine reg_load (v := ?_) (a' := ?_) rfl rfl rfl (by kernel_rfl) (fun _ _ _ h => h) (by rfl) ?_ hHeld ?_ ?_; rotate_left; (solve | (rintro w' ⟨s0, s1, s2, s3, s4, s5, s6, s7, s8, s9, s10, s11, s12, s13, s14, s15, s16, s17, s18, s19, s20⟩; go_simp; with_reducible rfl)); rotate_left; (solve | (simp only [Act.put, List.setIfInBounds_toArray, List.set_cons_zero, List.set_cons_succ, i64_w, i32_w]; rfl)); intro hHeld))
      refine reg_call rfl rfl rfl (by kernel_rfl) (by rfl) Try.func44 (by kernel_rfl) rfl #[.agg #[.int .i64 x.f0, .int .i64 x.f1, .int .i64 x.f2, .int .i64 x.f3, .int .i64 x.f4, .int .i64 x.f5.f0, .int .i64 x.f5.f1, .int .i64 x.f5.f2, .int .i64 x.f5.f3, .int .i64 x.f5.f4, .slice A10 x.f5.f5.length c10, .int .i64 x.f6], .agg #[.int .i64 id, .int .i64 unit, .string pdu]] rfl (by (try simp only [List.map_toArray, List.map_cons, List.map_nil]); first | done | rfl) ?_
      refine (match_Back.calls x.f0 x.f1 x.f2 x.f3 x.f4 x.f5.f0 x.f5.f1 x.f5.f2 x.f5.f3 x.f5.f4 A10 c10 x.f5.f5 x.f6 id unit pdu x.f3 x.f4 pdu _ (Kd.C_below HW.out HB.out) HL.out rfl).mono ?_
      rintro e w5 ⟨rfl, hb⟩
      have HN := Aside0.mk (below_step HB.out hb)
      clear HB hb
      have HB := Aside0.mk HN.out
      clear HN
      refine ⟨_, rfl, HKS.out _ HB.out, fun hHeld => ?_⟩
      rintro a' ha'
      simp only [Act.put, List.setIfInBounds_toArray, List.set_cons_zero, List.set_cons_succ, i64_w, i32_w] at ha'
      subst ha'
      repeat (first | (refine reg_pure (v := ?_) (a' := ?_) rfl rfl rfl (by kernel_rfl) (fun _ _ _ h => h) (by rfl) ?_ ?_ ?_; rotate_left; (solve | (intro w'; go_simp; with_reducible rfl)); rotate_left; (solve | (simp only [Act.put, List.setIfInBounds_toArray, List.set_cons_zero, List.set_cons_succ, i64_w, i32_w]; rfl))) | (refine reg_skip (a' := ?_) rfl rfl rfl (by rfl) (by kernel_rfl) (fun _ _ _ h => h) ?_ ?_; rotate_left; (solve | (simp only [Act.put, List.setIfInBounds_toArray, List.set_cons_zero, List.set_cons_succ, i64_w, i32_w]; rfl))) | (refine reg_load (v := ?_) (a' := ?_) rfl rfl rfl (by kernel_rfl) (fun _ _ _ h => h) (by rfl) ?_ hHeld ?_ ?_; rotate_left; (solve | (rintro w' ⟨s0, s1, s2, s3, s4, s5, s6, s7, s8, s9, s10, s11, s12, s13, s14, s15, s16, s17, s18, s19, s20⟩; go_simp; with_reducible rfl)); rotate_left; (solve | (simp only [Act.put, List.setIfInBounds_toArray, List.set_cons_zero, List.set_cons_succ, i64_w, i32_w]; rfl)); intro hHeld))
      refine reg_call rfl rfl rfl (by kernel_rfl) (by rfl) Try.func45 (by kernel_rfl) rfl #[.agg #[.int .i64 x.f0, .int .i64 x.f1, .int .i64 x.f2, .int .i64 x.f3, .int .i64 x.f4, .int .i64 x.f5.f0, .int .i64 x.f5.f1, .int .i64 x.f5.f2, .int .i64 x.f5.f3, .int .i64 x.f5.f4, .slice A10 x.f5.f5.length c10, .int .i64 x.f6], .agg #[.int .i64 id, .int .i64 unit, .string pdu]] rfl (by (try simp only [List.map_toArray, List.map_cons, List.map_nil]); first | done | rfl) ?_
      refine (gatewardenref21_Back.calls x.f0 x.f1 x.f2 x.f3 x.f4 x.f5.f0 x.f5.f1 x.f5.f2 x.f5.f3 x.f5.f4 A10 c10 x.f5.f5 x.f6 id unit pdu x.f3 x.f4 pdu _ (Kd.C_below HW.out HB.out) HL.out rfl).mono ?_
      rintro e w5 ⟨rfl, hb⟩
      have HN := Aside0.mk (below_step HB.out hb)
      clear HB hb
      have HB := Aside0.mk HN.out
      clear HN
      refine ⟨_, rfl, HKS.out _ HB.out, fun hHeld => ?_⟩
      rintro a' ha'
      simp only [Act.put, List.setIfInBounds_toArray, List.set_cons_zero, List.set_cons_succ, i64_w, i32_w] at ha'
      subst ha'
      repeat (first | (refine reg_pure (v := ?_) (a' := ?_) rfl rfl rfl (by kernel_rfl) (fun _ _ _ h => h) (by rfl) ?_ ?_ ?_; rotate_left; (solve | (intro w'; go_simp; with_reducible rfl)); rotate_left; (solve | (simp only [Act.put, List.setIfInBounds_toArray, List.set_cons_zero, List.set_cons_succ, i64_w, i32_w]; rfl))) | (refine reg_skip (a' := ?_) rfl rfl rfl (by rfl) (by kernel_rfl) (fun _ _ _ h => h) ?_ ?_; rotate_left; (solve | (simp only [Act.put, List.setIfInBounds_toArray, List.set_cons_zero, List.set_cons_succ, i64_w, i32_w]; rfl))) | (refine reg_load (v := ?_) (a' := ?_) rfl rfl rfl (by kernel_rfl) (fun _ _ _ h => h) (by rfl) ?_ hHeld ?_ ?_; rotate_left; (solve | (rintro w' ⟨s0, s1, s2, s3, s4, s5, s6, s7, s8, s9, s10, s11, s12, s13, s14, s15, s16, s17, s18, s19, s20⟩; go_simp; with_reducible rfl)); rotate_left; (solve | (simp only [Act.put, List.setIfInBounds_toArray, List.set_cons_zero, List.set_cons_succ, i64_w, i32_w]; rfl)); intro hHeld))
      refine reg_done (by kernel_rfl) ?_
      go_wp2
      go_roundg (l0.length - (kk + 1))
      case measure => omega
      case rel => exact ⟨kk + 1, by omega, by omega, by go_num, ⟨below_step (below_step D.out E2.out) HB.out⟩⟩
    · have hltz : ¬ ((kk : Int) < (l0.length : Int)) := by omega
      have hltd : decide ((kk : Int) < (l0.length : Int)) = false := decide_eq_false hltz
      go_wp2_with fail
      refine (awake21_calls _).mono ?_
      rintro e w8 ⟨rfl, hb⟩
      go_wp2
      rw [HT.out]
      exact ⟨rfl, below_step (below_step D1.out D.out) hb⟩
end Go.Proofs.Ytinoabkfekomcaa.AskAskSizes
namespace Go.Proofs.Ytinoabkfekomcaa.PAskSizes
open Go.RowKit Go.Proofs.YtinoabkfekomcaaW.PrintWords Go.Proofs.YtinoabkfekomcaaW.PrintLast Go.Proofs.YtinoabkfekomcaaW.PrintMore
attribute [local go_sem] max2_int min2_int max_two min_two max_three min_three max_four min_four   -- for this text's walks alone
set_option linter.unusedVariables false
set_option linter.unusedSimpArgs false

/-! #### struct type 49 -/
structure S49 where
 f0 : Int
 f1 : Int
 f2 : ByteArray
def z49 : S49 := ⟨(0 : Int), (0 : Int), (⟨#[]⟩ : ByteArray)⟩
def k49 : Kd S49 := Kd.iso (Kd.pair (Kd.int .i64) (Kd.pair (Kd.int .i64) Kd.string)) (fun x : S49 => (x.f0, x.f1, x.f2))
theorem k49_open {w : World} {x : S49} {cs : List Value} (h : k49.K w x cs) : cs = [.int .i64 x.f0, .int .i64 x.f1, .string x.f2] := by
 obtain ⟨_, _, rfl, rfl, ⟨_, _, rfl, rfl, rfl⟩⟩ := h
 exact rfl
theorem k49_openM {w : World} {base : Nat} {ok : Nat → Prop} {x : S49} {cs : List Value} (h : k49.M w base ok x cs) : cs = [.int .i64 x.f0, .int .i64 x.f1, .string x.f2] := by
 obtain ⟨_, _, rfl, rfl, ⟨_, _, rfl, rfl, rfl⟩⟩ := h
 exact rfl
theorem k49_mk (w : World) (x : S49)  : k49.K w x [.int .i64 x.f0, .int .i64 x.f1, .string x.f2] := ⟨[.int .i64 x.f0], [.int .i64 x.f1, .string x.f2], rfl, rfl, ⟨[.int .i64 x.f1], [.string x.f2], rfl, rfl, rfl⟩⟩
theorem k49_mkM (w : World) (base : Nat) (ok : Nat → Prop) (x : S49)  : k49.M w base ok x [.int .i64 x.f0, .int .i64 x.f1, .string x.f2] := ⟨[.int .i64 x.f0], [.int .i64 x.f1, .string x.f2], rfl, rfl, ⟨[.int .i64 x.f1], [.string x.f2], rfl, rfl, rfl⟩⟩
def rd_T49 (xs : List S49) (i : Int) : S49 := xs.getD i.toNat z49
theorem at_T49 {w : World} {A : Option Addr} {n : Nat} {xs : List S49} (h : Kd.C k49 w A n xs) (i : Int) (h0 : 0 ≤ i) (h1 : i < n) : ∃ ad , A = some ad ∧ w.cell? (ad.add (i.toNat * 3)) = some (.int .i64 (rd_T49 xs i).f0) ∧ w.cell? ⟨(ad.add (i.toNat * 3)).block, (ad.add (i.toNat * 3)).off + 1, none⟩ = some (.int .i64 (rd_T49 xs i).f1) ∧ w.cell? ⟨(ad.add (i.toNat * 3)).block, (ad.add (i.toNat * 3)).off + 2, none⟩ = some (.string (rd_T49 xs i).f2) := by
 obtain ⟨ad, c, e, _, hK, hc0⟩ := Kd.C_get h z49 i h0 h1
 have hc : ∀ j u, c[j]? = some u → w.cell? (ad.add (i.toNat * 3 + j)) = some u := hc0
 obtain rfl := k49_open hK
 exact ⟨ad, e, hc 0 _ rfl, by rw [← add_field _ _ 1 (by omega)]; exact hc 1 _ rfl, by rw [← add_field _ _ 2 (by omega)]; exact hc 2 _ rfl⟩
end Go.Proofs.Ytinoabkfekomcaa.PAskSizes
