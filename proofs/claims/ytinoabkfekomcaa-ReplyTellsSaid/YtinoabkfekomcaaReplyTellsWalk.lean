/- ReplyTells: the normal response to any request with any data, which kind any bytes are, and their data, are the document's (walked by hand over the functions as printed). -/
import Derived.Test.YtinoabkfekomcaaReplyTellsPure
namespace Go.Proofs.Ytinoabkfekomcaa.AskAskSizes
open Go Go.RowKit Go.Proofs.Ytinoabkfekomcaa.PAskSizes Go.Proofs.YtinoabkfekomcaaW.PrintWords Go.Proofs.YtinoabkfekomcaaW.PrintLast Go.Proofs.Ytinoabkfekomcaa.Base Go.Proofs.Ytinoabkfekomcaa.RepAskSizes Go.Proofs.Ytinoabkfekomcaa.CoilAskSizes Go.Proofs.Ytinoabkfekomcaa.Coil
set_option maxHeartbeats 16000000
set_option maxRecDepth 100000
set_option linter.unusedVariables false
set_option linter.unusedSimpArgs false
theorem ReplyTells_calls (a0 a1 a2 a3 a4 : Int) (A0 : Option Addr) (c0 : Nat) (l0 : List Int) (A1 : Option Addr) (c1 : Nat) (l1 : List Int) (s : ByteArray) (w : World) (hr0 : Kd.C (Kd.int .i64) w A0 l0.length l0) (hc0 : l0.length ≤ c0) (hr1 : Kd.C (Kd.int .i64) w A1 l1.length l1) (hc1 : l1.length ≤ c1) (hw : Wf l1) :
    Calls Try.prog 6 #[.agg #[.int .i64 a0, .int .i64 a1, .int .i64 a2, .int .i64 a3, .int .i64 a4, .slice A0 l0.length c0], .slice A1 l1.length c1, .string s] w fun e w' => e = .returned (.bool true) ∧ Below w.heap.size w w' := by
  obtain ⟨T, hT⟩ : ∃ T : Ending → World → Prop, T = fun e w' => e = .returned (.bool true) ∧ Below w.heap.size w w' := ⟨_, rfl⟩
  have HT := Aside0.mk hT
  rw [← hT]
  clear hT
  have HAW := Aside0.mk (awake_true 30 (by decide))
  by_cases hl0 : (l0.length : Int) > 3000
  · go_enter Try.func6, Try.ntmps6
    go_wp2_with fail
    refine (gatewardenlaw07_awake.calls 30 true _ HAW.out).mono ?_
    rintro e w2 ⟨rfl, hb2⟩
    go_wp2
    rw [HT.out]
    exact ⟨rfl, below_step (below_alloc (Below.refl _ _) _) hb2⟩
  by_cases hl1 : (l1.length : Int) > 3000
  · go_enter Try.func6, Try.ntmps6
    go_wp2_with fail
    refine (gatewardenlaw07_awake.calls 30 true _ HAW.out).mono ?_
    rintro e w2 ⟨rfl, hb2⟩
    go_wp2
    rw [HT.out]
    exact ⟨rfl, below_step (below_alloc (Below.refl _ _) _) hb2⟩
  by_cases hsl : (s.size : Int) > 300
  · go_enter Try.func6, Try.ntmps6
    go_wp2_with fail
    refine (gatewardenlaw07_awake.calls 30 true _ HAW.out).mono ?_
    rintro e w2 ⟨rfl, hb2⟩
    go_wp2
    rw [HT.out]
    exact ⟨rfl, below_step (below_alloc (Below.refl _ _) _) hb2⟩
  have HC := Aside0.mk (And.intro hc0 hc1)
  have HM1 := Aside0.mk (make_eq a0 a1 a2 a3 a4 l0 l1 hw 8000 (by decide))
  have HM2 := Aside0.mk (refMake_eq a0 a1 a2 a3 a4 l0 l1 (by omega) (by omega) hw 7997 (by decide))
  have HD1 := Aside0.mk (data_eq a0 a1 a2 a3 a4 l0 s (by omega) 8000 (by decide))
  have HD2 := Aside0.mk (refData_eq a0 a1 a2 a3 a4 l0 s (by omega) (by omega) 7995 (by decide))
  have HDL := data_len a0 a1 a2 a3 a4 l0 s (by omega)
  obtain ⟨kd, hk1, hk2⟩ := kind_both a0 a1 a2 a3 a4 l0 s (by omega) (by omega)
  have HK1 := Aside0.mk hk1
  have HK2 := Aside0.mk hk2
  clear hk1 hk2 hc0 hc1 hw
  generalize makeP a0 a1 a2 a3 a4 l0 l1 = mk at HM1 HM2
  generalize dataP a0 a1 a2 a3 a4 l0 s = dt at HD1 HD2 HDL
  obtain ⟨m1, m2⟩ := mk
  obtain ⟨d1, d2⟩ := dt
  have HI := Aside0.mk (ints_same d1 (by have : d1.length ≤ 3000 := HDL; omega) 8000 (by have : d1.length ≤ 3000 := HDL; omega))
  clear HDL
  have D_1 := Aside0.mk (below_alloc (Below.refl w.heap.size w) (.cells #[.int .i64 a0, .int .i64 a1, .int .i64 a2, .int .i64 a3, .int .i64 a4, .slice A0 l0.length c0] 24))
  have A_2 := Aside0.mk (blk_new w (.cells #[.int .i64 a0, .int .i64 a1, .int .i64 a2, .int .i64 a3, .int .i64 a4, .slice A0 l0.length c0] 24))
  have Ca_3 := Aside0.mk (Kd.C_below hr0 (below_alloc (Below.refl w.heap.size w) (.cells #[.int .i64 a0, .int .i64 a1, .int .i64 a2, .int .i64 a3, .int .i64 a4, .slice A0 l0.length c0] 24)))
  have Cd_4 := Aside0.mk (Kd.C_below hr1 (below_alloc (Below.refl w.heap.size w) (.cells #[.int .i64 a0, .int .i64 a1, .int .i64 a2, .int .i64 a3, .int .i64 a4, .slice A0 l0.length c0] 24)))
  clear hr0 hr1
  go_enter Try.func6, Try.ntmps6
  go_wp2_with fail
  refine (reply_Make.calls 8000 a0 a1 a2 a3 a4 A0 c0 l0 A1 c1 l1 m1 m2 _ Ca_3.out HC.out.1 Cd_4.out HC.out.2 HM1.out).mono ?_
  rintro e w1 ⟨rfl, hb⟩
  have D_5 := Aside0.mk (below_step D_1.out hb)
  have A_6 := Aside0.mk (blk_below A_2.out hb)
  have Ca_7 := Aside0.mk (Kd.C_below Ca_3.out hb)
  have Cd_8 := Aside0.mk (Kd.C_below Cd_4.out hb)
  clear D_1 A_2 Ca_3 Cd_4
  clear hb
  obtain ⟨x00, x01, x02, x03, x04, x05⟩ := hcells6 A_6.out
  go_wp2_with fail
  refine (gatewardenref07_Make.calls 8000 a0 a1 a2 a3 a4 A0 c0 l0 A1 c1 l1 m1 m2 _ Ca_7.out HC.out.1 Cd_8.out HC.out.2 HM2.out).mono ?_
  rintro e w2 ⟨rfl, hb⟩
  clear x00 x01 x02 x03 x04 x05
  have D_9 := Aside0.mk (below_step D_5.out hb)
  have A_10 := Aside0.mk (blk_below A_6.out hb)
  have Ca_11 := Aside0.mk (Kd.C_below Ca_7.out hb)
  have Cd_12 := Aside0.mk (Kd.C_below Cd_8.out hb)
  clear D_5 A_6 Ca_7 Cd_8
  clear hb
  obtain ⟨x00, x01, x02, x03, x04, x05⟩ := hcells6 A_10.out
  go_wp2_with fail
  refine (reply_Data.calls 8000 a0 a1 a2 a3 a4 A0 c0 l0 s d1 d2 _ Ca_11.out HC.out.1 HD1.out).mono ?_
  rintro e w3 ⟨v, rfl, hv, hb⟩
  clear x00 x01 x02 x03 x04 x05
  have D_13 := Aside0.mk (below_step D_9.out hb)
  have A_14 := Aside0.mk (blk_below A_10.out hb)
  have Ca_15 := Aside0.mk (Kd.C_below Ca_11.out hb)
  have Cd_16 := Aside0.mk (Kd.C_below Cd_12.out hb)
  clear D_9 A_10 Ca_11 Cd_12
  obtain ⟨A5, c5, rfl, h5, h6⟩ := Kd.R_reads hv
  have Hx := Aside0.mk h5
  have Cx_17 := Aside0.mk (h6)
  clear h5 h6 hv hb
  obtain ⟨x00, x01, x02, x03, x04, x05⟩ := hcells6 A_14.out
  go_wp2_with fail
  refine (gatewardenref07_Data.calls 8000 a0 a1 a2 a3 a4 A0 c0 l0 s d1 d2 _ Ca_15.out HC.out.1 HD2.out).mono ?_
  rintro e w4 ⟨v, rfl, hv, hb⟩
  clear x00 x01 x02 x03 x04 x05
  have D_18 := Aside0.mk (below_step D_13.out hb)
  have A_19 := Aside0.mk (blk_below A_14.out hb)
  have Ca_20 := Aside0.mk (Kd.C_below Ca_15.out hb)
  have Cd_21 := Aside0.mk (Kd.C_below Cd_16.out hb)
  have Cx_22 := Aside0.mk (Kd.C_below Cx_17.out hb)
  clear D_13 A_14 Ca_15 Cd_16 Cx_17
  obtain ⟨A6, c6, rfl, h5, h6⟩ := Kd.R_reads hv
  have Hy := Aside0.mk h5
  have Cy_23 := Aside0.mk (h6)
  clear h5 h6 hv hb
  clear hl0 hl1 hsl
  go_upto_region 7 with (fail)
  have HB := Aside0.mk (below_drew1 (Below.refl w4.heap.size w4))
  have HKS : Aside0 (∀ w' : World, Below w4.heap.size w4 w' → (w'.cell? ⟨w.heap.size, 0, none⟩ = some (.int .i64 a0) ∧ w'.cell? ⟨w.heap.size, 1, none⟩ = some (.int .i64 a1) ∧ w'.cell? ⟨w.heap.size, 2, none⟩ = some (.int .i64 a2) ∧ w'.cell? ⟨w.heap.size, 3, none⟩ = some (.int .i64 a3) ∧ w'.cell? ⟨w.heap.size, 4, none⟩ = some (.int .i64 a4) ∧ w'.cell? ⟨w.heap.size, 5, none⟩ = some (.slice A0 l0.length c0))) := Aside0.mk (fun w' hb => hcells6 (blk_below A_19.out hb))
  refine reg_start [0, 1, 2, 3, 4, 5, 6, 7, 8, 9, 10, 11, 12, 13, 15, 16, 14, 17, 18, 19, 20, 21, 22, 23, 24, 25, 26, 27, 28, 29, 30] 31 (fun w' => w'.cell? ⟨w.heap.size, 0, none⟩ = some (.int .i64 a0) ∧ w'.cell? ⟨w.heap.size, 1, none⟩ = some (.int .i64 a1) ∧ w'.cell? ⟨w.heap.size, 2, none⟩ = some (.int .i64 a2) ∧ w'.cell? ⟨w.heap.size, 3, none⟩ = some (.int .i64 a3) ∧ w'.cell? ⟨w.heap.size, 4, none⟩ = some (.int .i64 a4) ∧ w'.cell? ⟨w.heap.size, 5, none⟩ = some (.slice A0 l0.length c0)) (by kernel_rfl) rfl (HKS.out _ HB.out) (fun hHeld => ?_)
  generalize w4.drew = w5 at HB hHeld ⊢
  repeat (first | (refine reg_pure (v := ?_) (a' := ?_) rfl rfl rfl (by kernel_rfl) (fun _ _ _ h => h) (by rfl) ?_ ?_ ?_; rotate_left; (solve | (intro w'; go_simp; with_reducible rfl)); rotate_left; (solve | (simp only [Act.put, List.setIfInBounds_toArray, List.set_cons_zero, List.set_cons_succ, i64_w, i32_w]; rfl))) | (refine reg_skip (a' := ?_) rfl rfl rfl (by rfl) (by kernel_rfl) (fun _ _ _ h => h) ?_ ?_; rotate_left; (solve | (simp only [Act.put, List.setIfInBounds_toArray, List.set_cons_zero, List.set_cons_succ, i64_w, i32_w]; rfl))) | (refine reg_load (v := ?_) (a' := ?_) rfl rfl rfl (by kernel_rfl) (fun _ _ _ h => h) (by rfl) ?_ hHeld ?_ ?_; rotate_left; (solve | (rintro w' ⟨s0, s1, s2, s3, s4, s5⟩; go_simp; with_reducible rfl)); rotate_left; (solve | (simp only [Act.put, List.setIfInBounds_toArray, List.set_cons_zero, List.set_cons_succ, i64_w, i32_w]; rfl)); intro hHeld))
  refine reg_call rfl rfl rfl (by kernel_rfl) (by rfl) Try.func19 (by kernel_rfl) rfl #[] rfl (by (try simp only [List.map_toArray, List.map_cons, List.map_nil]); first | done | rfl) ?_
  refine (gatewardenlaw07_awake.calls 30 true _ HAW.out).mono ?_
  rintro e w5 ⟨rfl, hb⟩
  have HN := Aside0.mk (below_step HB.out hb)
  clear HB hb
  have HB := Aside0.mk HN.out
  clear HN
  refine ⟨_, rfl, HKS.out _ HB.out, fun hHeld => ?_⟩
  rintro a' ha'
  simp only [Act.put, List.setIfInBounds_toArray, List.set_cons_zero, List.set_cons_succ, i64_w, i32_w] at ha'
  subst ha'
  repeat (first | (refine reg_pure (v := ?_) (a' := ?_) rfl rfl rfl (by kernel_rfl) (fun _ _ _ h => h) (by rfl) ?_ ?_ ?_; rotate_left; (solve | (intro w'; go_simp; with_reducible rfl)); rotate_left; (solve | (simp only [Act.put, List.setIfInBounds_toArray, List.set_cons_zero, List.set_cons_succ, i64_w, i32_w]; rfl))) | (refine reg_skip (a' := ?_) rfl rfl rfl (by rfl) (by kernel_rfl) (fun _ _ _ h => h) ?_ ?_; rotate_left; (solve | (simp only [Act.put, List.setIfInBounds_toArray, List.set_cons_zero, List.set_cons_succ, i64_w, i32_w]; rfl))) | (refine reg_load (v := ?_) (a' := ?_) rfl rfl rfl (by kernel_rfl) (fun _ _ _ h => h) (by rfl) ?_ hHeld ?_ ?_; rotate_left; (solve | (rintro w' ⟨s0, s1, s2, s3, s4, s5⟩; go_simp; with_reducible rfl)); rotate_left; (solve | (simp only [Act.put, List.setIfInBounds_toArray, List.set_cons_zero, List.set_cons_succ, i64_w, i32_w]; rfl)); intro hHeld))
  refine reg_call rfl rfl rfl (by kernel_rfl) (by rfl) Try.func24 (by kernel_rfl) rfl #[.agg #[.int .i64 a0, .int .i64 a1, .int .i64 a2, .int .i64 a3, .int .i64 a4, .slice A0 l0.length c0], .string s] rfl (by (try simp only [List.map_toArray, List.map_cons, List.map_nil]); first | done | rfl) ?_
  refine (reply_Kind.calls 8000 a0 a1 a2 a3 a4 A0 c0 l0 s kd _ (Kd.C_below Ca_20.out HB.out) HC.out.1 HK1.out).mono ?_
  rintro e w5 ⟨rfl, hb⟩
  have HN := Aside0.mk (below_step HB.out hb)
  clear HB hb
  have HB := Aside0.mk HN.out
  clear HN
  refine ⟨_, rfl, HKS.out _ HB.out, fun hHeld => ?_⟩
  rintro a' ha'
  simp only [Act.put, List.setIfInBounds_toArray, List.set_cons_zero, List.set_cons_succ, i64_w, i32_w] at ha'
  subst ha'
  repeat (first | (refine reg_pure (v := ?_) (a' := ?_) rfl rfl rfl (by kernel_rfl) (fun _ _ _ h => h) (by rfl) ?_ ?_ ?_; rotate_left; (solve | (intro w'; go_simp; with_reducible rfl)); rotate_left; (solve | (simp only [Act.put, List.setIfInBounds_toArray, List.set_cons_zero, List.set_cons_succ, i64_w, i32_w]; rfl))) | (refine reg_skip (a' := ?_) rfl rfl rfl (by rfl) (by kernel_rfl) (fun _ _ _ h => h) ?_ ?_; rotate_left; (solve | (simp only [Act.put, List.setIfInBounds_toArray, List.set_cons_zero, List.set_cons_succ, i64_w, i32_w]; rfl))) | (refine reg_load (v := ?_) (a' := ?_) rfl rfl rfl (by kernel_rfl) (fun _ _ _ h => h) (by rfl) ?_ hHeld ?_ ?_; rotate_left; (solve | (rintro w' ⟨s0, s1, s2, s3, s4, s5⟩; go_simp; with_reducible rfl)); rotate_left; (solve | (simp only [Act.put, List.setIfInBounds_toArray, List.set_cons_zero, List.set_cons_succ, i64_w, i32_w]; rfl)); intro hHeld))
  refine reg_call rfl rfl rfl (by kernel_rfl) (by rfl) Try.func25 (by kernel_rfl) rfl #[.agg #[.int .i64 a0, .int .i64 a1, .int .i64 a2, .int .i64 a3, .int .i64 a4, .slice A0 l0.length c0], .string s] rfl (by (try simp only [List.map_toArray, List.map_cons, List.map_nil]); first | done | rfl) ?_
  refine (gatewardenref07_Kind.calls 8000 a0 a1 a2 a3 a4 A0 c0 l0 s kd _ (Kd.C_below Ca_20.out HB.out) HC.out.1 HK2.out).mono ?_
  rintro e w5 ⟨rfl, hb⟩
  have HN := Aside0.mk (below_step HB.out hb)
  clear HB hb
  have HB := Aside0.mk HN.out
  clear HN
  refine ⟨_, rfl, HKS.out _ HB.out, fun hHeld => ?_⟩
  rintro a' ha'
  simp only [Act.put, List.setIfInBounds_toArray, List.set_cons_zero, List.set_cons_succ, i64_w, i32_w] at ha'
  subst ha'
  repeat (first | (refine reg_pure (v := ?_) (a' := ?_) rfl rfl rfl (by kernel_rfl) (fun _ _ _ h => h) (by rfl) ?_ ?_ ?_; rotate_left; (solve | (intro w'; go_simp; with_reducible rfl)); rotate_left; (solve | (simp only [Act.put, List.setIfInBounds_toArray, List.set_cons_zero, List.set_cons_succ, i64_w, i32_w]; rfl))) | (refine reg_skip (a' := ?_) rfl rfl rfl (by rfl) (by kernel_rfl) (fun _ _ _ h => h) ?_ ?_; rotate_left; (solve | (simp only [Act.put, List.setIfInBounds_toArray, List.set_cons_zero, List.set_cons_succ, i64_w, i32_w]; rfl))) | (refine reg_load (v := ?_) (a' := ?_) rfl rfl rfl (by kernel_rfl) (fun _ _ _ h => h) (by rfl) ?_ hHeld ?_ ?_; rotate_left; (solve | (rintro w' ⟨s0, s1, s2, s3, s4, s5⟩; go_simp; with_reducible rfl)); rotate_left; (solve | (simp only [Act.put, List.setIfInBounds_toArray, List.set_cons_zero, List.set_cons_succ, i64_w, i32_w]; rfl)); intro hHeld))
  refine reg_call rfl rfl rfl (by kernel_rfl) (by rfl) Try.func26 (by kernel_rfl) rfl #[.slice A5 d1.length c5, .slice A6 d1.length c6] rfl (by (try simp only [List.map_toArray, List.map_cons, List.map_nil]); first | done | rfl) ?_
  refine (gatewardenref01_Ints.calls 8000 A5 c5 d1 A6 c6 d1 true _ (Kd.C_below Cx_22.out HB.out) Hx.out (Kd.C_below Cy_23.out HB.out) Hy.out HI.out).mono ?_
  rintro e w5 ⟨rfl, hd⟩
  have hb := hd.below
  clear hd
  have HN := Aside0.mk (below_step HB.out hb)
  clear HB hb
  have HB := Aside0.mk HN.out
  clear HN
  refine ⟨_, rfl, HKS.out _ HB.out, fun hHeld => ?_⟩
  rintro a' ha'
  simp only [Act.put, List.setIfInBounds_toArray, List.set_cons_zero, List.set_cons_succ, i64_w, i32_w] at ha'
  subst ha'
  repeat (first | (refine reg_pure (v := ?_) (a' := ?_) rfl rfl rfl (by kernel_rfl) (fun _ _ _ h => h) (by rfl) ?_ ?_ ?_; rotate_left; (solve | (intro w'; go_simp; with_reducible rfl)); rotate_left; (solve | (simp only [Act.put, List.setIfInBounds_toArray, List.set_cons_zero, List.set_cons_succ, i64_w, i32_w]; rfl))) | (refine reg_skip (a' := ?_) rfl rfl rfl (by rfl) (by kernel_rfl) (fun _ _ _ h => h) ?_ ?_; rotate_left; (solve | (simp only [Act.put, List.setIfInBounds_toArray, List.set_cons_zero, List.set_cons_succ, i64_w, i32_w]; rfl))) | (refine reg_load (v := ?_) (a' := ?_) rfl rfl rfl (by kernel_rfl) (fun _ _ _ h => h) (by rfl) ?_ hHeld ?_ ?_; rotate_left; (solve | (rintro w' ⟨s0, s1, s2, s3, s4, s5⟩; go_simp; with_reducible rfl)); rotate_left; (solve | (simp only [Act.put, List.setIfInBounds_toArray, List.set_cons_zero, List.set_cons_succ, i64_w, i32_w]; rfl)); intro hHeld))
  refine reg_done (by kernel_rfl) ?_
  go_wp2
  rw [HT.out]
  refine ⟨rfl, ?_⟩
  have D0 := below_step D_18.out HB.out
  with_reducible (repeat (first | exact D0 | apply below_drew1 | apply pw_below_drewN))
end Go.Proofs.Ytinoabkfekomcaa.AskAskSizes
