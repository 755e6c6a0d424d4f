/- Texts of this claim, put together (wip/pack.py): SpanTellsLaw. -/
import Derived.Test.YtedmjfngpofoaaaK16
namespace Go.Proofs.Ytedmjfngpofoaaa.PSpanTells
open Go Go.RowKit Go.Proofs.YtedmjfngpofoaaaW.PrintWords Go.Proofs.YtedmjfngpofoaaaW.PrintLast Go.Proofs.YtedmjfngpofoaaaW.PrintMore Go.Proofs.Ytedmjfngpofoaaa.Spans Go.Proofs.Ytedmjfngpofoaaa.Base
set_option maxHeartbeats 2000000
set_option maxRecDepth 100000
set_option linter.unusedVariables false
set_option linter.unusedSimpArgs false
theorem refHas_loop (l : List R) (n : Int) (hl : l.length ≤ 1099511627776) (d : Nat) : ∀ (k i : Nat), i ≤ l.length → l.length - i = d → d < k →
    gatewardenref04_Has.l0 k l n (i : Int) = some ((l.drop i).any fun x => decide (x.f0 ≤ n) && decide (n ≤ x.f1)) := by
  induction d with
  | zero =>
    intro k i h hd hk
    obtain ⟨k, rfl⟩ : ∃ m, k = m + 1 := ⟨k - 1, by omega⟩
    obtain rfl : i = l.length := by omega
    simp only [gatewardenref04_Has.l0]
    rw [if_neg (by omega), List.drop_length]
    rfl
  | succ d ih =>
    intro k i h hd hk
    obtain ⟨k, rfl⟩ : ∃ m, k = m + 1 := ⟨k - 1, by omega⟩
    have hlt : i < l.length := by omega
    have hrd : rd_T26 l (i : Int) = l[i] := Spans.rdR l i hlt
    have hwr : wrap64 ((i : Int) + 1) = ((i + 1 : Nat) : Int) := by rw [w64 (by omega) (by omega)]; omega
    simp only [gatewardenref04_Has.l0]
    rw [if_pos (by omega), if_pos (by omega), hrd, List.drop_eq_getElem_cons hlt, List.any_cons, hwr, ih k (i + 1) (by omega) (by omega) (by omega)]
    by_cases h0 : l[i].f0 ≤ n
    · rw [if_pos h0, decide_eq_true h0]
      by_cases h1 : n ≤ l[i].f1
      · rw [if_pos h1, decide_eq_true h1]; rfl
      · rw [if_neg h1, decide_eq_false h1]; rfl
    · rw [if_neg h0, decide_eq_false h0]; rfl
theorem refHas_eq (l : List R) (n : Int) (hl : l.length ≤ 30) : gatewardenref04_Has.f 100 l n = some (l.any fun r => decide (r.f0 ≤ n) && decide (n ≤ r.f1)) :=
  (refHas_loop l n (by omega) l.length 100 0 (by omega) (by omega) (by omega)).trans (by rw [List.drop_zero])
/-- What span.Covers says is what the document's answer says. -/
theorem cov_same {l : List R} (hf : Fit l) {r : R} {b : Bool} (h : b = true ↔ AllIn l r) : b = refCov l r := by
  have hn := refNorm_of hf
  unfold refCov
  by_cases hr : r.f0 > r.f1
  · rw [if_pos hr, h]
    intro n h1 h2
    omega
  · rw [if_neg hr, Bool.eq_iff_iff, h, covers_iff hn.rt (by omega)]
    unfold AllIn
    exact ⟨fun hh n h1 h2 => by rw [hn.has]; exact hh n h1 h2, fun hh n h1 h2 => by rw [← hn.has]; exact hh n h1 h2⟩
theorem SpanTells_calls (A0 : Option Addr) (c0 : Nat) (l0 : List R) (A1 : Option Addr) (c1 : Nat) (l1 : List R) (n ra rz : Int) (w : World) (hr0 : Kd.C k26 w A0 l0.length l0) (hc0 : l0.length ≤ c0) (hr1 : Kd.C k26 w A1 l1.length l1) (hc1 : l1.length ≤ c1) (hf : Fit l0) :
    Calls Try.prog 4 #[.agg #[.slice A0 l0.length c0, .slice A1 l1.length c1, .int .i64 n, .int .i64 ra, .int .i64 rz]] w fun e w' => e = .returned (.bool true) ∧ Below w.heap.size w w' := by
  obtain ⟨T, hT⟩ : ∃ T : Ending → World → Prop, T = fun e w' => e = .returned (.bool true) ∧ Below w.heap.size w w' := ⟨_, rfl⟩
  have HT := Aside0.mk hT
  rw [← hT]
  clear hT
  have HC := Aside0.mk hr0
  have HD := Aside0.mk hr1
  have HF := Aside0.mk hf
  have hml := hr0.2.1
  have hml1 := hr1.2.1
  clear hr0 hr1 hf
  go_enter Try.func4, Try.ntmps4
  go_wp2_with fail
  have HN := Aside0.mk (blk_new w (.cells #[.slice A0 l0.length c0, .slice A1 l1.length c1, .int .i64 n, .int .i64 ra, .int .i64 rz] 31))
  have HB := Aside0.mk (below_alloc (Below.refl w.heap.size w) (.cells #[.slice A0 l0.length c0, .slice A1 l1.length c1, .int .i64 n, .int .i64 ra, .int .i64 rz] 31))
  obtain ⟨zb, hzb⟩ : ∃ zb, zb = w.heap.size := ⟨_, rfl⟩
  rw [← hzb] at HN ⊢
  clear hzb
  generalize w.alloc (.cells #[.slice A0 l0.length c0, .slice A1 l1.length c1, .int .i64 n, .int .i64 ra, .int .i64 rz] 31) = w0 at HN HB ⊢
  have lz := blk_lt HN.out
  have z0 : w0.cell? ⟨zb, 0, none⟩ = some (.slice A0 l0.length c0) := blk_cell HN.out 0
  have z1 : w0.cell? ⟨zb, 1, none⟩ = some (.slice A1 l1.length c1) := blk_cell HN.out 1
  have z2 : w0.cell? ⟨zb, 2, none⟩ = some (.int .i64 n) := blk_cell HN.out 2
  have z3 : w0.cell? ⟨zb, 3, none⟩ = some (.int .i64 ra) := blk_cell HN.out 3
  have z4 : w0.cell? ⟨zb, 4, none⟩ = some (.int .i64 rz) := blk_cell HN.out 4
  refine reg_start [0, 2, 4, 6, 1, 3, 5, 7, 8, 9, 10, 11, 12] 13 (fun w' => Below w0.heap.size w0 w') (by kernel_rfl) rfl (below_drew1 (Below.refl _ _)) (fun hHeld => ?_)
  generalize w0.drew = w2 at hHeld ⊢
  repeat (first | (refine reg_pure (v := ?_) (a' := ?_) rfl rfl rfl (by kernel_rfl) (fun _ _ _ h => h) (by rfl) ?_ ?_ ?_; rotate_left; (solve | (intro w'; go_simp; with_reducible rfl)); rotate_left; (solve | (simp only [Act.put, List.setIfInBounds_toArray, List.set_cons_zero, List.set_cons_succ, i64_w, i32_w]; rfl))) | (refine reg_skip (a' := ?_) rfl rfl rfl (by rfl) (by kernel_rfl) (fun _ _ _ h => h) ?_ ?_; rotate_left; (solve | (simp only [Act.put, List.setIfInBounds_toArray, List.set_cons_zero, List.set_cons_succ, i64_w, i32_w]; rfl))) | (refine reg_load (v := ?_) (a' := ?_) rfl rfl rfl (by kernel_rfl) (fun _ _ _ h => h) (by rfl) ?_ hHeld ?_ ?_; rotate_left; (solve | (intro w' hb'; obtain ⟨hc', hf'⟩ := bcell hb'; clear hb'; go_simp; with_reducible rfl)); rotate_left; (solve | (simp only [Act.put, List.setIfInBounds_toArray, List.set_cons_zero, List.set_cons_succ, i64_w, i32_w]; rfl)); intro hHeld))
  refine reg_run (w1 := w2.alloc (.cells #[.int .i64 0, .int .i64 0] 26)) (v := .pointer (some ⟨w2.heap.size, 0, none⟩)) rfl rfl rfl (by kernel_rfl) (by rfl) (by go_simp) (below_step hHeld (below_alloc (Below.refl _ _) _)) (fun hH2 => ?_)
  rintro a' ha'
  simp only [Act.put, List.setIfInBounds_toArray, List.set_cons_zero, List.set_cons_succ, i64_w, i32_w] at ha'
  subst ha'
  have HN3 := Aside0.mk (blk_new w2 (.cells #[.int .i64 0, .int .i64 0] 26))
  have HRB := Aside0.mk hHeld.size
  have HH := Aside0.mk hH2
  clear hHeld
  have hHeld := HH.out
  obtain ⟨rb, hrb⟩ : ∃ rb, rb = w2.heap.size := ⟨_, rfl⟩
  rw [← hrb] at HN3 HRB ⊢
  clear hrb
  generalize w2.alloc (.cells #[.int .i64 0, .int .i64 0] 26) = w3 at HN3 HH hHeld ⊢
  repeat (first | (refine reg_pure (v := ?_) (a' := ?_) rfl rfl rfl (by kernel_rfl) (fun _ _ _ h => h) (by rfl) ?_ ?_ ?_; rotate_left; (solve | (intro w'; go_simp; with_reducible rfl)); rotate_left; (solve | (simp only [Act.put, List.setIfInBounds_toArray, List.set_cons_zero, List.set_cons_succ, i64_w, i32_w]; rfl))) | (refine reg_skip (a' := ?_) rfl rfl rfl (by rfl) (by kernel_rfl) (fun _ _ _ h => h) ?_ ?_; rotate_left; (solve | (simp only [Act.put, List.setIfInBounds_toArray, List.set_cons_zero, List.set_cons_succ, i64_w, i32_w]; rfl))) | (refine reg_load (v := ?_) (a' := ?_) rfl rfl rfl (by kernel_rfl) (fun _ _ _ h => h) (by rfl) ?_ hHeld ?_ ?_; rotate_left; (solve | (intro w' hb'; obtain ⟨hc', hf'⟩ := bcell hb'; clear hb'; go_simp; with_reducible rfl)); rotate_left; (solve | (simp only [Act.put, List.setIfInBounds_toArray, List.set_cons_zero, List.set_cons_succ, i64_w, i32_w]; rfl)); intro hHeld))
  have fz := blk_frozen HN3.out
  have r0 : w3.cell? ⟨rb, 0, none⟩ = some (.int .i64 0) := blk_cell HN3.out 0
  have r1 : w3.cell? ⟨rb, 1, none⟩ = some (.int .i64 0) := blk_cell HN3.out 1
  refine reg_store (w1 := (w3.setCell ⟨rb, 0, none⟩ (.int .i64 ra)).setCell ⟨rb, 1, none⟩ (.int .i64 rz)) rfl rfl rfl (by kernel_rfl) (by rfl) (by go_simp) (setL_below HRB.out [.int .i64 ra, .int .i64 rz] 0 hHeld) (fun hHeld => ?_)
  refine reg_done (by kernel_rfl) ?_
  have HQ := Aside0.mk (setL_all HN3.out [.int .i64 ra, .int .i64 rz] rfl)
  have HB4 := Aside0.mk (below_step HB.out hHeld)
  clear hHeld fz r0 r1 z0 z1 z2 z3 z4 HN HB HN3 HH lz HRB
  change Aside0 ((( w3.setCell ⟨rb, 0, none⟩ (.int .i64 ra)).setCell ⟨rb, 1, none⟩ (.int .i64 rz)).heap[rb]? = _) at HQ
  generalize (w3.setCell ⟨rb, 0, none⟩ (.int .i64 ra)).setCell ⟨rb, 1, none⟩ (.int .i64 rz) = w4 at HQ HB4 ⊢
  have q0 : w4.cell? ⟨rb, 0, none⟩ = some (.int .i64 ra) := blk_cell HQ.out 0
  have q1 : w4.cell? ⟨rb, 1, none⟩ = some (.int .i64 rz) := blk_cell HQ.out 1
  by_cases h1 : (l0.length : Int) > 30
  · have h1' : decide ((l0.length : Int) > 30) = true := decide_eq_true h1
    go_wp2_with fail
    refine (awake04 _).mono ?_
    rintro e w9 ⟨rfl, hb⟩
    go_wp2
    rw [HT.out]
    exact ⟨rfl, below_step HB4.out hb⟩
  have h1' : decide ((l0.length : Int) > 30) = false := decide_eq_false h1
  by_cases h2 : (l1.length : Int) > 30
  · have h2' : decide ((l1.length : Int) > 30) = true := decide_eq_true h2
    go_wp2_with fail
    refine (awake04 _).mono ?_
    rintro e w9 ⟨rfl, hb⟩
    go_wp2
    rw [HT.out]
    exact ⟨rfl, below_step HB4.out hb⟩
  have h2' : decide ((l1.length : Int) > 30) = false := decide_eq_false h2
  -- GEN
  have HCQ := Aside0.mk (Kd.C_below HC.out HB4.out)
  have HDQ := Aside0.mk (Kd.C_below HD.out HB4.out)
  have lq := blk_lt HQ.out
  obtain ⟨bR, hbR⟩ : ∃ b, b = okFrom none l0 := ⟨_, rfl⟩
  obtain ⟨bH, hbH⟩ : ∃ b, b = l0.any fun r => decide (r.f0 ≤ n) && decide (n ≤ r.f1) := ⟨_, rfl⟩
  obtain ⟨bC, hbC⟩ : ∃ b, b = refCov l0 ⟨ra, rz⟩ := ⟨_, rfl⟩
  obtain ⟨bS, hbS⟩ : ∃ b, b = decide (l0 = l1) := ⟨_, rfl⟩
  have X1 := Aside0.mk (right_eq l0 HF.out (by omega) 100 (by omega))
  rw [← hbR] at X1
  have X2 := Aside0.mk (refHas_eq l0 n (by omega))
  rw [← hbH] at X2
  have X3 := Aside0.mk (fun w => span_Has_calls A0 c0 l0 n w)
  rw [← hbH] at X3
  have X4 := Aside0.mk (fun w => refCovers_calls A0 c0 l0 ⟨ra, rz⟩ w)
  rw [← hbC] at X4
  have X5 := Aside0.mk (same_eq l0 l1 (by omega) 100 (by omega))
  rw [← hbS] at X5
  have HBC := Aside0.mk hbC
  clear hbR hbH hbC hbS
  go_wp2_with fail
  refine reg_start [0, 1, 2, 4, 3, 5, 6, 7, 8, 9, 11, 10, 12, 13, 14, 15, 16, 17, 19, 20, 18, 21, 22, 23, 24, 25, 28, 26, 29, 27, 30, 31, 32, 33, 34, 35, 37, 38, 36, 39, 40, 41, 42] 43 (fun w' => Below w4.heap.size w4 w') (by kernel_rfl) rfl (below_drew1 (Below.refl _ _)) (fun hHeld => ?_)
  generalize w4.drew = w5 at hHeld ⊢
  repeat (first | (refine reg_pure (v := ?_) (a' := ?_) rfl rfl rfl (by kernel_rfl) (fun _ _ _ h => h) (by rfl) ?_ ?_ ?_; rotate_left; (solve | (intro w'; go_simp; with_reducible rfl)); rotate_left; (solve | (simp only [Act.put, List.setIfInBounds_toArray, List.set_cons_zero, List.set_cons_succ, i64_w, i32_w]; rfl))) | (refine reg_skip (a' := ?_) rfl rfl rfl (by rfl) (by kernel_rfl) (fun _ _ _ h => h) ?_ ?_; rotate_left; (solve | (simp only [Act.put, List.setIfInBounds_toArray, List.set_cons_zero, List.set_cons_succ, i64_w, i32_w]; rfl))) | (refine reg_load (v := ?_) (a' := ?_) rfl rfl rfl (by kernel_rfl) (fun _ _ _ h => h) (by rfl) ?_ hHeld ?_ ?_; rotate_left; (solve | (intro w' hb'; obtain ⟨hc', hf'⟩ := bcell hb'; clear hb'; go_simp; with_reducible rfl)); rotate_left; (solve | (simp only [Act.put, List.setIfInBounds_toArray, List.set_cons_zero, List.set_cons_succ, i64_w, i32_w]; rfl)); intro hHeld))
  refine reg_call rfl rfl rfl (by kernel_rfl) (by rfl) Try.func11 (by kernel_rfl) rfl #[] rfl (by (try simp only [List.map_toArray, List.map_cons, List.map_nil]); first | done | rfl) ?_
  refine (awake04 _).mono ?_
  rintro e w6 ⟨rfl, hb⟩
  have hN := below_step hHeld hb
  clear hHeld
  refine ⟨_, rfl, hN, fun hHeld => ?_⟩
  clear hN hb
  rintro a' ha'
  simp only [Act.put, List.setIfInBounds_toArray, List.set_cons_zero, List.set_cons_succ, i64_w, i32_w] at ha'
  subst ha'
  repeat (first | (refine reg_pure (v := ?_) (a' := ?_) rfl rfl rfl (by kernel_rfl) (fun _ _ _ h => h) (by rfl) ?_ ?_ ?_; rotate_left; (solve | (intro w'; go_simp; with_reducible rfl)); rotate_left; (solve | (simp only [Act.put, List.setIfInBounds_toArray, List.set_cons_zero, List.set_cons_succ, i64_w, i32_w]; rfl))) | (refine reg_skip (a' := ?_) rfl rfl rfl (by rfl) (by kernel_rfl) (fun _ _ _ h => h) ?_ ?_; rotate_left; (solve | (simp only [Act.put, List.setIfInBounds_toArray, List.set_cons_zero, List.set_cons_succ, i64_w, i32_w]; rfl))) | (refine reg_load (v := ?_) (a' := ?_) rfl rfl rfl (by kernel_rfl) (fun _ _ _ h => h) (by rfl) ?_ hHeld ?_ ?_; rotate_left; (solve | (intro w' hb'; obtain ⟨hc', hf'⟩ := bcell hb'; clear hb'; go_simp; with_reducible rfl)); rotate_left; (solve | (simp only [Act.put, List.setIfInBounds_toArray, List.set_cons_zero, List.set_cons_succ, i64_w, i32_w]; rfl)); intro hHeld))
  refine reg_call rfl rfl rfl (by kernel_rfl) (by rfl) Try.func14 (by kernel_rfl) rfl #[.slice A0 l0.length c0] rfl (by (try simp only [List.map_toArray, List.map_cons, List.map_nil]); first | done | rfl) ?_
  refine (span_Right.calls 100 A0 c0 l0 bR _ (Kd.C_below HCQ.out hHeld) hc0 X1.out.1).mono ?_
  rintro e w7 ⟨rfl, hb⟩
  have hN := below_step hHeld hb
  clear hHeld
  refine ⟨_, rfl, hN, fun hHeld => ?_⟩
  clear hN hb
  rintro a' ha'
  simp only [Act.put, List.setIfInBounds_toArray, List.set_cons_zero, List.set_cons_succ, i64_w, i32_w] at ha'
  subst ha'
  repeat (first | (refine reg_pure (v := ?_) (a' := ?_) rfl rfl rfl (by kernel_rfl) (fun _ _ _ h => h) (by rfl) ?_ ?_ ?_; rotate_left; (solve | (intro w'; go_simp; with_reducible rfl)); rotate_left; (solve | (simp only [Act.put, List.setIfInBounds_toArray, List.set_cons_zero, List.set_cons_succ, i64_w, i32_w]; rfl))) | (refine reg_skip (a' := ?_) rfl rfl rfl (by rfl) (by kernel_rfl) (fun _ _ _ h => h) ?_ ?_; rotate_left; (solve | (simp only [Act.put, List.setIfInBounds_toArray, List.set_cons_zero, List.set_cons_succ, i64_w, i32_w]; rfl))) | (refine reg_load (v := ?_) (a' := ?_) rfl rfl rfl (by kernel_rfl) (fun _ _ _ h => h) (by rfl) ?_ hHeld ?_ ?_; rotate_left; (solve | (intro w' hb'; obtain ⟨hc', hf'⟩ := bcell hb'; clear hb'; go_simp; with_reducible rfl)); rotate_left; (solve | (simp only [Act.put, List.setIfInBounds_toArray, List.set_cons_zero, List.set_cons_succ, i64_w, i32_w]; rfl)); intro hHeld))
  refine reg_call rfl rfl rfl (by kernel_rfl) (by rfl) Try.func15 (by kernel_rfl) rfl #[.slice A0 l0.length c0] rfl (by (try simp only [List.map_toArray, List.map_cons, List.map_nil]); first | done | rfl) ?_
  refine (gatewardenref04_Right.calls 100 A0 c0 l0 bR _ (Kd.C_below HCQ.out hHeld) hc0 X1.out.2).mono ?_
  rintro e w8 ⟨rfl, hd⟩
  have hb := hd.below
  have hN := below_step hHeld hb
  clear hHeld
  refine ⟨_, rfl, hN, fun hHeld => ?_⟩
  clear hN hb hd
  rintro a' ha'
  simp only [Act.put, List.setIfInBounds_toArray, List.set_cons_zero, List.set_cons_succ, i64_w, i32_w] at ha'
  subst ha'
  repeat (first | (refine reg_pure (v := ?_) (a' := ?_) rfl rfl rfl (by kernel_rfl) (fun _ _ _ h => h) (by rfl) ?_ ?_ ?_; rotate_left; (solve | (intro w'; go_simp; with_reducible rfl)); rotate_left; (solve | (simp only [Act.put, List.setIfInBounds_toArray, List.set_cons_zero, List.set_cons_succ, i64_w, i32_w]; rfl))) | (refine reg_skip (a' := ?_) rfl rfl rfl (by rfl) (by kernel_rfl) (fun _ _ _ h => h) ?_ ?_; rotate_left; (solve | (simp only [Act.put, List.setIfInBounds_toArray, List.set_cons_zero, List.set_cons_succ, i64_w, i32_w]; rfl))) | (refine reg_load (v := ?_) (a' := ?_) rfl rfl rfl (by kernel_rfl) (fun _ _ _ h => h) (by rfl) ?_ hHeld ?_ ?_; rotate_left; (solve | (intro w' hb'; obtain ⟨hc', hf'⟩ := bcell hb'; clear hb'; go_simp; with_reducible rfl)); rotate_left; (solve | (simp only [Act.put, List.setIfInBounds_toArray, List.set_cons_zero, List.set_cons_succ, i64_w, i32_w]; rfl)); intro hHeld))
  refine reg_call rfl rfl rfl (by kernel_rfl) (by rfl) Try.func17 (by kernel_rfl) rfl #[.slice A0 l0.length c0] rfl (by (try simp only [List.map_toArray, List.map_cons, List.map_nil]); first | done | rfl) ?_
  refine (span_Norm_calls A0 c0 l0 _ (Kd.C_below HCQ.out hHeld) (by omega) HF.out).mono ?_
  rintro e w9 ⟨v1, a, rfl, hR, hNo, hb⟩
  obtain ⟨A2, c2, rfl, hc2, hC2⟩ := Kd.R_reads hR
  have HN1 := Aside0.mk hNo
  have HC2 := Aside0.mk hC2
  clear hR hNo hC2
  have hN := below_step hHeld hb
  clear hHeld
  refine ⟨_, rfl, hN, fun hHeld => ?_⟩
  clear hN hb
  rintro a' ha'
  simp only [Act.put, List.setIfInBounds_toArray, List.set_cons_zero, List.set_cons_succ, i64_w, i32_w] at ha'
  subst ha'
  repeat (first | (refine reg_pure (v := ?_) (a' := ?_) rfl rfl rfl (by kernel_rfl) (fun _ _ _ h => h) (by rfl) ?_ ?_ ?_; rotate_left; (solve | (intro w'; go_simp; with_reducible rfl)); rotate_left; (solve | (simp only [Act.put, List.setIfInBounds_toArray, List.set_cons_zero, List.set_cons_succ, i64_w, i32_w]; rfl))) | (refine reg_skip (a' := ?_) rfl rfl rfl (by rfl) (by kernel_rfl) (fun _ _ _ h => h) ?_ ?_; rotate_left; (solve | (simp only [Act.put, List.setIfInBounds_toArray, List.set_cons_zero, List.set_cons_succ, i64_w, i32_w]; rfl))) | (refine reg_load (v := ?_) (a' := ?_) rfl rfl rfl (by kernel_rfl) (fun _ _ _ h => h) (by rfl) ?_ hHeld ?_ ?_; rotate_left; (solve | (intro w' hb'; obtain ⟨hc', hf'⟩ := bcell hb'; clear hb'; go_simp; with_reducible rfl)); rotate_left; (solve | (simp only [Act.put, List.setIfInBounds_toArray, List.set_cons_zero, List.set_cons_succ, i64_w, i32_w]; rfl)); intro hHeld))
  refine reg_call rfl rfl rfl (by kernel_rfl) (by rfl) Try.func18 (by kernel_rfl) rfl #[.slice A0 l0.length c0] rfl (by (try simp only [List.map_toArray, List.map_cons, List.map_nil]); first | done | rfl) ?_
  refine (refNorm_calls A0 c0 l0 _ (Kd.C_below HCQ.out hHeld) (by omega) HF.out).mono ?_
  rintro e w10 ⟨v3, rfl, hR, hb⟩
  obtain rfl : a = l0.foldl refStep [] := HN1.out.uniq (refNorm_of HF.out) (fun _ => rfl)
  generalize l0.foldl refStep [] = a at hR HN1 HC2 hc2 ⊢
  obtain ⟨A3, c3, rfl, hc3, hC3⟩ := Kd.R_reads hR
  have HC3 := Aside0.mk hC3
  have HC4 := Aside0.mk (Kd.C_below HC2.out hb)
  have hal : a.length ≤ l0.length := HN1.out.len
  have X6 := Aside0.mk ((same_eq a a (by omega) 100 (by omega)).1.trans (congrArg some (decide_eq_true rfl)))
  clear hR hC3 HC2
  have hN := below_step hHeld hb
  clear hHeld
  refine ⟨_, rfl, hN, fun hHeld => ?_⟩
  clear hN hb
  rintro a' ha'
  simp only [Act.put, List.setIfInBounds_toArray, List.set_cons_zero, List.set_cons_succ, i64_w, i32_w] at ha'
  subst ha'
  repeat (first | (refine reg_pure (v := ?_) (a' := ?_) rfl rfl rfl (by kernel_rfl) (fun _ _ _ h => h) (by rfl) ?_ ?_ ?_; rotate_left; (solve | (intro w'; go_simp; with_reducible rfl)); rotate_left; (solve | (simp only [Act.put, List.setIfInBounds_toArray, List.set_cons_zero, List.set_cons_succ, i64_w, i32_w]; rfl))) | (refine reg_skip (a' := ?_) rfl rfl rfl (by rfl) (by kernel_rfl) (fun _ _ _ h => h) ?_ ?_; rotate_left; (solve | (simp only [Act.put, List.setIfInBounds_toArray, List.set_cons_zero, List.set_cons_succ, i64_w, i32_w]; rfl))) | (refine reg_load (v := ?_) (a' := ?_) rfl rfl rfl (by kernel_rfl) (fun _ _ _ h => h) (by rfl) ?_ hHeld ?_ ?_; rotate_left; (solve | (intro w' hb'; obtain ⟨hc', hf'⟩ := bcell hb'; clear hb'; go_simp; with_reducible rfl)); rotate_left; (solve | (simp only [Act.put, List.setIfInBounds_toArray, List.set_cons_zero, List.set_cons_succ, i64_w, i32_w]; rfl)); intro hHeld))
  refine reg_call rfl rfl rfl (by kernel_rfl) (by rfl) Try.func16 (by kernel_rfl) rfl #[.slice A2 a.length c2, .slice A3 a.length c3] rfl (by (try simp only [List.map_toArray, List.map_cons, List.map_nil]); first | done | rfl) ?_
  refine (gatewardenref04_Same.calls 100 A2 c2 a A3 c3 a true _ HC4.out hc2 HC3.out hc3 X6.out).mono ?_
  rintro e w11 ⟨rfl, hd⟩
  have hb := hd.below
  have hN := below_step hHeld hb
  clear hHeld
  refine ⟨_, rfl, hN, fun hHeld => ?_⟩
  clear hN hb hd
  rintro a' ha'
  simp only [Act.put, List.setIfInBounds_toArray, List.set_cons_zero, List.set_cons_succ, i64_w, i32_w] at ha'
  subst ha'
  repeat (first | (refine reg_pure (v := ?_) (a' := ?_) rfl rfl rfl (by kernel_rfl) (fun _ _ _ h => h) (by rfl) ?_ ?_ ?_; rotate_left; (solve | (intro w'; go_simp; with_reducible rfl)); rotate_left; (solve | (simp only [Act.put, List.setIfInBounds_toArray, List.set_cons_zero, List.set_cons_succ, i64_w, i32_w]; rfl))) | (refine reg_skip (a' := ?_) rfl rfl rfl (by rfl) (by kernel_rfl) (fun _ _ _ h => h) ?_ ?_; rotate_left; (solve | (simp only [Act.put, List.setIfInBounds_toArray, List.set_cons_zero, List.set_cons_succ, i64_w, i32_w]; rfl))) | (refine reg_load (v := ?_) (a' := ?_) rfl rfl rfl (by kernel_rfl) (fun _ _ _ h => h) (by rfl) ?_ hHeld ?_ ?_; rotate_left; (solve | (intro w' hb'; obtain ⟨hc', hf'⟩ := bcell hb'; clear hb'; go_simp; with_reducible rfl)); rotate_left; (solve | (simp only [Act.put, List.setIfInBounds_toArray, List.set_cons_zero, List.set_cons_succ, i64_w, i32_w]; rfl)); intro hHeld))
  refine reg_call rfl rfl rfl (by kernel_rfl) (by rfl) Try.func12 (by kernel_rfl) rfl #[.slice A0 l0.length c0, .int .i64 n] rfl (by (try simp only [List.map_toArray, List.map_cons, List.map_nil]); first | done | rfl) ?_
  refine (X3.out _ (Kd.C_below HCQ.out hHeld) (by omega)).mono ?_
  rintro e w12 ⟨rfl, hb⟩
  have hN := below_step hHeld hb
  clear hHeld
  refine ⟨_, rfl, hN, fun hHeld => ?_⟩
  clear hN hb
  rintro a' ha'
  simp only [Act.put, List.setIfInBounds_toArray, List.set_cons_zero, List.set_cons_succ, i64_w, i32_w] at ha'
  subst ha'
  repeat (first | (refine reg_pure (v := ?_) (a' := ?_) rfl rfl rfl (by kernel_rfl) (fun _ _ _ h => h) (by rfl) ?_ ?_ ?_; rotate_left; (solve | (intro w'; go_simp; with_reducible rfl)); rotate_left; (solve | (simp only [Act.put, List.setIfInBounds_toArray, List.set_cons_zero, List.set_cons_succ, i64_w, i32_w]; rfl))) | (refine reg_skip (a' := ?_) rfl rfl rfl (by rfl) (by kernel_rfl) (fun _ _ _ h => h) ?_ ?_; rotate_left; (solve | (simp only [Act.put, List.setIfInBounds_toArray, List.set_cons_zero, List.set_cons_succ, i64_w, i32_w]; rfl))) | (refine reg_load (v := ?_) (a' := ?_) rfl rfl rfl (by kernel_rfl) (fun _ _ _ h => h) (by rfl) ?_ hHeld ?_ ?_; rotate_left; (solve | (intro w' hb'; obtain ⟨hc', hf'⟩ := bcell hb'; clear hb'; go_simp; with_reducible rfl)); rotate_left; (solve | (simp only [Act.put, List.setIfInBounds_toArray, List.set_cons_zero, List.set_cons_succ, i64_w, i32_w]; rfl)); intro hHeld))
  refine reg_call rfl rfl rfl (by kernel_rfl) (by rfl) Try.func19 (by kernel_rfl) rfl #[.slice A0 l0.length c0, .int .i64 n] rfl (by (try simp only [List.map_toArray, List.map_cons, List.map_nil]); first | done | rfl) ?_
  refine (gatewardenref04_Has.calls 100 A0 c0 l0 n bH _ (Kd.C_below HCQ.out hHeld) hc0 X2.out).mono ?_
  rintro e w13 ⟨rfl, hd⟩
  have hb := hd.below
  have hN := below_step hHeld hb
  clear hHeld
  refine ⟨_, rfl, hN, fun hHeld => ?_⟩
  clear hN hb hd
  rintro a' ha'
  simp only [Act.put, List.setIfInBounds_toArray, List.set_cons_zero, List.set_cons_succ, i64_w, i32_w] at ha'
  subst ha'
  repeat (first | (refine reg_pure (v := ?_) (a' := ?_) rfl rfl rfl (by kernel_rfl) (fun _ _ _ h => h) (by rfl) ?_ ?_ ?_; rotate_left; (solve | (intro w'; go_simp; with_reducible rfl)); rotate_left; (solve | (simp only [Act.put, List.setIfInBounds_toArray, List.set_cons_zero, List.set_cons_succ, i64_w, i32_w]; rfl))) | (refine reg_skip (a' := ?_) rfl rfl rfl (by rfl) (by kernel_rfl) (fun _ _ _ h => h) ?_ ?_; rotate_left; (solve | (simp only [Act.put, List.setIfInBounds_toArray, List.set_cons_zero, List.set_cons_succ, i64_w, i32_w]; rfl))) | (refine reg_load (v := ?_) (a' := ?_) rfl rfl rfl (by kernel_rfl) (fun _ _ _ h => h) (by rfl) ?_ hHeld ?_ ?_; rotate_left; (solve | (intro w' hb'; obtain ⟨hc', hf'⟩ := bcell hb'; clear hb'; go_simp; with_reducible rfl)); rotate_left; (solve | (simp only [Act.put, List.setIfInBounds_toArray, List.set_cons_zero, List.set_cons_succ, i64_w, i32_w]; rfl)); intro hHeld))
  refine reg_call rfl rfl rfl (by kernel_rfl) (by rfl) Try.func13 (by kernel_rfl) rfl #[.slice A0 l0.length c0, .agg #[.int .i64 ra, .int .i64 rz]] rfl (by (try simp only [List.map_toArray, List.map_cons, List.map_nil]); first | done | rfl) ?_
  refine (span_Covers_calls A0 c0 l0 ⟨ra, rz⟩ _ (Kd.C_below HCQ.out hHeld) (by omega) HF.out).mono ?_
  rintro e w14 ⟨bX, rfl, hX, hb⟩
  obtain rfl : bX = bC := (cov_same HF.out hX).trans HBC.out.symm
  clear hX
  have hN := below_step hHeld hb
  clear hHeld
  refine ⟨_, rfl, hN, fun hHeld => ?_⟩
  clear hN hb
  rintro a' ha'
  simp only [Act.put, List.setIfInBounds_toArray, List.set_cons_zero, List.set_cons_succ, i64_w, i32_w] at ha'
  subst ha'
  repeat (first | (refine reg_pure (v := ?_) (a' := ?_) rfl rfl rfl (by kernel_rfl) (fun _ _ _ h => h) (by rfl) ?_ ?_ ?_; rotate_left; (solve | (intro w'; go_simp; with_reducible rfl)); rotate_left; (solve | (simp only [Act.put, List.setIfInBounds_toArray, List.set_cons_zero, List.set_cons_succ, i64_w, i32_w]; rfl))) | (refine reg_skip (a' := ?_) rfl rfl rfl (by rfl) (by kernel_rfl) (fun _ _ _ h => h) ?_ ?_; rotate_left; (solve | (simp only [Act.put, List.setIfInBounds_toArray, List.set_cons_zero, List.set_cons_succ, i64_w, i32_w]; rfl))) | (refine reg_load (v := ?_) (a' := ?_) rfl rfl rfl (by kernel_rfl) (fun _ _ _ h => h) (by rfl) ?_ hHeld ?_ ?_; rotate_left; (solve | (intro w' hb'; obtain ⟨hc', hf'⟩ := bcell hb'; clear hb'; go_simp; with_reducible rfl)); rotate_left; (solve | (simp only [Act.put, List.setIfInBounds_toArray, List.set_cons_zero, List.set_cons_succ, i64_w, i32_w]; rfl)); intro hHeld))
  refine reg_call rfl rfl rfl (by kernel_rfl) (by rfl) Try.func20 (by kernel_rfl) rfl #[.slice A0 l0.length c0, .agg #[.int .i64 ra, .int .i64 rz]] rfl (by (try simp only [List.map_toArray, List.map_cons, List.map_nil]); first | done | rfl) ?_
  refine (X4.out _ (Kd.C_below HCQ.out hHeld) (by omega) HF.out).mono ?_
  rintro e w15 ⟨rfl, hb⟩
  have hN := below_step hHeld hb
  clear hHeld
  refine ⟨_, rfl, hN, fun hHeld => ?_⟩
  clear hN hb
  rintro a' ha'
  simp only [Act.put, List.setIfInBounds_toArray, List.set_cons_zero, List.set_cons_succ, i64_w, i32_w] at ha'
  subst ha'
  repeat (first | (refine reg_pure (v := ?_) (a' := ?_) rfl rfl rfl (by kernel_rfl) (fun _ _ _ h => h) (by rfl) ?_ ?_ ?_; rotate_left; (solve | (intro w'; go_simp; with_reducible rfl)); rotate_left; (solve | (simp only [Act.put, List.setIfInBounds_toArray, List.set_cons_zero, List.set_cons_succ, i64_w, i32_w]; rfl))) | (refine reg_skip (a' := ?_) rfl rfl rfl (by rfl) (by kernel_rfl) (fun _ _ _ h => h) ?_ ?_; rotate_left; (solve | (simp only [Act.put, List.setIfInBounds_toArray, List.set_cons_zero, List.set_cons_succ, i64_w, i32_w]; rfl))) | (refine reg_load (v := ?_) (a' := ?_) rfl rfl rfl (by kernel_rfl) (fun _ _ _ h => h) (by rfl) ?_ hHeld ?_ ?_; rotate_left; (solve | (intro w' hb'; obtain ⟨hc', hf'⟩ := bcell hb'; clear hb'; go_simp; with_reducible rfl)); rotate_left; (solve | (simp only [Act.put, List.setIfInBounds_toArray, List.set_cons_zero, List.set_cons_succ, i64_w, i32_w]; rfl)); intro hHeld))
  refine reg_call rfl rfl rfl (by kernel_rfl) (by rfl) Try.func21 (by kernel_rfl) rfl #[.slice A0 l0.length c0, .slice A1 l1.length c1] rfl (by (try simp only [List.map_toArray, List.map_cons, List.map_nil]); first | done | rfl) ?_
  refine (span_Same.calls 100 A0 c0 l0 A1 c1 l1 bS _ (Kd.C_below HCQ.out hHeld) hc0 (Kd.C_below HDQ.out hHeld) hc1 X5.out.2).mono ?_
  rintro e w16 ⟨rfl, hd⟩
  have hb := hd.below
  have hN := below_step hHeld hb
  clear hHeld
  refine ⟨_, rfl, hN, fun hHeld => ?_⟩
  clear hN hb hd
  rintro a' ha'
  simp only [Act.put, List.setIfInBounds_toArray, List.set_cons_zero, List.set_cons_succ, i64_w, i32_w] at ha'
  subst ha'
  repeat (first | (refine reg_pure (v := ?_) (a' := ?_) rfl rfl rfl (by kernel_rfl) (fun _ _ _ h => h) (by rfl) ?_ ?_ ?_; rotate_left; (solve | (intro w'; go_simp; with_reducible rfl)); rotate_left; (solve | (simp only [Act.put, List.setIfInBounds_toArray, List.set_cons_zero, List.set_cons_succ, i64_w, i32_w]; rfl))) | (refine reg_skip (a' := ?_) rfl rfl rfl (by rfl) (by kernel_rfl) (fun _ _ _ h => h) ?_ ?_; rotate_left; (solve | (simp only [Act.put, List.setIfInBounds_toArray, List.set_cons_zero, List.set_cons_succ, i64_w, i32_w]; rfl))) | (refine reg_load (v := ?_) (a' := ?_) rfl rfl rfl (by kernel_rfl) (fun _ _ _ h => h) (by rfl) ?_ hHeld ?_ ?_; rotate_left; (solve | (intro w' hb'; obtain ⟨hc', hf'⟩ := bcell hb'; clear hb'; go_simp; with_reducible rfl)); rotate_left; (solve | (simp only [Act.put, List.setIfInBounds_toArray, List.set_cons_zero, List.set_cons_succ, i64_w, i32_w]; rfl)); intro hHeld))
  refine reg_call rfl rfl rfl (by kernel_rfl) (by rfl) Try.func16 (by kernel_rfl) rfl #[.slice A0 l0.length c0, .slice A1 l1.length c1] rfl (by (try simp only [List.map_toArray, List.map_cons, List.map_nil]); first | done | rfl) ?_
  refine (gatewardenref04_Same.calls 100 A0 c0 l0 A1 c1 l1 bS _ (Kd.C_below HCQ.out hHeld) hc0 (Kd.C_below HDQ.out hHeld) hc1 X5.out.1).mono ?_
  rintro e w17 ⟨rfl, hd⟩
  have hb := hd.below
  have hN := below_step hHeld hb
  clear hHeld
  refine ⟨_, rfl, hN, fun hHeld => ?_⟩
  clear hN hb hd
  rintro a' ha'
  simp only [Act.put, List.setIfInBounds_toArray, List.set_cons_zero, List.set_cons_succ, i64_w, i32_w] at ha'
  subst ha'
  repeat (first | (refine reg_pure (v := ?_) (a' := ?_) rfl rfl rfl (by kernel_rfl) (fun _ _ _ h => h) (by rfl) ?_ ?_ ?_; rotate_left; (solve | (intro w'; go_simp; with_reducible rfl)); rotate_left; (solve | (simp only [Act.put, List.setIfInBounds_toArray, List.set_cons_zero, List.set_cons_succ, i64_w, i32_w]; rfl))) | (refine reg_skip (a' := ?_) rfl rfl rfl (by rfl) (by kernel_rfl) (fun _ _ _ h => h) ?_ ?_; rotate_left; (solve | (simp only [Act.put, List.setIfInBounds_toArray, List.set_cons_zero, List.set_cons_succ, i64_w, i32_w]; rfl))) | (refine reg_load (v := ?_) (a' := ?_) rfl rfl rfl (by kernel_rfl) (fun _ _ _ h => h) (by rfl) ?_ hHeld ?_ ?_; rotate_left; (solve | (intro w' hb'; obtain ⟨hc', hf'⟩ := bcell hb'; clear hb'; go_simp; with_reducible rfl)); rotate_left; (solve | (simp only [Act.put, List.setIfInBounds_toArray, List.set_cons_zero, List.set_cons_succ, i64_w, i32_w]; rfl)); intro hHeld))
  refine reg_done (by kernel_rfl) ?_
  have HBZ := Aside0.mk (below_step HB4.out hHeld)
  clear hHeld
  go_wp2_with fail
  rw [HT.out]
  exact ⟨rfl, HBZ.out⟩
end Go.Proofs.Ytedmjfngpofoaaa.PSpanTells
