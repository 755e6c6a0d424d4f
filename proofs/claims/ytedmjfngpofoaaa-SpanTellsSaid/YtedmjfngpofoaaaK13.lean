/- Texts of this claim, put together (wip/pack.py): SpanNormLaw. -/
import Derived.Test.YtedmjfngpofoaaaK10
import Derived.Test.YtedmjfngpofoaaaK12
namespace Go.Proofs.Ytedmjfngpofoaaa.PSpanTells
open Go Go.RowKit Go.Proofs.YtedmjfngpofoaaaW.PrintWords Go.Proofs.YtedmjfngpofoaaaW.PrintLast Go.Proofs.Ytedmjfngpofoaaa.Spans Go.Proofs.Ytedmjfngpofoaaa.Base
set_option maxHeartbeats 2000000
set_option maxRecDepth 100000
set_option linter.unusedVariables false
set_option linter.unusedSimpArgs false
/-- An empty row of ranges, made. -/
theorem empty_R (w : World) : Kd.R k26 26 (w.alloc (.cells #[] 26)) w.heap.size (fun _ => True) (.slice (some ⟨w.heap.size, 0, none⟩) 0 0) [] :=
  ⟨fun _ _ => trivial, [], ⟨rfl, .inr ⟨w.heap.size, 0, #[], rfl, Nat.le_refl _, blk_new w _, Nat.le_refl _, by unfold maxLen; omega, rfl, rfl⟩⟩, Reps.none _ _⟩
theorem cutR (A : Option Addr) (l : List R) (c m : Nat) (hm : m ≤ l.length) (hc : l.length ≤ c) :
    ∃ A' : Option Addr, (∀ W : World, (Instr.slice 22 (.slice A l.length c) (some (.int .i64 (m : Int))) none none).run Try.prog W = .ok (.slice A' (l.length - m) (c - m)) W) ∧ ∀ w : World, Kd.C k26 w A l.length l → Kd.C k26 w A' (l.length - m) (l.drop m) := by
  obtain ⟨i, hi, hz⟩ := Option.map_eq_some_iff.1 info26
  simp only [Prod.mk.injEq] at hz
  refine ⟨if c = m then A else A.map (·.add (m * k26.sz)), fun W => ?_, fun w h => by have := Kd.C_drop h hm hc; rwa [List.length_drop] at this⟩
  have h := cut_from (P := Try.prog) 22 26 .i64 Try.underlying22 hi 2 hz.2.1 A l.length c (m : Int) (by omega) (by omega) W
  rw [Int.toNat_natCast] at h
  exact h
theorem toR (A : Option Addr) (l : List R) (c m : Nat) (hm : m ≤ l.length) (hc : l.length ≤ c) :
    (∀ W : World, (Instr.slice 22 (.slice A l.length c) none (some (.int .i64 (m : Int))) none).run Try.prog W = .ok (.slice A m c) W) ∧ ∀ w : World, Kd.C k26 w A l.length l → Kd.C k26 w A m (l.take m) := by
  obtain ⟨i, hi, hz⟩ := Option.map_eq_some_iff.1 info26
  refine ⟨fun W => ?_, fun w h => by have := Kd.C_take h hm; rwa [List.length_take, Nat.min_eq_left hm] at this⟩
  have h := cut_to (P := Try.prog) 22 26 .i64 Try.underlying22 hi A l.length c (m : Int) (by omega) (by omega) hc W
  rw [Int.toNat_natCast] at h
  exact h
theorem fit_of {l : List R} (h : ∀ x ∈ l, (Lit.int .i64 x.f0).wf = true ∧ (Lit.int .i64 x.f1).wf = true) : Fit l := fun x hx => ⟨wf64 (h x hx).1, wf64 (h x hx).2⟩
theorem has_turned (l : List R) (k : Nat) (n : Int) : hasB (l.drop k ++ l.take k) n = hasB l n := by
  rw [hasB_append, Bool.or_comm, ← hasB_append, List.take_append_drop]
theorem SpanNorm_calls (A0 : Option Addr) (c0 : Nat) (l0 : List R) (n turn : Int) (w : World) (hr0 : Kd.C k26 w A0 l0.length l0) (hc0 : l0.length ≤ c0) (hf : Fit l0) (ht : 0 ≤ turn ∧ turn ≤ 255) :
    Calls Try.prog 5 #[.slice A0 l0.length c0, .int .i64 n, .int .u8 turn] w fun e w' => e = .returned (.bool true) ∧ Below w.heap.size w w' := by
  obtain ⟨T, hT⟩ : ∃ T : Ending → World → Prop, T = fun e w' => e = .returned (.bool true) ∧ Below w.heap.size w w' := ⟨_, rfl⟩
  have HT := Aside0.mk hT
  rw [← hT]
  clear hT
  have HC := Aside0.mk hr0
  have HF := Aside0.mk hf
  have hml := hr0.2.1
  clear hr0 hf
  by_cases h1 : (l0.length : Int) > 30
  · have h1' : decide ((l0.length : Int) > 30) = true := decide_eq_true h1
    go_enter Try.func5, Try.ntmps5
    go_wp2_with fail
    refine (awake04 _).mono ?_
    rintro e w9 ⟨rfl, hb⟩
    go_wp2
    rw [HT.out]
    exact ⟨rfl, hb⟩
  have h1' : decide ((l0.length : Int) > 30) = false := decide_eq_false h1
  go_enter Try.func5, Try.ntmps5
  go_wp2_with fail
  refine (span_Norm_calls A0 c0 l0 _ HC.out (by omega) HF.out).mono ?_
  rintro e w1 ⟨v1, a, rfl, hR, hN, hb⟩
  obtain ⟨A1, c1, rfl, hc1, hC1⟩ := Kd.R_reads hR
  have HB1 := Aside0.mk hb
  have HC1 := Aside0.mk hC1
  have HL1 := Aside0.mk (Kd.C_below HC.out hb)
  have HN1 := Aside0.mk hN
  have HCC1 := Aside0.mk hc1
  have hal : a.length ≤ l0.length := hN.len
  clear hR hC1 hb hN hc1
  obtain ⟨k0, hk0, hk1⟩ : ∃ k0 : Nat, k0 ≤ l0.length ∧ (l0.length = 0 → k0 = 0) ∧ (0 < l0.length → (turn % (l0.length : Int) = (k0 : Int) ∧ k0 < l0.length)) := by
    by_cases hz : l0.length = 0
    · exact ⟨0, Nat.zero_le _, fun _ => rfl, fun h => by omega⟩
    · have h2 := Int.emod_nonneg turn (show (l0.length : Int) ≠ 0 by omega)
      have h3 := Int.emod_lt_of_pos turn (show (0 : Int) < (l0.length : Int) by omega)
      exact ⟨(turn % (l0.length : Int)).toNat, by omega, fun h => by omega, fun _ => ⟨by omega, by omega⟩⟩
  go_upto_if 18 with (fail)
  go_cut [8] from 19 to 24 (fun s8 wr => s8 = .int .i64 (k0 : Int) ∧ wr = w1)
  case first =>
    by_cases hz : 0 < l0.length
    · obtain ⟨hm, hlt⟩ := hk1.2 hz
      have hzd : decide (0 < l0.length) = true := decide_eq_true hz
      have hn0 : ¬ (l0.length : Int) = 0 := by omega
      have hne : ((l0.length : Int) == 0) = false := beq_eq_false_iff_ne.2 hn0
      have hwt : IntKind.i64.wrap turn = turn := by rw [i64_w, w64 (by omega) (by omega)]
      have hwt' : wrap64 turn = turn := by rw [w64 (by omega) (by omega)]
      have HM := Aside0.mk hm
      clear hm
      go_wp2_with fail
      go_meet
      case rel => exact ⟨by rw [HM.out], rfl⟩
    · have hzd : decide (0 < l0.length) = false := decide_eq_false hz
      have h0 := hk1.1 (by omega)
      go_wp2_with fail
      go_meet
      case rel => exact ⟨by rw [h0]; rfl, rfl⟩
  case rest =>
  obtain ⟨rfl, rfl⟩ := hcut
  clear hk1
  have hk2 : (0 : Int) ≤ (k0 : Int) := by omega
  have hk3 : (k0 : Int) ≤ (l0.length : Int) := by omega
  have hk4 : ¬ (l0.length : Int) < (k0 : Int) := by omega
  obtain ⟨A2, hcut, hA2⟩ := cutR A0 l0 c0 k0 hk0 hc0
  obtain ⟨hto, hA3⟩ := toR A0 l0 c0 k0 hk0 hc0
  have HA2 := Aside0.mk hA2
  have HA3 := Aside0.mk hA3
  clear hA2 hA3
  go_upto_region 7 with (fail)
  refine reg_start [1, 2, 5, 6, 3, 7, 0, 4, 8, 9, 10] 11 (fun w' => Below wc.heap.size wc w') (by kernel_rfl) rfl (below_drew1 (Below.refl _ _)) (fun hHeld => ?_)
  generalize wc.drew = w2 at hHeld ⊢
  repeat (first | (refine reg_pure (v := ?_) (a' := ?_) rfl rfl rfl (by kernel_rfl) (fun _ _ _ h => h) (by rfl) ?_ ?_ ?_; rotate_left; (solve | (intro w'; go_simp; with_reducible rfl)); rotate_left; (solve | (simp only [Act.put, List.setIfInBounds_toArray, List.set_cons_zero, List.set_cons_succ, i64_w, i32_w]; rfl))) | (refine reg_skip (a' := ?_) rfl rfl rfl (by rfl) (by kernel_rfl) (fun _ _ _ h => h) ?_ ?_; rotate_left; (solve | (simp only [Act.put, List.setIfInBounds_toArray, List.set_cons_zero, List.set_cons_succ, i64_w, i32_w]; rfl))) | (refine reg_load (v := ?_) (a' := ?_) rfl rfl rfl (by kernel_rfl) (fun _ _ _ h => h) (by rfl) ?_ hHeld ?_ ?_; rotate_left; (solve | (intro w' hb'; obtain ⟨hc', hf'⟩ := bcell hb'; clear hb'; go_simp; with_reducible rfl)); rotate_left; (solve | (simp only [Act.put, List.setIfInBounds_toArray, List.set_cons_zero, List.set_cons_succ, i64_w, i32_w]; rfl)); intro hHeld))
  refine reg_run (w1 := w2.alloc (.cells #[] 26)) (v := .slice (some ⟨w2.heap.size, 0, none⟩) 0 0) rfl rfl rfl (by kernel_rfl) (by rfl) (by go_simp) (below_step hHeld (below_alloc (Below.refl _ _) _)) (fun hH2 => ?_)
  rintro a' ha'
  simp only [Act.put, List.setIfInBounds_toArray, List.set_cons_zero, List.set_cons_succ, i64_w, i32_w] at ha'
  subst ha'
  have HE := Aside0.mk (Kd.R_lower (empty_R w2) hHeld.size)
  have HH := Aside0.mk hH2
  clear hHeld
  have hHeld := HH.out
  generalize w2.alloc (.cells #[] 26) = w3 at HE HH hHeld ⊢
  repeat (first | (refine reg_pure (v := ?_) (a' := ?_) rfl rfl rfl (by kernel_rfl) (fun _ _ _ h => h) (by rfl) ?_ ?_ ?_; rotate_left; (solve | (intro w'; go_simp; with_reducible rfl)); rotate_left; (solve | (simp only [Act.put, List.setIfInBounds_toArray, List.set_cons_zero, List.set_cons_succ, i64_w, i32_w]; rfl))) | (refine reg_skip (a' := ?_) rfl rfl rfl (by rfl) (by kernel_rfl) (fun _ _ _ h => h) ?_ ?_; rotate_left; (solve | (simp only [Act.put, List.setIfInBounds_toArray, List.set_cons_zero, List.set_cons_succ, i64_w, i32_w]; rfl))) | (refine reg_load (v := ?_) (a' := ?_) rfl rfl rfl (by kernel_rfl) (fun _ _ _ h => h) (by rfl) ?_ hHeld ?_ ?_; rotate_left; (solve | (intro w' hb'; obtain ⟨hc', hf'⟩ := bcell hb'; clear hb'; go_simp; with_reducible rfl)); rotate_left; (solve | (simp only [Act.put, List.setIfInBounds_toArray, List.set_cons_zero, List.set_cons_succ, i64_w, i32_w]; rfl)); intro hHeld))
  refine reg_rows k26 (k26.K w3) wc wc.heap.size rfl rfl rfl (by kernel_rfl) (by rfl) (.tmp 24) (.tmp 27) 22 26 (.agg #[.int .i64 0, .int .i64 0]) 16 rfl Try.underlying22 info26 rfl (by decide) (by decide) (.slice (some ⟨w2.heap.size, 0, none⟩) 0 0) [] (l0.drop k0) A2 (l0.length - k0) (c0 - k0) (fun _ => True) (fun k => some k ≠ (Value.slice (some ⟨w2.heap.size, 0, none⟩) 0 0).ownBlock) rfl rfl HE.out (HA2.out _ (Kd.C_below HL1.out HH.out)) (fun x cs h => by rw [k26_open h]; exact k26_mkM _ _ _ x) (fun k hk => ⟨trivial, hk⟩) (fun _ _ => trivial) HH.out HH.out.size (by simp; omega) (fun _ h => h) ?_
  intro v1 w4 hR4 hB4 _ _ a' ha'
  simp only [Act.put, List.setIfInBounds_toArray, List.set_cons_zero, List.set_cons_succ, i64_w, i32_w] at ha'
  subst ha'
  have HR4 := Aside0.mk hR4
  have HB4 := Aside0.mk hB4
  have hHeld := hB4
  clear hR4 hB4
  refine reg_rows k26 (k26.K w4) wc wc.heap.size rfl rfl rfl (by kernel_rfl) (by rfl) (.tmp 28) (.tmp 31) 22 26 (.agg #[.int .i64 0, .int .i64 0]) 16 rfl Try.underlying22 info26 rfl (by decide) (by decide) v1 ([] ++ l0.drop k0) (l0.take k0) A0 k0 c0 (fun _ => True) (fun k => some k ≠ v1.ownBlock) rfl rfl HR4.out (HA3.out _ (Kd.C_below HL1.out HB4.out)) (fun x cs h => by rw [k26_open h]; exact k26_mkM _ _ _ x) (fun k hk => ⟨trivial, hk⟩) (fun _ _ => trivial) HB4.out HB4.out.size (by simp; omega) (fun _ h => h) ?_
  clear hHeld
  intro v2 w5 hR5 hB5 _ _ a' ha'
  simp only [Act.put, List.setIfInBounds_toArray, List.set_cons_zero, List.set_cons_succ, i64_w, i32_w] at ha'
  subst ha'
  rw [List.nil_append] at hR5
  have HLT := Aside0.mk (show (l0.drop k0 ++ l0.take k0).length = l0.length by rw [List.length_append, List.length_drop, List.length_take]; omega)
  have HTF := Aside0.mk (show Fit (l0.drop k0 ++ l0.take k0) from fun x hx => HF.out x (by rcases List.mem_append.1 hx with hx | hx; exact List.mem_of_mem_drop hx; exact List.mem_of_mem_take hx))
  have HTH := Aside0.mk (fun n => has_turned l0 k0 n)
  generalize l0.drop k0 ++ l0.take k0 = tl at hR5 HLT HTF HTH
  obtain ⟨A5, c5, rfl, hc5, hC5⟩ := Kd.R_reads hR5
  have HC5 := Aside0.mk hC5
  have HB5 := Aside0.mk hB5
  have hHeld := hB5
  clear hR5 hB5 hC5
  refine reg_call rfl rfl rfl (by kernel_rfl) (by rfl) Try.func17 (by kernel_rfl) rfl #[.slice A5 tl.length c5] rfl (by (try simp only [List.map_toArray, List.map_cons, List.map_nil]); first | done | rfl) ?_
  refine (span_Norm_calls A5 c5 tl _ HC5.out (by have := HLT.out; omega) HTF.out).mono ?_
  rintro e w6 ⟨v6, b, rfl, hR6, hN6, hb6⟩
  obtain ⟨A6, c6, rfl, hc6, hC6⟩ := Kd.R_reads hR6
  obtain rfl : a = b := HN1.out.uniq hN6 (fun n => (HTH.out n).symm)
  have hN := below_step hHeld hb6
  clear hHeld
  refine ⟨_, rfl, hN, fun hHeld => ?_⟩
  have HC6 := Aside0.mk hC6
  have HCC6 := Aside0.mk hc6
  clear hN hb6 hR6 hN6 hC6 hc6
  rintro a' ha'
  simp only [Act.put, List.setIfInBounds_toArray, List.set_cons_zero, List.set_cons_succ, i64_w, i32_w] at ha'
  subst ha'
  repeat (first | (refine reg_pure (v := ?_) (a' := ?_) rfl rfl rfl (by kernel_rfl) (fun _ _ _ h => h) (by rfl) ?_ ?_ ?_; rotate_left; (solve | (intro w'; go_simp; with_reducible rfl)); rotate_left; (solve | (simp only [Act.put, List.setIfInBounds_toArray, List.set_cons_zero, List.set_cons_succ, i64_w, i32_w]; rfl))) | (refine reg_skip (a' := ?_) rfl rfl rfl (by rfl) (by kernel_rfl) (fun _ _ _ h => h) ?_ ?_; rotate_left; (solve | (simp only [Act.put, List.setIfInBounds_toArray, List.set_cons_zero, List.set_cons_succ, i64_w, i32_w]; rfl))) | (refine reg_load (v := ?_) (a' := ?_) rfl rfl rfl (by kernel_rfl) (fun _ _ _ h => h) (by rfl) ?_ hHeld ?_ ?_; rotate_left; (solve | (intro w' hb'; obtain ⟨hc', hf'⟩ := bcell hb'; clear hb'; go_simp; with_reducible rfl)); rotate_left; (solve | (simp only [Act.put, List.setIfInBounds_toArray, List.set_cons_zero, List.set_cons_succ, i64_w, i32_w]; rfl)); intro hHeld))
  refine reg_done (by kernel_rfl) ?_
  have HB6 := Aside0.mk (below_step HB1.out hHeld)
  have HC7 := Aside0.mk (Kd.C_below HC1.out hHeld)
  have HL7 := Aside0.mk (Kd.C_below HL1.out hHeld)
  clear hHeld HC1 HL1 HB1 HA2 HA3 hcut hto HR4 HB4 HH HE HC5 HB5
  have HRT := Aside0.mk ((right_eq a HN1.out.fit (by omega) 100 (by omega)).1)
  have hok : okFrom none a = true := okFrom_none.2 HN1.out.rt
  rw [hok] at HRT
  clear hok
  have HSA := Aside0.mk ((same_eq a a (by omega) 100 (by omega)).2)
  rw [decide_eq_true (rfl : a = a)] at HSA
  go_wp2_with fail
  refine (awake04 _).mono ?_
  rintro e w7 ⟨rfl, hb⟩
  have HB7 := Aside0.mk (below_step HB6.out hb)
  have HC8 := Aside0.mk (Kd.C_below HC7.out hb)
  have HL8 := Aside0.mk (Kd.C_below HL7.out hb)
  have HC9 := Aside0.mk (Kd.C_below HC6.out hb)
  clear hb HB6 HC7 HL7 HC6
  have X1 := Aside0.mk (fun w => span_Has_calls A1 c1 a n w)
  have X2 := Aside0.mk (fun w => span_Has_calls A0 c0 l0 n w)
  have hx : (a.any fun r => decide (r.f0 ≤ n) && decide (n ≤ r.f1)) = (l0.any fun r => decide (r.f0 ≤ n) && decide (n ≤ r.f1)) := HN1.out.has n
  rw [hx] at X1
  clear hx
  generalize (l0.any fun r => decide (r.f0 ≤ n) && decide (n ≤ r.f1)) = hh at X1 X2
  have hle : decide ((a.length : Int) ≤ (l0.length : Int)) = true := decide_eq_true (by omega)
  have hle2 : decide (a.length ≤ l0.length) = true := decide_eq_true hal
  go_wp2_with fail
  refine (span_Right.calls 100 A1 c1 a true _ HC8.out HCC1.out HRT.out).mono ?_
  rintro e w8 ⟨rfl, hb⟩
  have HB8 := Aside0.mk (below_step HB7.out hb)
  have HC10 := Aside0.mk (Kd.C_below HC8.out hb)
  have HL10 := Aside0.mk (Kd.C_below HL8.out hb)
  have HC11 := Aside0.mk (Kd.C_below HC9.out hb)
  clear hb HB7 HC8 HL8 HC9
  go_wp2_with fail
  refine (span_Norm_calls A1 c1 a _ HC10.out (by omega) HN1.out.fit).mono ?_
  rintro e w9 ⟨v9, b9, rfl, hR9, hN9, hb⟩
  obtain ⟨A9, c9, rfl, hc9, hC9⟩ := Kd.R_reads hR9
  obtain rfl : a = b9 := HN1.out.uniq hN9 (fun n => (HN1.out.has n).symm)
  have HB9 := Aside0.mk (below_step HB8.out hb)
  have HC12 := Aside0.mk (Kd.C_below HC10.out hb)
  have HL12 := Aside0.mk (Kd.C_below HL10.out hb)
  have HC13 := Aside0.mk (Kd.C_below HC11.out hb)
  have HC14 := Aside0.mk hC9
  have HCC9 := Aside0.mk hc9
  clear hb HB8 HC10 HL10 HC11 hR9 hN9 hC9 hc9
  go_wp2_with fail
  refine (span_Same.calls 100 A1 c1 a A9 c9 a true _ HC12.out HCC1.out HC14.out HCC9.out HSA.out).mono ?_
  rintro e w10 ⟨rfl, hd⟩
  have hb := hd.below
  clear hd
  have HB10 := Aside0.mk (below_step HB9.out hb)
  have HC15 := Aside0.mk (Kd.C_below HC12.out hb)
  have HL15 := Aside0.mk (Kd.C_below HL12.out hb)
  have HC16 := Aside0.mk (Kd.C_below HC13.out hb)
  clear hb HB9 HC12 HL12 HC13 HC14
  go_wp2_with fail
  refine (span_Same.calls 100 A1 c1 a A6 c6 a true _ HC15.out HCC1.out HC16.out HCC6.out HSA.out).mono ?_
  rintro e w11 ⟨rfl, hd⟩
  have hb := hd.below
  clear hd
  have HB11 := Aside0.mk (below_step HB10.out hb)
  have HC17 := Aside0.mk (Kd.C_below HC15.out hb)
  have HL17 := Aside0.mk (Kd.C_below HL15.out hb)
  clear hb HB10 HC15 HL15 HC16
  go_wp2_with fail
  refine (X1.out _ HC17.out (by omega)).mono ?_
  rintro e w12 ⟨rfl, hb⟩
  have HB12 := Aside0.mk (below_step HB11.out hb)
  have HL18 := Aside0.mk (Kd.C_below HL17.out hb)
  clear hb HB11 HC17 HL17
  go_wp2_with fail
  refine (X2.out _ HL18.out (by omega)).mono ?_
  rintro e w13 ⟨rfl, hb⟩
  have HB13 := Aside0.mk (below_step HB12.out hb)
  clear hb HB12 HL18
  go_wp2_with fail
  rw [HT.out]
  exact ⟨rfl, HB13.out⟩
end Go.Proofs.Ytedmjfngpofoaaa.PSpanTells
