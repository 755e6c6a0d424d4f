/- Texts of this claim, put together (wip/pack.py): PAskSizesz4. -/
import Derived.Test.YtinoabkfekomcaaK1
import Derived.Test.YtinoabkfekomcaaK17
import Derived.Test.YtinoabkfekomcaaK20
namespace Go.Proofs.Ytinoabkfekomcaa.PAskSizes
open Go.RowKit Go.Proofs.YtinoabkfekomcaaW.PrintWords Go.Proofs.YtinoabkfekomcaaW.PrintLast Go.Proofs.YtinoabkfekomcaaW.PrintMore
attribute [local go_sem] max2_int min2_int max_two min_two max_three min_three max_four min_four   -- for this text's walks alone
set_option linter.unusedVariables false
set_option linter.unusedSimpArgs false

/-! ### reply_Kind: function 24 -/
def reply_Kind.f (k : Nat) (a0_0 : Int) (a0_1 : Int) (a0_2 : Int) (a0_3 : Int) (a0_4 : Int) (l0_5 : List Int) (a1 : ByteArray) : Option (Int) := (reply_Data.f k a0_0 a0_1 a0_2 a0_3 a0_4 l0_5 a1).bind fun bt168 => (if bt168.2 = true then (some 1) else ((ask_Right.f k a0_0 a0_1 a0_2 a0_3 a0_4 l0_5).bind fun t172 => (if t172 = true then (if (a1.size : Int) = 2 then (if 1 < (a1.size : Int) then ((reply_Code.f (wrap64 (bt a1 1))).bind fun t173 => (if t173 = true then (if 0 < (a1.size : Int) then (if (wrap64 (bt a1 0)) = (Go.bits .or .i64 a0_0 128) then (some 2) else (some 0)) else (none)) else (some 0))) else (none)) else (some 0)) else (some 0))))
theorem reply_Kind.mono : ∀ a0 a1 a2 a3 a4 a5 a6 k, LeO (reply_Kind.f k a0 a1 a2 a3 a4 a5 a6) (reply_Kind.f (k + 1) a0 a1 a2 a3 a4 a5 a6) := by
 intro a0 a1 a2 a3 a4 a5 a6 k
 unfold reply_Kind.f
 repeat' first
   | (with_reducible exact ask_Right.mono _ _ _ _ _ _ _)
   | (with_reducible exact reply_Data.mono _ _ _ _ _ _ _ _)
   | (with_reducible exact LeO.refl _)
   | (with_reducible exact LeO.none _)
   | (with_reducible refine LeO.ite ?_ ?_)
   | (with_reducible refine LeO.bind ?_ (fun _ => ?_))
   | exact ask_Right.mono _ _ _ _ _ _ _
   | exact reply_Data.mono _ _ _ _ _ _ _ _
   | exact LeO.none _
   | refine LeO.ite ?_ ?_
   | refine LeO.bind ?_ (fun _ => ?_)

/-! ### reply_Kind, walked by hand -/
set_option maxHeartbeats 8000000 in
set_option maxRecDepth 100000 in
theorem reply_Kind.calls (k : Nat) (a0 a1 a2 a3 a4 : Int) (A0 : Option Addr) (c0 : Nat) (l0 : List Int) (s : ByteArray) (r : Int) (w : World) (hr0 : Kd.C (Kd.int .i64) w A0 l0.length l0) (hc0 : l0.length ≤ c0) (h : reply_Kind.f k a0 a1 a2 a3 a4 l0 s = some r) :
  Calls Try.prog 24 #[.agg #[.int .i64 a0, .int .i64 a1, .int .i64 a2, .int .i64 a3, .int .i64 a4, .slice A0 l0.length c0], .string s] w fun e w' => e = .returned (.int .i64 r) ∧ Below w.heap.size w w' := by
 obtain ⟨T, hT⟩ : ∃ T : Ending → World → Prop, T = fun e w' => e = .returned (.int .i64 r) ∧ Below w.heap.size w w' := ⟨_, rfl⟩
 have HT := Aside0.mk hT
 rw [← hT]
 clear hT
 have HR := Aside0.mk (And.intro hc0 (Kd.C_below hr0 (below_alloc (Below.refl _ _) (.cells #[.int .i64 a0, .int .i64 a1, .int .i64 a2, .int .i64 a3, .int .i64 a4, .slice A0 l0.length c0] 24))))
 clear hr0 hc0
 unfold reply_Kind.f at h
 obtain ⟨⟨dl, ok⟩, hd, h⟩ := Option.bind_eq_some_iff.1 h
 have HD := Aside0.mk hd
 clear hd
 cases ok
 ·rw [if_neg (show ¬ (dl, false).2 = true from Bool.false_ne_true)] at h
  obtain ⟨rt, hr, h⟩ := Option.bind_eq_some_iff.1 h
  have HI := Aside0.mk hr
  clear hr
  cases rt
  ·rw [if_neg (by decide)] at h
   obtain rfl : _ = r := Option.some.inj h
   clear h
   obtain ⟨b1, cd, hc⟩ : ∃ (b1 : Int) (cd : Bool), reply_Code.f b1 = some cd := ⟨0, _, rfl⟩
   have HC := Aside0.mk hc
   clear hc
   go_enter Try.func24, Try.ntmps24
   go_wp2_with fail
   refine (reply_Data.calls k a0 a1 a2 a3 a4 A0 c0 l0 s dl false _ HR.out.2 HR.out.1 HD.out).mono ?_
   rintro e w1 ⟨v0, rfl, -, hb⟩
   have K1 := Aside0.mk (blk_below (blk_new w (.cells #[.int .i64 a0, .int .i64 a1, .int .i64 a2, .int .i64 a3, .int .i64 a4, .slice A0 l0.length c0] 24)) hb)
   have D1 := Aside0.mk (below_step (below_alloc (Below.refl w.heap.size w) (.cells #[.int .i64 a0, .int .i64 a1, .int .i64 a2, .int .i64 a3, .int .i64 a4, .slice A0 l0.length c0] 24)) hb)
   have C1 := Aside0.mk (Kd.C_below HR.out.2 hb)
   clear hb
   have HB := Aside0.mk (below_drew1 (Below.refl w1.heap.size w1))
   have HKS : Aside0 (∀ w' : World, Below w1.heap.size w1 w' → (w'.cell? ⟨w.heap.size, 0, none⟩ = some (.int .i64 a0) ∧ w'.cell? ⟨w.heap.size, 1, none⟩ = some (.int .i64 a1) ∧ w'.cell? ⟨w.heap.size, 2, none⟩ = some (.int .i64 a2) ∧ w'.cell? ⟨w.heap.size, 3, none⟩ = some (.int .i64 a3) ∧ w'.cell? ⟨w.heap.size, 4, none⟩ = some (.int .i64 a4) ∧ w'.cell? ⟨w.heap.size, 5, none⟩ = some (.slice A0 l0.length c0))) := Aside0.mk (fun w' hb => hcells6 (blk_below K1.out hb))
   go_upto_region 4 with (fail)
   refine reg_start (List.range 22) 22 (fun w' => w'.cell? ⟨w.heap.size, 0, none⟩ = some (.int .i64 a0) ∧ w'.cell? ⟨w.heap.size, 1, none⟩ = some (.int .i64 a1) ∧ w'.cell? ⟨w.heap.size, 2, none⟩ = some (.int .i64 a2) ∧ w'.cell? ⟨w.heap.size, 3, none⟩ = some (.int .i64 a3) ∧ w'.cell? ⟨w.heap.size, 4, none⟩ = some (.int .i64 a4) ∧ w'.cell? ⟨w.heap.size, 5, none⟩ = some (.slice A0 l0.length c0)) (by kernel_rfl) rfl (HKS.out _ HB.out) (fun hHeld => ?_)
   generalize w1.drew = w2 at HB hHeld ⊢
   repeat (first | (refine reg_pure (v := ?_) (a' := ?_) rfl rfl rfl (by kernel_rfl) (fun _ _ _ h => h) (by rfl) ?_ ?_ ?_; rotate_left; (solve | (intro w'; go_simp; with_reducible rfl)); rotate_left; (solve | (simp only [Act.put, List.setIfInBounds_toArray, List.set_cons_zero, List.set_cons_succ, i64_w, i32_w]; rfl))) | (refine reg_skip (a' := ?_) rfl rfl rfl (by rfl) (by kernel_rfl) (fun _ _ _ h => h) ?_ ?_; rotate_left; (solve | (simp only [Act.put, List.setIfInBounds_toArray, List.set_cons_zero, List.set_cons_succ, i64_w, i32_w]; rfl))) | (refine reg_load (v := ?_) (a' := ?_) rfl rfl rfl (by kernel_rfl) (fun _ _ _ h => h) (by rfl) ?_ hHeld ?_ ?_; rotate_left; (solve | (rintro w' ⟨s0, s1, s2, s3, s4, s5⟩; go_simp; with_reducible rfl)); rotate_left; (solve | (simp only [Act.put, List.setIfInBounds_toArray, List.set_cons_zero, List.set_cons_succ, i64_w, i32_w]; rfl)); intro hHeld))
   refine reg_call rfl rfl rfl (by kernel_rfl) (by rfl) Try.func16 (by kernel_rfl) rfl #[.agg #[.int .i64 a0, .int .i64 a1, .int .i64 a2, .int .i64 a3, .int .i64 a4, .slice A0 l0.length c0]] rfl (by (try simp only [List.map_toArray, List.map_cons, List.map_nil]); first | done | rfl) ?_
   refine (ask_Right.calls k a0 a1 a2 a3 a4 A0 c0 l0 false _ (Kd.C_below C1.out HB.out) HR.out.1 HI.out).mono ?_
   rintro e w5 ⟨rfl, hb⟩
   have HN := Aside0.mk (below_step HB.out hb)
   clear HB hb
   have HB := Aside0.mk HN.out
   clear HN
   refine ⟨_, rfl, HKS.out _ HB.out, fun hHeld => ?_⟩
   rintro a' ha'
   simp only [Act.put, List.setIfInBounds_toArray, List.set_cons_zero, List.set_cons_succ, i64_w, i32_w] at ha'
   subst ha'
   repeat (first | (refine reg_pure (v := ?_) (a' := ?_) rfl rfl rfl (by kernel_rfl) (fun _ _ _ h => h) (by rfl) ?_ ?_ ?_; rotate_left; (solve | (intro w'; go_simp; with_reducible rfl)); rotate_left; (solve | (simp only [Act.put, List.setIfInBounds_toArray, List.set_cons_zero, List.set_cons_succ, i64_w, i32_w]; rfl))) | (refine reg_skip (a' := ?_) rfl rfl rfl (by rfl) (by kernel_rfl) (fun _ _ _ h => h) ?_ ?_; rotate_left; (solve | (simp only [Act.put, List.setIfInBounds_toArray, List.set_cons_zero, List.set_cons_succ, i64_w, i32_w]; rfl))) | (refine reg_load (v := ?_) (a' := ?_) rfl rfl rfl (by kernel_rfl) (fun _ _ _ h => h) (by rfl) ?_ hHeld ?_ ?_; rotate_left; (solve | (rintro w' ⟨s0, s1, s2, s3, s4, s5⟩; go_simp; with_reducible rfl)); rotate_left; (solve | (simp only [Act.put, List.setIfInBounds_toArray, List.set_cons_zero, List.set_cons_succ, i64_w, i32_w]; rfl)); intro hHeld))
   refine reg_done (by kernel_rfl) ?_
   go_wp2
   rw [HT.out]
   refine ⟨rfl, ?_⟩
   have D0 := below_step D1.out HB.out
   with_reducible (repeat (first | exact D0 | apply below_drew1 | apply pw_below_drewN))
  rw [if_pos rfl] at h
  by_cases h2 : (s.size : Int) = 2
  rotate_left
  ·rw [if_neg h2] at h
   obtain rfl : _ = r := Option.some.inj h
   clear h
   obtain ⟨b1, cd, hc⟩ : ∃ (b1 : Int) (cd : Bool), reply_Code.f b1 = some cd := ⟨0, _, rfl⟩
   have HC := Aside0.mk hc
   clear hc
   have h5 : ((s.size : Int) == 2) = false := beq_eq_false_iff_ne.2 h2
   clear h2
   go_enter Try.func24, Try.ntmps24
   go_wp2_with fail
   refine (reply_Data.calls k a0 a1 a2 a3 a4 A0 c0 l0 s dl false _ HR.out.2 HR.out.1 HD.out).mono ?_
   rintro e w1 ⟨v0, rfl, -, hb⟩
   have K1 := Aside0.mk (blk_below (blk_new w (.cells #[.int .i64 a0, .int .i64 a1, .int .i64 a2, .int .i64 a3, .int .i64 a4, .slice A0 l0.length c0] 24)) hb)
   have D1 := Aside0.mk (below_step (below_alloc (Below.refl w.heap.size w) (.cells #[.int .i64 a0, .int .i64 a1, .int .i64 a2, .int .i64 a3, .int .i64 a4, .slice A0 l0.length c0] 24)) hb)
   have C1 := Aside0.mk (Kd.C_below HR.out.2 hb)
   clear hb
   have HB := Aside0.mk (below_drew1 (Below.refl w1.heap.size w1))
   have HKS : Aside0 (∀ w' : World, Below w1.heap.size w1 w' → (w'.cell? ⟨w.heap.size, 0, none⟩ = some (.int .i64 a0) ∧ w'.cell? ⟨w.heap.size, 1, none⟩ = some (.int .i64 a1) ∧ w'.cell? ⟨w.heap.size, 2, none⟩ = some (.int .i64 a2) ∧ w'.cell? ⟨w.heap.size, 3, none⟩ = some (.int .i64 a3) ∧ w'.cell? ⟨w.heap.size, 4, none⟩ = some (.int .i64 a4) ∧ w'.cell? ⟨w.heap.size, 5, none⟩ = some (.slice A0 l0.length c0))) := Aside0.mk (fun w' hb => hcells6 (blk_below K1.out hb))
   go_upto_region 4 with (fail)
   refine reg_start (List.range 22) 22 (fun w' => w'.cell? ⟨w.heap.size, 0, none⟩ = some (.int .i64 a0) ∧ w'.cell? ⟨w.heap.size, 1, none⟩ = some (.int .i64 a1) ∧ w'.cell? ⟨w.heap.size, 2, none⟩ = some (.int .i64 a2) ∧ w'.cell? ⟨w.heap.size, 3, none⟩ = some (.int .i64 a3) ∧ w'.cell? ⟨w.heap.size, 4, none⟩ = some (.int .i64 a4) ∧ w'.cell? ⟨w.heap.size, 5, none⟩ = some (.slice A0 l0.length c0)) (by kernel_rfl) rfl (HKS.out _ HB.out) (fun hHeld => ?_)
   generalize w1.drew = w2 at HB hHeld ⊢
   repeat (first | (refine reg_pure (v := ?_) (a' := ?_) rfl rfl rfl (by kernel_rfl) (fun _ _ _ h => h) (by rfl) ?_ ?_ ?_; rotate_left; (solve | (intro w'; go_simp; with_reducible rfl)); rotate_left; (solve | (simp only [Act.put, List.setIfInBounds_toArray, List.set_cons_zero, List.set_cons_succ, i64_w, i32_w]; rfl))) | (refine reg_skip (a' := ?_) rfl rfl rfl (by rfl) (by kernel_rfl) (fun _ _ _ h => h) ?_ ?_; rotate_left; (solve | (simp only [Act.put, List.setIfInBounds_toArray, List.set_cons_zero, List.set_cons_succ, i64_w, i32_w]; rfl))) | (refine reg_load (v := ?_) (a' := ?_) rfl rfl rfl (by kernel_rfl) (fun _ _ _ h => h) (by rfl) ?_ hHeld ?_ ?_; rotate_left; (solve | (rintro w' ⟨s0, s1, s2, s3, s4, s5⟩; go_simp; with_reducible rfl)); rotate_left; (solve | (simp only [Act.put, List.setIfInBounds_toArray, List.set_cons_zero, List.set_cons_succ, i64_w, i32_w]; rfl)); intro hHeld))
   refine reg_call rfl rfl rfl (by kernel_rfl) (by rfl) Try.func16 (by kernel_rfl) rfl #[.agg #[.int .i64 a0, .int .i64 a1, .int .i64 a2, .int .i64 a3, .int .i64 a4, .slice A0 l0.length c0]] rfl (by (try simp only [List.map_toArray, List.map_cons, List.map_nil]); first | done | rfl) ?_
   refine (ask_Right.calls k a0 a1 a2 a3 a4 A0 c0 l0 true _ (Kd.C_below C1.out HB.out) HR.out.1 HI.out).mono ?_
   rintro e w5 ⟨rfl, hb⟩
   have HN := Aside0.mk (below_step HB.out hb)
   clear HB hb
   have HB := Aside0.mk HN.out
   clear HN
   refine ⟨_, rfl, HKS.out _ HB.out, fun hHeld => ?_⟩
   rintro a' ha'
   simp only [Act.put, List.setIfInBounds_toArray, List.set_cons_zero, List.set_cons_succ, i64_w, i32_w] at ha'
   subst ha'
   repeat (first | (refine reg_pure (v := ?_) (a' := ?_) rfl rfl rfl (by kernel_rfl) (fun _ _ _ h => h) (by rfl) ?_ ?_ ?_; rotate_left; (solve | (intro w'; go_simp; with_reducible rfl)); rotate_left; (solve | (simp only [Act.put, List.setIfInBounds_toArray, List.set_cons_zero, List.set_cons_succ, i64_w, i32_w]; rfl))) | (refine reg_skip (a' := ?_) rfl rfl rfl (by rfl) (by kernel_rfl) (fun _ _ _ h => h) ?_ ?_; rotate_left; (solve | (simp only [Act.put, List.setIfInBounds_toArray, List.set_cons_zero, List.set_cons_succ, i64_w, i32_w]; rfl))) | (refine reg_load (v := ?_) (a' := ?_) rfl rfl rfl (by kernel_rfl) (fun _ _ _ h => h) (by rfl) ?_ hHeld ?_ ?_; rotate_left; (solve | (rintro w' ⟨s0, s1, s2, s3, s4, s5⟩; go_simp; with_reducible rfl)); rotate_left; (solve | (simp only [Act.put, List.setIfInBounds_toArray, List.set_cons_zero, List.set_cons_succ, i64_w, i32_w]; rfl)); intro hHeld))
   refine reg_done (by kernel_rfl) ?_
   go_wp2
   rw [HT.out]
   refine ⟨rfl, ?_⟩
   have D0 := below_step D1.out HB.out
   with_reducible (repeat (first | exact D0 | apply below_drew1 | apply pw_below_drewN))
  have hz : s.size = 2 := by omega
  have h5 : ((s.size : Int) == 2) = true := beq_iff_eq.2 h2
  obtain ⟨v0, e0, g0, g0', u0, y0, x0⟩ := byte_at s 0 (by omega)
  obtain ⟨v1, e1, g1, g1', u1, y1, x1⟩ := byte_at s 1 (by omega)
  rw [show ((0 : Nat) : Int) = 0 from rfl] at e0
  rw [show ((1 : Nat) : Int) = 1 from rfl] at e1
  rw [if_pos h2, if_pos (by omega), e1, u1] at h
  obtain ⟨cd, hc, h⟩ := Option.bind_eq_some_iff.1 h
  have HC := Aside0.mk hc
  clear hc
  obtain ⟨b1, hb1⟩ : ∃ b1, b1 = v1 := ⟨_, rfl⟩
  rw [← hb1] at HC x1 y1 e1 u1 g1 g1'
  clear hb1
  cases cd
  ·rw [if_neg (by decide)] at h
   obtain rfl : _ = r := Option.some.inj h
   clear h
   clear e0 e1
   go_enter Try.func24, Try.ntmps24
   go_wp2_with fail
   refine (reply_Data.calls k a0 a1 a2 a3 a4 A0 c0 l0 s dl false _ HR.out.2 HR.out.1 HD.out).mono ?_
   rintro e w1 ⟨v0, rfl, -, hb⟩
   have K1 := Aside0.mk (blk_below (blk_new w (.cells #[.int .i64 a0, .int .i64 a1, .int .i64 a2, .int .i64 a3, .int .i64 a4, .slice A0 l0.length c0] 24)) hb)
   have D1 := Aside0.mk (below_step (below_alloc (Below.refl w.heap.size w) (.cells #[.int .i64 a0, .int .i64 a1, .int .i64 a2, .int .i64 a3, .int .i64 a4, .slice A0 l0.length c0] 24)) hb)
   have C1 := Aside0.mk (Kd.C_below HR.out.2 hb)
   clear hb
   have HB := Aside0.mk (below_drew1 (Below.refl w1.heap.size w1))
   have HKS : Aside0 (∀ w' : World, Below w1.heap.size w1 w' → (w'.cell? ⟨w.heap.size, 0, none⟩ = some (.int .i64 a0) ∧ w'.cell? ⟨w.heap.size, 1, none⟩ = some (.int .i64 a1) ∧ w'.cell? ⟨w.heap.size, 2, none⟩ = some (.int .i64 a2) ∧ w'.cell? ⟨w.heap.size, 3, none⟩ = some (.int .i64 a3) ∧ w'.cell? ⟨w.heap.size, 4, none⟩ = some (.int .i64 a4) ∧ w'.cell? ⟨w.heap.size, 5, none⟩ = some (.slice A0 l0.length c0))) := Aside0.mk (fun w' hb => hcells6 (blk_below K1.out hb))
   go_upto_region 4 with (fail)
   refine reg_start (List.range 22) 22 (fun w' => w'.cell? ⟨w.heap.size, 0, none⟩ = some (.int .i64 a0) ∧ w'.cell? ⟨w.heap.size, 1, none⟩ = some (.int .i64 a1) ∧ w'.cell? ⟨w.heap.size, 2, none⟩ = some (.int .i64 a2) ∧ w'.cell? ⟨w.heap.size, 3, none⟩ = some (.int .i64 a3) ∧ w'.cell? ⟨w.heap.size, 4, none⟩ = some (.int .i64 a4) ∧ w'.cell? ⟨w.heap.size, 5, none⟩ = some (.slice A0 l0.length c0)) (by kernel_rfl) rfl (HKS.out _ HB.out) (fun hHeld => ?_)
   generalize w1.drew = w2 at HB hHeld ⊢
   repeat (first | (refine reg_pure (v := ?_) (a' := ?_) rfl rfl rfl (by kernel_rfl) (fun _ _ _ h => h) (by rfl) ?_ ?_ ?_; rotate_left; (solve | (intro w'; go_simp; with_reducible rfl)); rotate_left; (solve | (simp only [Act.put, List.setIfInBounds_toArray, List.set_cons_zero, List.set_cons_succ, i64_w, i32_w]; rfl))) | (refine reg_skip (a' := ?_) rfl rfl rfl (by rfl) (by kernel_rfl) (fun _ _ _ h => h) ?_ ?_; rotate_left; (solve | (simp only [Act.put, List.setIfInBounds_toArray, List.set_cons_zero, List.set_cons_succ, i64_w, i32_w]; rfl))) | (refine reg_load (v := ?_) (a' := ?_) rfl rfl rfl (by kernel_rfl) (fun _ _ _ h => h) (by rfl) ?_ hHeld ?_ ?_; rotate_left; (solve | (rintro w' ⟨s0, s1, s2, s3, s4, s5⟩; go_simp; with_reducible rfl)); rotate_left; (solve | (simp only [Act.put, List.setIfInBounds_toArray, List.set_cons_zero, List.set_cons_succ, i64_w, i32_w]; rfl)); intro hHeld))
   refine reg_call rfl rfl rfl (by kernel_rfl) (by rfl) Try.func16 (by kernel_rfl) rfl #[.agg #[.int .i64 a0, .int .i64 a1, .int .i64 a2, .int .i64 a3, .int .i64 a4, .slice A0 l0.length c0]] rfl (by (try simp only [List.map_toArray, List.map_cons, List.map_nil]); first | done | rfl) ?_
   refine (ask_Right.calls k a0 a1 a2 a3 a4 A0 c0 l0 true _ (Kd.C_below C1.out HB.out) HR.out.1 HI.out).mono ?_
   rintro e w5 ⟨rfl, hb⟩
   have HN := Aside0.mk (below_step HB.out hb)
   clear HB hb
   have HB := Aside0.mk HN.out
   clear HN
   refine ⟨_, rfl, HKS.out _ HB.out, fun hHeld => ?_⟩
   rintro a' ha'
   simp only [Act.put, List.setIfInBounds_toArray, List.set_cons_zero, List.set_cons_succ, i64_w, i32_w] at ha'
   subst ha'
   repeat (first | (refine reg_pure (v := ?_) (a' := ?_) rfl rfl rfl (by kernel_rfl) (fun _ _ _ h => h) (by rfl) ?_ ?_ ?_; rotate_left; (solve | (intro w'; go_simp; with_reducible rfl)); rotate_left; (solve | (simp only [Act.put, List.setIfInBounds_toArray, List.set_cons_zero, List.set_cons_succ, i64_w, i32_w]; rfl))) | (refine reg_skip (a' := ?_) rfl rfl rfl (by rfl) (by kernel_rfl) (fun _ _ _ h => h) ?_ ?_; rotate_left; (solve | (simp only [Act.put, List.setIfInBounds_toArray, List.set_cons_zero, List.set_cons_succ, i64_w, i32_w]; rfl))) | (refine reg_load (v := ?_) (a' := ?_) rfl rfl rfl (by kernel_rfl) (fun _ _ _ h => h) (by rfl) ?_ hHeld ?_ ?_; rotate_left; (solve | (rintro w' ⟨s0, s1, s2, s3, s4, s5⟩; go_simp; with_reducible rfl)); rotate_left; (solve | (simp only [Act.put, List.setIfInBounds_toArray, List.set_cons_zero, List.set_cons_succ, i64_w, i32_w]; rfl)); intro hHeld))
   refine reg_call rfl rfl rfl (by kernel_rfl) (by rfl) Try.func29 (by kernel_rfl) rfl #[.int .i64 b1] rfl (by (try simp only [List.map_toArray, List.map_cons, List.map_nil]); first | done | rfl) ?_
   refine (reply_Code.calls b1 false _ HC.out).mono ?_
   rintro e w5 ⟨rfl, hd⟩
   have hb := hd.below; clear hd
   have HN := Aside0.mk (below_step HB.out hb)
   clear HB hb
   have HB := Aside0.mk HN.out
   clear HN
   refine ⟨_, rfl, HKS.out _ HB.out, fun hHeld => ?_⟩
   rintro a' ha'
   simp only [Act.put, List.setIfInBounds_toArray, List.set_cons_zero, List.set_cons_succ, i64_w, i32_w] at ha'
   subst ha'
   repeat (first | (refine reg_pure (v := ?_) (a' := ?_) rfl rfl rfl (by kernel_rfl) (fun _ _ _ h => h) (by rfl) ?_ ?_ ?_; rotate_left; (solve | (intro w'; go_simp; with_reducible rfl)); rotate_left; (solve | (simp only [Act.put, List.setIfInBounds_toArray, List.set_cons_zero, List.set_cons_succ, i64_w, i32_w]; rfl))) | (refine reg_skip (a' := ?_) rfl rfl rfl (by rfl) (by kernel_rfl) (fun _ _ _ h => h) ?_ ?_; rotate_left; (solve | (simp only [Act.put, List.setIfInBounds_toArray, List.set_cons_zero, List.set_cons_succ, i64_w, i32_w]; rfl))) | (refine reg_load (v := ?_) (a' := ?_) rfl rfl rfl (by kernel_rfl) (fun _ _ _ h => h) (by rfl) ?_ hHeld ?_ ?_; rotate_left; (solve | (rintro w' ⟨s0, s1, s2, s3, s4, s5⟩; go_simp; with_reducible rfl)); rotate_left; (solve | (simp only [Act.put, List.setIfInBounds_toArray, List.set_cons_zero, List.set_cons_succ, i64_w, i32_w]; rfl)); intro hHeld))
   refine reg_done (by kernel_rfl) ?_
   go_wp2
   rw [HT.out]
   refine ⟨rfl, ?_⟩
   have D0 := below_step D1.out HB.out
   with_reducible (repeat (first | exact D0 | apply below_drew1 | apply pw_below_drewN))
  rw [if_pos rfl, if_pos (by omega), e0, u0] at h
  by_cases h3 : v0 = Go.bits .or .i64 a0 128
  ·rw [if_pos h3] at h
   obtain rfl : _ = r := Option.some.inj h
   clear h
   have h4 : (v0 == Go.bits .or .i64 a0 128) = true := beq_iff_eq.2 h3
   clear h3 e0 e1
   go_enter Try.func24, Try.ntmps24
   go_wp2_with fail
   refine (reply_Data.calls k a0 a1 a2 a3 a4 A0 c0 l0 s dl false _ HR.out.2 HR.out.1 HD.out).mono ?_
   rintro e w1 ⟨v0, rfl, -, hb⟩
   have K1 := Aside0.mk (blk_below (blk_new w (.cells #[.int .i64 a0, .int .i64 a1, .int .i64 a2, .int .i64 a3, .int .i64 a4, .slice A0 l0.length c0] 24)) hb)
   have D1 := Aside0.mk (below_step (below_alloc (Below.refl w.heap.size w) (.cells #[.int .i64 a0, .int .i64 a1, .int .i64 a2, .int .i64 a3, .int .i64 a4, .slice A0 l0.length c0] 24)) hb)
   have C1 := Aside0.mk (Kd.C_below HR.out.2 hb)
   clear hb
   have HB := Aside0.mk (below_drew1 (Below.refl w1.heap.size w1))
   have HKS : Aside0 (∀ w' : World, Below w1.heap.size w1 w' → (w'.cell? ⟨w.heap.size, 0, none⟩ = some (.int .i64 a0) ∧ w'.cell? ⟨w.heap.size, 1, none⟩ = some (.int .i64 a1) ∧ w'.cell? ⟨w.heap.size, 2, none⟩ = some (.int .i64 a2) ∧ w'.cell? ⟨w.heap.size, 3, none⟩ = some (.int .i64 a3) ∧ w'.cell? ⟨w.heap.size, 4, none⟩ = some (.int .i64 a4) ∧ w'.cell? ⟨w.heap.size, 5, none⟩ = some (.slice A0 l0.length c0))) := Aside0.mk (fun w' hb => hcells6 (blk_below K1.out hb))
   go_upto_region 4 with (fail)
   refine reg_start (List.range 22) 22 (fun w' => w'.cell? ⟨w.heap.size, 0, none⟩ = some (.int .i64 a0) ∧ w'.cell? ⟨w.heap.size, 1, none⟩ = some (.int .i64 a1) ∧ w'.cell? ⟨w.heap.size, 2, none⟩ = some (.int .i64 a2) ∧ w'.cell? ⟨w.heap.size, 3, none⟩ = some (.int .i64 a3) ∧ w'.cell? ⟨w.heap.size, 4, none⟩ = some (.int .i64 a4) ∧ w'.cell? ⟨w.heap.size, 5, none⟩ = some (.slice A0 l0.length c0)) (by kernel_rfl) rfl (HKS.out _ HB.out) (fun hHeld => ?_)
   generalize w1.drew = w2 at HB hHeld ⊢
   repeat (first | (refine reg_pure (v := ?_) (a' := ?_) rfl rfl rfl (by kernel_rfl) (fun _ _ _ h => h) (by rfl) ?_ ?_ ?_; rotate_left; (solve | (intro w'; go_simp; with_reducible rfl)); rotate_left; (solve | (simp only [Act.put, List.setIfInBounds_toArray, List.set_cons_zero, List.set_cons_succ, i64_w, i32_w]; rfl))) | (refine reg_skip (a' := ?_) rfl rfl rfl (by rfl) (by kernel_rfl) (fun _ _ _ h => h) ?_ ?_; rotate_left; (solve | (simp only [Act.put, List.setIfInBounds_toArray, List.set_cons_zero, List.set_cons_succ, i64_w, i32_w]; rfl))) | (refine reg_load (v := ?_) (a' := ?_) rfl rfl rfl (by kernel_rfl) (fun _ _ _ h => h) (by rfl) ?_ hHeld ?_ ?_; rotate_left; (solve | (rintro w' ⟨s0, s1, s2, s3, s4, s5⟩; go_simp; with_reducible rfl)); rotate_left; (solve | (simp only [Act.put, List.setIfInBounds_toArray, List.set_cons_zero, List.set_cons_succ, i64_w, i32_w]; rfl)); intro hHeld))
   refine reg_call rfl rfl rfl (by kernel_rfl) (by rfl) Try.func16 (by kernel_rfl) rfl #[.agg #[.int .i64 a0, .int .i64 a1, .int .i64 a2, .int .i64 a3, .int .i64 a4, .slice A0 l0.length c0]] rfl (by (try simp only [List.map_toArray, List.map_cons, List.map_nil]); first | done | rfl) ?_
   refine (ask_Right.calls k a0 a1 a2 a3 a4 A0 c0 l0 true _ (Kd.C_below C1.out HB.out) HR.out.1 HI.out).mono ?_
   rintro e w5 ⟨rfl, hb⟩
   have HN := Aside0.mk (below_step HB.out hb)
   clear HB hb
   have HB := Aside0.mk HN.out
   clear HN
   refine ⟨_, rfl, HKS.out _ HB.out, fun hHeld => ?_⟩
   rintro a' ha'
   simp only [Act.put, List.setIfInBounds_toArray, List.set_cons_zero, List.set_cons_succ, i64_w, i32_w] at ha'
   subst ha'
   repeat (first | (refine reg_pure (v := ?_) (a' := ?_) rfl rfl rfl (by kernel_rfl) (fun _ _ _ h => h) (by rfl) ?_ ?_ ?_; rotate_left; (solve | (intro w'; go_simp; with_reducible rfl)); rotate_left; (solve | (simp only [Act.put, List.setIfInBounds_toArray, List.set_cons_zero, List.set_cons_succ, i64_w, i32_w]; rfl))) | (refine reg_skip (a' := ?_) rfl rfl rfl (by rfl) (by kernel_rfl) (fun _ _ _ h => h) ?_ ?_; rotate_left; (solve | (simp only [Act.put, List.setIfInBounds_toArray, List.set_cons_zero, List.set_cons_succ, i64_w, i32_w]; rfl))) | (refine reg_load (v := ?_) (a' := ?_) rfl rfl rfl (by kernel_rfl) (fun _ _ _ h => h) (by rfl) ?_ hHeld ?_ ?_; rotate_left; (solve | (rintro w' ⟨s0, s1, s2, s3, s4, s5⟩; go_simp; with_reducible rfl)); rotate_left; (solve | (simp only [Act.put, List.setIfInBounds_toArray, List.set_cons_zero, List.set_cons_succ, i64_w, i32_w]; rfl)); intro hHeld))
   refine reg_call rfl rfl rfl (by kernel_rfl) (by rfl) Try.func29 (by kernel_rfl) rfl #[.int .i64 b1] rfl (by (try simp only [List.map_toArray, List.map_cons, List.map_nil]); first | done | rfl) ?_
   refine (reply_Code.calls b1 true _ HC.out).mono ?_
   rintro e w5 ⟨rfl, hd⟩
   have hb := hd.below; clear hd
   have HN := Aside0.mk (below_step HB.out hb)
   clear HB hb
   have HB := Aside0.mk HN.out
   clear HN
   refine ⟨_, rfl, HKS.out _ HB.out, fun hHeld => ?_⟩
   rintro a' ha'
   simp only [Act.put, List.setIfInBounds_toArray, List.set_cons_zero, List.set_cons_succ, i64_w, i32_w] at ha'
   subst ha'
   repeat (first | (refine reg_pure (v := ?_) (a' := ?_) rfl rfl rfl (by kernel_rfl) (fun _ _ _ h => h) (by rfl) ?_ ?_ ?_; rotate_left; (solve | (intro w'; go_simp; with_reducible rfl)); rotate_left; (solve | (simp only [Act.put, List.setIfInBounds_toArray, List.set_cons_zero, List.set_cons_succ, i64_w, i32_w]; rfl))) | (refine reg_skip (a' := ?_) rfl rfl rfl (by rfl) (by kernel_rfl) (fun _ _ _ h => h) ?_ ?_; rotate_left; (solve | (simp only [Act.put, List.setIfInBounds_toArray, List.set_cons_zero, List.set_cons_succ, i64_w, i32_w]; rfl))) | (refine reg_load (v := ?_) (a' := ?_) rfl rfl rfl (by kernel_rfl) (fun _ _ _ h => h) (by rfl) ?_ hHeld ?_ ?_; rotate_left; (solve | (rintro w' ⟨s0, s1, s2, s3, s4, s5⟩; go_simp; with_reducible rfl)); rotate_left; (solve | (simp only [Act.put, List.setIfInBounds_toArray, List.set_cons_zero, List.set_cons_succ, i64_w, i32_w]; rfl)); intro hHeld))
   refine reg_done (by kernel_rfl) ?_
   go_wp2
   rw [HT.out]
   refine ⟨rfl, ?_⟩
   have D0 := below_step D1.out HB.out
   with_reducible (repeat (first | exact D0 | apply below_drew1 | apply pw_below_drewN))
  ·rw [if_neg h3] at h
   obtain rfl : _ = r := Option.some.inj h
   clear h
   have h4 : (v0 == Go.bits .or .i64 a0 128) = false := beq_eq_false_iff_ne.2 h3
   clear h3 e0 e1
   go_enter Try.func24, Try.ntmps24
   go_wp2_with fail
   refine (reply_Data.calls k a0 a1 a2 a3 a4 A0 c0 l0 s dl false _ HR.out.2 HR.out.1 HD.out).mono ?_
   rintro e w1 ⟨v0, rfl, -, hb⟩
   have K1 := Aside0.mk (blk_below (blk_new w (.cells #[.int .i64 a0, .int .i64 a1, .int .i64 a2, .int .i64 a3, .int .i64 a4, .slice A0 l0.length c0] 24)) hb)
   have D1 := Aside0.mk (below_step (below_alloc (Below.refl w.heap.size w) (.cells #[.int .i64 a0, .int .i64 a1, .int .i64 a2, .int .i64 a3, .int .i64 a4, .slice A0 l0.length c0] 24)) hb)
   have C1 := Aside0.mk (Kd.C_below HR.out.2 hb)
   clear hb
   have HB := Aside0.mk (below_drew1 (Below.refl w1.heap.size w1))
   have HKS : Aside0 (∀ w' : World, Below w1.heap.size w1 w' → (w'.cell? ⟨w.heap.size, 0, none⟩ = some (.int .i64 a0) ∧ w'.cell? ⟨w.heap.size, 1, none⟩ = some (.int .i64 a1) ∧ w'.cell? ⟨w.heap.size, 2, none⟩ = some (.int .i64 a2) ∧ w'.cell? ⟨w.heap.size, 3, none⟩ = some (.int .i64 a3) ∧ w'.cell? ⟨w.heap.size, 4, none⟩ = some (.int .i64 a4) ∧ w'.cell? ⟨w.heap.size, 5, none⟩ = some (.slice A0 l0.length c0))) := Aside0.mk (fun w' hb => hcells6 (blk_below K1.out hb))
   go_upto_region 4 with (fail)
   refine reg_start (List.range 22) 22 (fun w' => w'.cell? ⟨w.heap.size, 0, none⟩ = some (.int .i64 a0) ∧ w'.cell? ⟨w.heap.size, 1, none⟩ = some (.int .i64 a1) ∧ w'.cell? ⟨w.heap.size, 2, none⟩ = some (.int .i64 a2) ∧ w'.cell? ⟨w.heap.size, 3, none⟩ = some (.int .i64 a3) ∧ w'.cell? ⟨w.heap.size, 4, none⟩ = some (.int .i64 a4) ∧ w'.cell? ⟨w.heap.size, 5, none⟩ = some (.slice A0 l0.length c0)) (by kernel_rfl) rfl (HKS.out _ HB.out) (fun hHeld => ?_)
   generalize w1.drew = w2 at HB hHeld ⊢
   repeat (first | (refine reg_pure (v := ?_) (a' := ?_) rfl rfl rfl (by kernel_rfl) (fun _ _ _ h => h) (by rfl) ?_ ?_ ?_; rotate_left; (solve | (intro w'; go_simp; with_reducible rfl)); rotate_left; (solve | (simp only [Act.put, List.setIfInBounds_toArray, List.set_cons_zero, List.set_cons_succ, i64_w, i32_w]; rfl))) | (refine reg_skip (a' := ?_) rfl rfl rfl (by rfl) (by kernel_rfl) (fun _ _ _ h => h) ?_ ?_; rotate_left; (solve | (simp only [Act.put, List.setIfInBounds_toArray, List.set_cons_zero, List.set_cons_succ, i64_w, i32_w]; rfl))) | (refine reg_load (v := ?_) (a' := ?_) rfl rfl rfl (by kernel_rfl) (fun _ _ _ h => h) (by rfl) ?_ hHeld ?_ ?_; rotate_left; (solve | (rintro w' ⟨s0, s1, s2, s3, s4, s5⟩; go_simp; with_reducible rfl)); rotate_left; (solve | (simp only [Act.put, List.setIfInBounds_toArray, List.set_cons_zero, List.set_cons_succ, i64_w, i32_w]; rfl)); intro hHeld))
   refine reg_call rfl rfl rfl (by kernel_rfl) (by rfl) Try.func16 (by kernel_rfl) rfl #[.agg #[.int .i64 a0, .int .i64 a1, .int .i64 a2, .int .i64 a3, .int .i64 a4, .slice A0 l0.length c0]] rfl (by (try simp only [List.map_toArray, List.map_cons, List.map_nil]); first | done | rfl) ?_
   refine (ask_Right.calls k a0 a1 a2 a3 a4 A0 c0 l0 true _ (Kd.C_below C1.out HB.out) HR.out.1 HI.out).mono ?_
   rintro e w5 ⟨rfl, hb⟩
   have HN := Aside0.mk (below_step HB.out hb)
   clear HB hb
   have HB := Aside0.mk HN.out
   clear HN
   refine ⟨_, rfl, HKS.out _ HB.out, fun hHeld => ?_⟩
   rintro a' ha'
   simp only [Act.put, List.setIfInBounds_toArray, List.set_cons_zero, List.set_cons_succ, i64_w, i32_w] at ha'
   subst ha'
   repeat (first | (refine reg_pure (v := ?_) (a' := ?_) rfl rfl rfl (by kernel_rfl) (fun _ _ _ h => h) (by rfl) ?_ ?_ ?_; rotate_left; (solve | (intro w'; go_simp; with_reducible rfl)); rotate_left; (solve | (simp only [Act.put, List.setIfInBounds_toArray, List.set_cons_zero, List.set_cons_succ, i64_w, i32_w]; rfl))) | (refine reg_skip (a' := ?_) rfl rfl rfl (by rfl) (by kernel_rfl) (fun _ _ _ h => h) ?_ ?_; rotate_left; (solve | (simp only [Act.put, List.setIfInBounds_toArray, List.set_cons_zero, List.set_cons_succ, i64_w, i32_w]; rfl))) | (refine reg_load (v := ?_) (a' := ?_) rfl rfl rfl (by kernel_rfl) (fun _ _ _ h => h) (by rfl) ?_ hHeld ?_ ?_; rotate_left; (solve | (rintro w' ⟨s0, s1, s2, s3, s4, s5⟩; go_simp; with_reducible rfl)); rotate_left; (solve | (simp only [Act.put, List.setIfInBounds_toArray, List.set_cons_zero, List.set_cons_succ, i64_w, i32_w]; rfl)); intro hHeld))
   refine reg_call rfl rfl rfl (by kernel_rfl) (by rfl) Try.func29 (by kernel_rfl) rfl #[.int .i64 b1] rfl (by (try simp only [List.map_toArray, List.map_cons, List.map_nil]); first | done | rfl) ?_
   refine (reply_Code.calls b1 true _ HC.out).mono ?_
   rintro e w5 ⟨rfl, hd⟩
   have hb := hd.below; clear hd
   have HN := Aside0.mk (below_step HB.out hb)
   clear HB hb
   have HB := Aside0.mk HN.out
   clear HN
   refine ⟨_, rfl, HKS.out _ HB.out, fun hHeld => ?_⟩
   rintro a' ha'
   simp only [Act.put, List.setIfInBounds_toArray, List.set_cons_zero, List.set_cons_succ, i64_w, i32_w] at ha'
   subst ha'
   repeat (first | (refine reg_pure (v := ?_) (a' := ?_) rfl rfl rfl (by kernel_rfl) (fun _ _ _ h => h) (by rfl) ?_ ?_ ?_; rotate_left; (solve | (intro w'; go_simp; with_reducible rfl)); rotate_left; (solve | (simp only [Act.put, List.setIfInBounds_toArray, List.set_cons_zero, List.set_cons_succ, i64_w, i32_w]; rfl))) | (refine reg_skip (a' := ?_) rfl rfl rfl (by rfl) (by kernel_rfl) (fun _ _ _ h => h) ?_ ?_; rotate_left; (solve | (simp only [Act.put, List.setIfInBounds_toArray, List.set_cons_zero, List.set_cons_succ, i64_w, i32_w]; rfl))) | (refine reg_load (v := ?_) (a' := ?_) rfl rfl rfl (by kernel_rfl) (fun _ _ _ h => h) (by rfl) ?_ hHeld ?_ ?_; rotate_left; (solve | (rintro w' ⟨s0, s1, s2, s3, s4, s5⟩; go_simp; with_reducible rfl)); rotate_left; (solve | (simp only [Act.put, List.setIfInBounds_toArray, List.set_cons_zero, List.set_cons_succ, i64_w, i32_w]; rfl)); intro hHeld))
   refine reg_done (by kernel_rfl) ?_
   go_wp2
   rw [HT.out]
   refine ⟨rfl, ?_⟩
   have D0 := below_step D1.out HB.out
   with_reducible (repeat (first | exact D0 | apply below_drew1 | apply pw_below_drewN))
 ·rw [if_pos (show (dl, true).2 = true from rfl)] at h
  obtain rfl : _ = r := Option.some.inj h
  clear h
  go_enter Try.func24, Try.ntmps24
  go_wp2_with fail
  refine (reply_Data.calls k a0 a1 a2 a3 a4 A0 c0 l0 s dl true _ HR.out.2 HR.out.1 HD.out).mono ?_
  rintro e w1 ⟨v0, rfl, -, hb⟩
  have D0 := below_step (below_alloc (Below.refl w.heap.size w) (.cells #[.int .i64 a0, .int .i64 a1, .int .i64 a2, .int .i64 a3, .int .i64 a4, .slice A0 l0.length c0] 24)) hb
  clear hb
  go_wp2
  rw [HT.out]
  exact ⟨rfl, D0⟩
end Go.Proofs.Ytinoabkfekomcaa.PAskSizes
