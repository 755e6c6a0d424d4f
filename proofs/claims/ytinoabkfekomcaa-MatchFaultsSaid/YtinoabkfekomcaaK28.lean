/- Texts of this claim, put together (wip/pack.py): PAskSizesm7. -/
import Derived.Test.YtinoabkfekomcaaK1
import Derived.Test.YtinoabkfekomcaaK27
import Derived.Test.YtinoabkfekomcaaK24
import Derived.Test.YtinoabkfekomcaaK21
import Derived.Test.YtinoabkfekomcaaK20
namespace Go.Proofs.Ytinoabkfekomcaa.PAskSizes
open Go.RowKit Go.Proofs.YtinoabkfekomcaaW.PrintWords Go.Proofs.YtinoabkfekomcaaW.PrintLast Go.Proofs.YtinoabkfekomcaaW.PrintMore
attribute [local go_sem] max2_int min2_int max_two min_two max_three min_three max_four min_four   -- for this text's walks alone
set_option linter.unusedVariables false
set_option linter.unusedSimpArgs false

/-! ### the document's Find, walked by hand -/
/-- What the document's Find tells (k: rounds of what it asks). -/
def refFindF (k : Nat) (l : List S56) (id unit : Int) (pdu : ByteArray) : Option (Int × Bool) :=
 if findP l id < 0 then some (0, false) else if (rd_T56 l (findP l id)).f4 = unit then
  (gatewardenref07_Kind.f k (rd_T56 l (findP l id)).f5.f0 (rd_T56 l (findP l id)).f5.f1 (rd_T56 l (findP l id)).f5.f2 (rd_T56 l (findP l id)).f5.f3 (rd_T56 l (findP l id)).f5.f4 (rd_T56 l (findP l id)).f5.f5 pdu).bind fun t => some (if t = 0 then (0, false) else (findP l id, true)) else some (0, false)
set_option maxHeartbeats 8000000 in
set_option maxRecDepth 100000 in
theorem ref21_Find.calls (k k2 : Nat) (A0 : Option Addr) (c0 : Nat) (l0 : List S56) (id unit : Int) (pdu : ByteArray) (r : Int) (ok : Bool) (w : World) (hr0 : Kd.C k56 w A0 l0.length l0) (hc0 : l0.length ≤ c0) (hf : gatewardenref20_Find.f k2 l0 id = some (findP l0 id)) (h : refFindF k l0 id unit pdu = some (r, ok)) :
  Calls Try.prog 41 #[.slice A0 l0.length c0, .agg #[.int .i64 id, .int .i64 unit, .string pdu]] w fun e w' => e = .returned (.tuple #[.int .i64 r, .bool ok]) ∧ Below w.heap.size w w' := by
 obtain ⟨T, hT⟩ : ∃ T : Ending → World → Prop, T = fun e w' => e = .returned (.tuple #[.int .i64 r, .bool ok]) ∧ Below w.heap.size w w' := ⟨_, rfl⟩
 have HT := Aside0.mk hT
 rw [← hT]
 clear hT
 have HC := Aside0.mk hc0
 have HR := Aside0.mk (Kd.C_below hr0 (below_alloc (Below.refl _ _) (.cells #[.int .i64 id, .int .i64 unit, .string pdu] 49)))
 have HF := Aside0.mk (gatewardenref20_Find.calls k2 A0 c0 l0 id _ (w.alloc (.cells #[.int .i64 id, .int .i64 unit, .string pdu] 49)) HR.out hc0 hf)
 have hlt := (idx56_lt (fun x => x.f0 == id) l0 0).1
 have hlt' := (idx56_lt (fun x => x.f0 == id) l0 0).2
 rw [show idx56 (fun x => x.f0 == id) l0 0 = findP l0 id from rfl] at hlt hlt'
 unfold refFindF at h
 clear hf
 generalize findP l0 id = f at h hlt hlt' HF
 rw [Nat.zero_add] at hlt
 clear hr0 hc0
 by_cases hn : f < 0
 ·rw [if_pos hn] at h
  obtain ⟨rfl, rfl⟩ := Prod.mk.inj (Option.some.inj h)
  have hn' : decide (f < 0) = true := decide_eq_true hn
  clear h hn hlt hlt'
  go_enter Try.func41, Try.ntmps41
  go_wp2_with fail
  refine HF.out.mono ?_
  rintro e w1 ⟨rfl, hd⟩
  have hb := hd.below
  clear hd
  have K1 := Aside0.mk (blk_below (blk_new w (.cells #[.int .i64 id, .int .i64 unit, .string pdu] 49)) hb)
  have D1 := Aside0.mk (below_step (below_alloc (Below.refl w.heap.size w) (.cells #[.int .i64 id, .int .i64 unit, .string pdu] 49)) hb)
  have C1 := Aside0.mk (Kd.C_below HR.out hb)
  clear hb
  have HB := Aside0.mk (below_drew1 (Below.refl w1.heap.size w1))
  go_upto_region 2 with (fail)
  refine reg_start (List.range 23) 23 (fun _ => True) (by kernel_rfl) rfl trivial (fun hHeld => ?_)
  generalize w1.drew = w2 at HB hHeld ⊢
  repeat (first | (refine reg_pure (v := ?_) (a' := ?_) rfl rfl rfl (by kernel_rfl) (fun _ _ _ h => h) (by rfl) ?_ ?_ ?_; rotate_left; (solve | (intro w'; go_simp; with_reducible rfl)); rotate_left; (solve | (simp only [Act.put, List.setIfInBounds_toArray, List.set_cons_zero, List.set_cons_succ, i64_w, i32_w]; rfl))) | (refine reg_skip (a' := ?_) rfl rfl rfl (by rfl) (by kernel_rfl) (fun _ _ _ h => h) ?_ ?_; rotate_left; (solve | (simp only [Act.put, List.setIfInBounds_toArray, List.set_cons_zero, List.set_cons_succ, i64_w, i32_w]; rfl))))
  refine reg_done (by kernel_rfl) ?_
  go_wp2
  rw [HT.out]
  refine ⟨rfl, ?_⟩
  have D0 := below_step D1.out HB.out
  with_reducible (repeat (first | exact D0 | apply below_drew1 | apply pw_below_drewN))
 rw [if_neg hn] at h
 have hn' : decide (f < 0) = false := decide_eq_false hn
 have hn0 : 0 ≤ f := by omega
 clear hn hlt'
 obtain ⟨x, hx⟩ : ∃ x, x = rd_T56 l0 f := ⟨_, rfl⟩
 rw [← hx] at h
 by_cases hu : x.f4 = unit
 rotate_left
 ·rw [if_neg hu] at h
  obtain ⟨rfl, rfl⟩ := Prod.mk.inj (Option.some.inj h)
  have hu' : (x.f4 != unit) = true := bne_iff_ne.2 hu
  clear h hu
  go_enter Try.func41, Try.ntmps41
  go_wp2_with fail
  refine HF.out.mono ?_
  rintro e w1 ⟨rfl, hd⟩
  have hb := hd.below
  clear hd
  have K1 := Aside0.mk (blk_below (blk_new w (.cells #[.int .i64 id, .int .i64 unit, .string pdu] 49)) hb)
  have D1 := Aside0.mk (below_step (below_alloc (Below.refl w.heap.size w) (.cells #[.int .i64 id, .int .i64 unit, .string pdu] 49)) hb)
  have C1 := Aside0.mk (Kd.C_below HR.out hb)
  clear hb
  have HB := Aside0.mk (below_drew1 (Below.refl w1.heap.size w1))
  obtain ⟨ad, A10, c10, hA, x0, x1, x2, x3, x4, x5, x6, x7, x8, x9, x10, x11, hl10, hi10⟩ := at_T56 C1.out f hn0 hlt
  rw [← hx] at x0 x1 x2 x3 x4 x5 x6 x7 x8 x9 x10 x11 hl10 hi10
  subst hA
  have HL := Aside0.mk hl10
  have HI := Aside0.mk hi10
  clear hl10 hi10 hx
  have HKS : Aside0 (∀ w' : World, Below w1.heap.size w1 w' → (w'.cell? ⟨w.heap.size, 0, none⟩ = some (.int .i64 id) ∧ w'.cell? ⟨w.heap.size, 1, none⟩ = some (.int .i64 unit) ∧ w'.cell? ⟨w.heap.size, 2, none⟩ = some (.string pdu) ∧ w'.cell? (ad.add (f.toNat * 12)) = some (.int .i64 x.f0) ∧ w'.cell? ⟨(ad.add (f.toNat * 12)).block, (ad.add (f.toNat * 12)).off + 1, none⟩ = some (.int .i64 x.f1) ∧ w'.cell? ⟨(ad.add (f.toNat * 12)).block, (ad.add (f.toNat * 12)).off + 2, none⟩ = some (.int .i64 x.f2) ∧ w'.cell? ⟨(ad.add (f.toNat * 12)).block, (ad.add (f.toNat * 12)).off + 3, none⟩ = some (.int .i64 x.f3) ∧ w'.cell? ⟨(ad.add (f.toNat * 12)).block, (ad.add (f.toNat * 12)).off + 4, none⟩ = some (.int .i64 x.f4) ∧ w'.cell? ⟨(ad.add (f.toNat * 12)).block, (ad.add (f.toNat * 12)).off + 5, none⟩ = some (.int .i64 x.f5.f0) ∧ w'.cell? ⟨(ad.add (f.toNat * 12)).block, (ad.add (f.toNat * 12)).off + 6, none⟩ = some (.int .i64 x.f5.f1) ∧ w'.cell? ⟨(ad.add (f.toNat * 12)).block, (ad.add (f.toNat * 12)).off + 7, none⟩ = some (.int .i64 x.f5.f2) ∧ w'.cell? ⟨(ad.add (f.toNat * 12)).block, (ad.add (f.toNat * 12)).off + 8, none⟩ = some (.int .i64 x.f5.f3) ∧ w'.cell? ⟨(ad.add (f.toNat * 12)).block, (ad.add (f.toNat * 12)).off + 9, none⟩ = some (.int .i64 x.f5.f4) ∧ w'.cell? ⟨(ad.add (f.toNat * 12)).block, (ad.add (f.toNat * 12)).off + 10, none⟩ = some (.slice A10 x.f5.f5.length c10) ∧ w'.cell? ⟨(ad.add (f.toNat * 12)).block, (ad.add (f.toNat * 12)).off + 11, none⟩ = some (.int .i64 x.f6))) := Aside0.mk (fun w' hb => ⟨(blk_cell (blk_below K1.out hb) 0).trans rfl, (blk_cell (blk_below K1.out hb) 1).trans rfl, (blk_cell (blk_below K1.out hb) 2).trans rfl, pw_cell_below hb x0, pw_cell_below hb x1, pw_cell_below hb x2, pw_cell_below hb x3, pw_cell_below hb x4, pw_cell_below hb x5, pw_cell_below hb x6, pw_cell_below hb x7, pw_cell_below hb x8, pw_cell_below hb x9, pw_cell_below hb x10, pw_cell_below hb x11⟩)
  clear x0 x1 x2 x3 x4 x5 x6 x7 x8 x9 x10 x11
  go_upto_region 2 with (fail)
  refine reg_start (List.range 23) 23 (fun w' => w'.cell? ⟨w.heap.size, 0, none⟩ = some (.int .i64 id) ∧ w'.cell? ⟨w.heap.size, 1, none⟩ = some (.int .i64 unit) ∧ w'.cell? ⟨w.heap.size, 2, none⟩ = some (.string pdu) ∧ w'.cell? (ad.add (f.toNat * 12)) = some (.int .i64 x.f0) ∧ w'.cell? ⟨(ad.add (f.toNat * 12)).block, (ad.add (f.toNat * 12)).off + 1, none⟩ = some (.int .i64 x.f1) ∧ w'.cell? ⟨(ad.add (f.toNat * 12)).block, (ad.add (f.toNat * 12)).off + 2, none⟩ = some (.int .i64 x.f2) ∧ w'.cell? ⟨(ad.add (f.toNat * 12)).block, (ad.add (f.toNat * 12)).off + 3, none⟩ = some (.int .i64 x.f3) ∧ w'.cell? ⟨(ad.add (f.toNat * 12)).block, (ad.add (f.toNat * 12)).off + 4, none⟩ = some (.int .i64 x.f4) ∧ w'.cell? ⟨(ad.add (f.toNat * 12)).block, (ad.add (f.toNat * 12)).off + 5, none⟩ = some (.int .i64 x.f5.f0) ∧ w'.cell? ⟨(ad.add (f.toNat * 12)).block, (ad.add (f.toNat * 12)).off + 6, none⟩ = some (.int .i64 x.f5.f1) ∧ w'.cell? ⟨(ad.add (f.toNat * 12)).block, (ad.add (f.toNat * 12)).off + 7, none⟩ = some (.int .i64 x.f5.f2) ∧ w'.cell? ⟨(ad.add (f.toNat * 12)).block, (ad.add (f.toNat * 12)).off + 8, none⟩ = some (.int .i64 x.f5.f3) ∧ w'.cell? ⟨(ad.add (f.toNat * 12)).block, (ad.add (f.toNat * 12)).off + 9, none⟩ = some (.int .i64 x.f5.f4) ∧ w'.cell? ⟨(ad.add (f.toNat * 12)).block, (ad.add (f.toNat * 12)).off + 10, none⟩ = some (.slice A10 x.f5.f5.length c10) ∧ w'.cell? ⟨(ad.add (f.toNat * 12)).block, (ad.add (f.toNat * 12)).off + 11, none⟩ = some (.int .i64 x.f6)) (by kernel_rfl) rfl (HKS.out _ HB.out) (fun hHeld => ?_)
  generalize w1.drew = w2 at HB hHeld ⊢
  repeat (first | (refine reg_pure (v := ?_) (a' := ?_) rfl rfl rfl (by kernel_rfl) (fun _ _ _ h => h) (by rfl) ?_ ?_ ?_; rotate_left; (solve | (intro w'; go_simp; with_reducible rfl)); rotate_left; (solve | (simp only [Act.put, List.setIfInBounds_toArray, List.set_cons_zero, List.set_cons_succ, i64_w, i32_w]; rfl))) | (refine reg_skip (a' := ?_) rfl rfl rfl (by rfl) (by kernel_rfl) (fun _ _ _ h => h) ?_ ?_; rotate_left; (solve | (simp only [Act.put, List.setIfInBounds_toArray, List.set_cons_zero, List.set_cons_succ, i64_w, i32_w]; rfl))) | (refine reg_load (v := ?_) (a' := ?_) rfl rfl rfl (by kernel_rfl) (fun _ _ _ h => h) (by rfl) ?_ hHeld ?_ ?_; rotate_left; (solve | (rintro w' ⟨s0, s1, s2, s3, s4, s5, s6, s7, s8, s9, s10, s11, s12, s13, s14⟩; go_simp; with_reducible rfl)); rotate_left; (solve | (simp only [Act.put, List.setIfInBounds_toArray, List.set_cons_zero, List.set_cons_succ, i64_w, i32_w]; rfl)); intro hHeld))
  refine reg_done (by kernel_rfl) ?_
  go_wp2
  rw [HT.out]
  refine ⟨rfl, ?_⟩
  have D0 := below_step D1.out HB.out
  with_reducible (repeat (first | exact D0 | apply below_drew1 | apply pw_below_drewN))
 rw [if_pos hu] at h
 have hu' : (x.f4 != unit) = false := bne_eq_false_iff_eq.2 hu
 obtain ⟨t, hb, h⟩ := Option.bind_eq_some_iff.1 h
 have HA := Aside0.mk hb
 clear hb hu
 by_cases ht : t = 0
 ·rw [if_pos ht] at h
  obtain ⟨rfl, rfl⟩ := Prod.mk.inj (Option.some.inj h)
  have ht' : (t == 0) = true := beq_iff_eq.2 ht
  clear h ht
  go_enter Try.func41, Try.ntmps41
  go_wp2_with fail
  refine HF.out.mono ?_
  rintro e w1 ⟨rfl, hd⟩
  have hb := hd.below
  clear hd
  have K1 := Aside0.mk (blk_below (blk_new w (.cells #[.int .i64 id, .int .i64 unit, .string pdu] 49)) hb)
  have D1 := Aside0.mk (below_step (below_alloc (Below.refl w.heap.size w) (.cells #[.int .i64 id, .int .i64 unit, .string pdu] 49)) hb)
  have C1 := Aside0.mk (Kd.C_below HR.out hb)
  clear hb
  have HB := Aside0.mk (below_drew1 (Below.refl w1.heap.size w1))
  obtain ⟨ad, A10, c10, hA, x0, x1, x2, x3, x4, x5, x6, x7, x8, x9, x10, x11, hl10, hi10⟩ := at_T56 C1.out f hn0 hlt
  rw [← hx] at x0 x1 x2 x3 x4 x5 x6 x7 x8 x9 x10 x11 hl10 hi10
  subst hA
  have HL := Aside0.mk hl10
  have HI := Aside0.mk hi10
  clear hl10 hi10 hx
  have HKS : Aside0 (∀ w' : World, Below w1.heap.size w1 w' → (w'.cell? ⟨w.heap.size, 0, none⟩ = some (.int .i64 id) ∧ w'.cell? ⟨w.heap.size, 1, none⟩ = some (.int .i64 unit) ∧ w'.cell? ⟨w.heap.size, 2, none⟩ = some (.string pdu) ∧ w'.cell? (ad.add (f.toNat * 12)) = some (.int .i64 x.f0) ∧ w'.cell? ⟨(ad.add (f.toNat * 12)).block, (ad.add (f.toNat * 12)).off + 1, none⟩ = some (.int .i64 x.f1) ∧ w'.cell? ⟨(ad.add (f.toNat * 12)).block, (ad.add (f.toNat * 12)).off + 2, none⟩ = some (.int .i64 x.f2) ∧ w'.cell? ⟨(ad.add (f.toNat * 12)).block, (ad.add (f.toNat * 12)).off + 3, none⟩ = some (.int .i64 x.f3) ∧ w'.cell? ⟨(ad.add (f.toNat * 12)).block, (ad.add (f.toNat * 12)).off + 4, none⟩ = some (.int .i64 x.f4) ∧ w'.cell? ⟨(ad.add (f.toNat * 12)).block, (ad.add (f.toNat * 12)).off + 5, none⟩ = some (.int .i64 x.f5.f0) ∧ w'.cell? ⟨(ad.add (f.toNat * 12)).block, (ad.add (f.toNat * 12)).off + 6, none⟩ = some (.int .i64 x.f5.f1) ∧ w'.cell? ⟨(ad.add (f.toNat * 12)).block, (ad.add (f.toNat * 12)).off + 7, none⟩ = some (.int .i64 x.f5.f2) ∧ w'.cell? ⟨(ad.add (f.toNat * 12)).block, (ad.add (f.toNat * 12)).off + 8, none⟩ = some (.int .i64 x.f5.f3) ∧ w'.cell? ⟨(ad.add (f.toNat * 12)).block, (ad.add (f.toNat * 12)).off + 9, none⟩ = some (.int .i64 x.f5.f4) ∧ w'.cell? ⟨(ad.add (f.toNat * 12)).block, (ad.add (f.toNat * 12)).off + 10, none⟩ = some (.slice A10 x.f5.f5.length c10) ∧ w'.cell? ⟨(ad.add (f.toNat * 12)).block, (ad.add (f.toNat * 12)).off + 11, none⟩ = some (.int .i64 x.f6))) := Aside0.mk (fun w' hb => ⟨(blk_cell (blk_below K1.out hb) 0).trans rfl, (blk_cell (blk_below K1.out hb) 1).trans rfl, (blk_cell (blk_below K1.out hb) 2).trans rfl, pw_cell_below hb x0, pw_cell_below hb x1, pw_cell_below hb x2, pw_cell_below hb x3, pw_cell_below hb x4, pw_cell_below hb x5, pw_cell_below hb x6, pw_cell_below hb x7, pw_cell_below hb x8, pw_cell_below hb x9, pw_cell_below hb x10, pw_cell_below hb x11⟩)
  clear x0 x1 x2 x3 x4 x5 x6 x7 x8 x9 x10 x11
  go_upto_region 2 with (fail)
  refine reg_start (List.range 23) 23 (fun w' => w'.cell? ⟨w.heap.size, 0, none⟩ = some (.int .i64 id) ∧ w'.cell? ⟨w.heap.size, 1, none⟩ = some (.int .i64 unit) ∧ w'.cell? ⟨w.heap.size, 2, none⟩ = some (.string pdu) ∧ w'.cell? (ad.add (f.toNat * 12)) = some (.int .i64 x.f0) ∧ w'.cell? ⟨(ad.add (f.toNat * 12)).block, (ad.add (f.toNat * 12)).off + 1, none⟩ = some (.int .i64 x.f1) ∧ w'.cell? ⟨(ad.add (f.toNat * 12)).block, (ad.add (f.toNat * 12)).off + 2, none⟩ = some (.int .i64 x.f2) ∧ w'.cell? ⟨(ad.add (f.toNat * 12)).block, (ad.add (f.toNat * 12)).off + 3, none⟩ = some (.int .i64 x.f3) ∧ w'.cell? ⟨(ad.add (f.toNat * 12)).block, (ad.add (f.toNat * 12)).off + 4, none⟩ = some (.int .i64 x.f4) ∧ w'.cell? ⟨(ad.add (f.toNat * 12)).block, (ad.add (f.toNat * 12)).off + 5, none⟩ = some (.int .i64 x.f5.f0) ∧ w'.cell? ⟨(ad.add (f.toNat * 12)).block, (ad.add (f.toNat * 12)).off + 6, none⟩ = some (.int .i64 x.f5.f1) ∧ w'.cell? ⟨(ad.add (f.toNat * 12)).block, (ad.add (f.toNat * 12)).off + 7, none⟩ = some (.int .i64 x.f5.f2) ∧ w'.cell? ⟨(ad.add (f.toNat * 12)).block, (ad.add (f.toNat * 12)).off + 8, none⟩ = some (.int .i64 x.f5.f3) ∧ w'.cell? ⟨(ad.add (f.toNat * 12)).block, (ad.add (f.toNat * 12)).off + 9, none⟩ = some (.int .i64 x.f5.f4) ∧ w'.cell? ⟨(ad.add (f.toNat * 12)).block, (ad.add (f.toNat * 12)).off + 10, none⟩ = some (.slice A10 x.f5.f5.length c10) ∧ w'.cell? ⟨(ad.add (f.toNat * 12)).block, (ad.add (f.toNat * 12)).off + 11, none⟩ = some (.int .i64 x.f6)) (by kernel_rfl) rfl (HKS.out _ HB.out) (fun hHeld => ?_)
  generalize w1.drew = w2 at HB hHeld ⊢
  repeat (first | (refine reg_pure (v := ?_) (a' := ?_) rfl rfl rfl (by kernel_rfl) (fun _ _ _ h => h) (by rfl) ?_ ?_ ?_; rotate_left; (solve | (intro w'; go_simp; with_reducible rfl)); rotate_left; (solve | (simp only [Act.put, List.setIfInBounds_toArray, List.set_cons_zero, List.set_cons_succ, i64_w, i32_w]; rfl))) | (refine reg_skip (a' := ?_) rfl rfl rfl (by rfl) (by kernel_rfl) (fun _ _ _ h => h) ?_ ?_; rotate_left; (solve | (simp only [Act.put, List.setIfInBounds_toArray, List.set_cons_zero, List.set_cons_succ, i64_w, i32_w]; rfl))) | (refine reg_load (v := ?_) (a' := ?_) rfl rfl rfl (by kernel_rfl) (fun _ _ _ h => h) (by rfl) ?_ hHeld ?_ ?_; rotate_left; (solve | (rintro w' ⟨s0, s1, s2, s3, s4, s5, s6, s7, s8, s9, s10, s11, s12, s13, s14⟩; go_simp; with_reducible rfl)); rotate_left; (solve | (simp only [Act.put, List.setIfInBounds_toArray, List.set_cons_zero, List.set_cons_succ, i64_w, i32_w]; rfl)); intro hHeld))
  refine reg_call rfl rfl rfl (by kernel_rfl) (by rfl) Try.func25 (by kernel_rfl) rfl #[.agg #[.int .i64 x.f5.f0, .int .i64 x.f5.f1, .int .i64 x.f5.f2, .int .i64 x.f5.f3, .int .i64 x.f5.f4, .slice A10 x.f5.f5.length c10], .string pdu] rfl (by (try simp only [List.map_toArray, List.map_cons, List.map_nil]); first | done | rfl) ?_
  refine (gatewardenref07_Kind.calls k x.f5.f0 x.f5.f1 x.f5.f2 x.f5.f3 x.f5.f4 A10 c10 x.f5.f5 pdu t _ (Kd.C_below HI.out HB.out) HL.out HA.out).mono ?_
  rintro e w5 ⟨rfl, hb⟩
  have HN := Aside0.mk (below_step HB.out hb)
  clear HB hb
  have HB := Aside0.mk HN.out
  clear HN
  refine ⟨_, rfl, HKS.out _ HB.out, fun hHeld => ?_⟩
  rintro a' ha'
  simp only [Act.put, List.setIfInBounds_toArray, List.set_cons_zero, List.set_cons_succ, i64_w, i32_w] at ha'
  subst ha'
  repeat (first | (refine reg_pure (v := ?_) (a' := ?_) rfl rfl rfl (by kernel_rfl) (fun _ _ _ h => h) (by rfl) ?_ ?_ ?_; rotate_left; (solve | (intro w'; go_simp; with_reducible rfl)); rotate_left; (solve | (simp only [Act.put, List.setIfInBounds_toArray, List.set_cons_zero, List.set_cons_succ, i64_w, i32_w]; rfl))) | (refine reg_skip (a' := ?_) rfl rfl rfl (by rfl) (by kernel_rfl) (fun _ _ _ h => h) ?_ ?_; rotate_left; (solve | (simp only [Act.put, List.setIfInBounds_toArray, List.set_cons_zero, List.set_cons_succ, i64_w, i32_w]; rfl))) | (refine reg_load (v := ?_) (a' := ?_) rfl rfl rfl (by kernel_rfl) (fun _ _ _ h => h) (by rfl) ?_ hHeld ?_ ?_; rotate_left; (solve | (rintro w' ⟨s0, s1, s2, s3, s4, s5, s6, s7, s8, s9, s10, s11, s12, s13, s14⟩; go_simp; with_reducible rfl)); rotate_left; (solve | (simp only [Act.put, List.setIfInBounds_toArray, List.set_cons_zero, List.set_cons_succ, i64_w, i32_w]; rfl)); intro hHeld))
  refine reg_done (by kernel_rfl) ?_
  go_wp2
  rw [HT.out]
  refine ⟨rfl, ?_⟩
  have D0 := below_step D1.out HB.out
  with_reducible (repeat (first | exact D0 | apply below_drew1 | apply pw_below_drewN))
 ·rw [if_neg ht] at h
  obtain ⟨rfl, rfl⟩ := Prod.mk.inj (Option.some.inj h)
  have ht' : (t == 0) = false := beq_eq_false_iff_ne.2 ht
  clear h ht
  go_enter Try.func41, Try.ntmps41
  go_wp2_with fail
  refine HF.out.mono ?_
  rintro e w1 ⟨rfl, hd⟩
  have hb := hd.below
  clear hd
  have K1 := Aside0.mk (blk_below (blk_new w (.cells #[.int .i64 id, .int .i64 unit, .string pdu] 49)) hb)
  have D1 := Aside0.mk (below_step (below_alloc (Below.refl w.heap.size w) (.cells #[.int .i64 id, .int .i64 unit, .string pdu] 49)) hb)
  have C1 := Aside0.mk (Kd.C_below HR.out hb)
  clear hb
  have HB := Aside0.mk (below_drew1 (Below.refl w1.heap.size w1))
  obtain ⟨ad, A10, c10, hA, x0, x1, x2, x3, x4, x5, x6, x7, x8, x9, x10, x11, hl10, hi10⟩ := at_T56 C1.out f hn0 hlt
  rw [← hx] at x0 x1 x2 x3 x4 x5 x6 x7 x8 x9 x10 x11 hl10 hi10
  subst hA
  have HL := Aside0.mk hl10
  have HI := Aside0.mk hi10
  clear hl10 hi10 hx
  have HKS : Aside0 (∀ w' : World, Below w1.heap.size w1 w' → (w'.cell? ⟨w.heap.size, 0, none⟩ = some (.int .i64 id) ∧ w'.cell? ⟨w.heap.size, 1, none⟩ = some (.int .i64 unit) ∧ w'.cell? ⟨w.heap.size, 2, none⟩ = some (.string pdu) ∧ w'.cell? (ad.add (f.toNat * 12)) = some (.int .i64 x.f0) ∧ w'.cell? ⟨(ad.add (f.toNat * 12)).block, (ad.add (f.toNat * 12)).off + 1, none⟩ = some (.int .i64 x.f1) ∧ w'.cell? ⟨(ad.add (f.toNat * 12)).block, (ad.add (f.toNat * 12)).off + 2, none⟩ = some (.int .i64 x.f2) ∧ w'.cell? ⟨(ad.add (f.toNat * 12)).block, (ad.add (f.toNat * 12)).off + 3, none⟩ = some (.int .i64 x.f3) ∧ w'.cell? ⟨(ad.add (f.toNat * 12)).block, (ad.add (f.toNat * 12)).off + 4, none⟩ = some (.int .i64 x.f4) ∧ w'.cell? ⟨(ad.add (f.toNat * 12)).block, (ad.add (f.toNat * 12)).off + 5, none⟩ = some (.int .i64 x.f5.f0) ∧ w'.cell? ⟨(ad.add (f.toNat * 12)).block, (ad.add (f.toNat * 12)).off + 6, none⟩ = some (.int .i64 x.f5.f1) ∧ w'.cell? ⟨(ad.add (f.toNat * 12)).block, (ad.add (f.toNat * 12)).off + 7, none⟩ = some (.int .i64 x.f5.f2) ∧ w'.cell? ⟨(ad.add (f.toNat * 12)).block, (ad.add (f.toNat * 12)).off + 8, none⟩ = some (.int .i64 x.f5.f3) ∧ w'.cell? ⟨(ad.add (f.toNat * 12)).block, (ad.add (f.toNat * 12)).off + 9, none⟩ = some (.int .i64 x.f5.f4) ∧ w'.cell? ⟨(ad.add (f.toNat * 12)).block, (ad.add (f.toNat * 12)).off + 10, none⟩ = some (.slice A10 x.f5.f5.length c10) ∧ w'.cell? ⟨(ad.add (f.toNat * 12)).block, (ad.add (f.toNat * 12)).off + 11, none⟩ = some (.int .i64 x.f6))) := Aside0.mk (fun w' hb => ⟨(blk_cell (blk_below K1.out hb) 0).trans rfl, (blk_cell (blk_below K1.out hb) 1).trans rfl, (blk_cell (blk_below K1.out hb) 2).trans rfl, pw_cell_below hb x0, pw_cell_below hb x1, pw_cell_below hb x2, pw_cell_below hb x3, pw_cell_below hb x4, pw_cell_below hb x5, pw_cell_below hb x6, pw_cell_below hb x7, pw_cell_below hb x8, pw_cell_below hb x9, pw_cell_below hb x10, pw_cell_below hb x11⟩)
  clear x0 x1 x2 x3 x4 x5 x6 x7 x8 x9 x10 x11
  go_upto_region 2 with (fail)
  refine reg_start (List.range 23) 23 (fun w' => w'.cell? ⟨w.heap.size, 0, none⟩ = some (.int .i64 id) ∧ w'.cell? ⟨w.heap.size, 1, none⟩ = some (.int .i64 unit) ∧ w'.cell? ⟨w.heap.size, 2, none⟩ = some (.string pdu) ∧ w'.cell? (ad.add (f.toNat * 12)) = some (.int .i64 x.f0) ∧ w'.cell? ⟨(ad.add (f.toNat * 12)).block, (ad.add (f.toNat * 12)).off + 1, none⟩ = some (.int .i64 x.f1) ∧ w'.cell? ⟨(ad.add (f.toNat * 12)).block, (ad.add (f.toNat * 12)).off + 2, none⟩ = some (.int .i64 x.f2) ∧ w'.cell? ⟨(ad.add (f.toNat * 12)).block, (ad.add (f.toNat * 12)).off + 3, none⟩ = some (.int .i64 x.f3) ∧ w'.cell? ⟨(ad.add (f.toNat * 12)).block, (ad.add (f.toNat * 12)).off + 4, none⟩ = some (.int .i64 x.f4) ∧ w'.cell? ⟨(ad.add (f.toNat * 12)).block, (ad.add (f.toNat * 12)).off + 5, none⟩ = some (.int .i64 x.f5.f0) ∧ w'.cell? ⟨(ad.add (f.toNat * 12)).block, (ad.add (f.toNat * 12)).off + 6, none⟩ = some (.int .i64 x.f5.f1) ∧ w'.cell? ⟨(ad.add (f.toNat * 12)).block, (ad.add (f.toNat * 12)).off + 7, none⟩ = some (.int .i64 x.f5.f2) ∧ w'.cell? ⟨(ad.add (f.toNat * 12)).block, (ad.add (f.toNat * 12)).off + 8, none⟩ = some (.int .i64 x.f5.f3) ∧ w'.cell? ⟨(ad.add (f.toNat * 12)).block, (ad.add (f.toNat * 12)).off + 9, none⟩ = some (.int .i64 x.f5.f4) ∧ w'.cell? ⟨(ad.add (f.toNat * 12)).block, (ad.add (f.toNat * 12)).off + 10, none⟩ = some (.slice A10 x.f5.f5.length c10) ∧ w'.cell? ⟨(ad.add (f.toNat * 12)).block, (ad.add (f.toNat * 12)).off + 11, none⟩ = some (.int .i64 x.f6)) (by kernel_rfl) rfl (HKS.out _ HB.out) (fun hHeld => ?_)
  generalize w1.drew = w2 at HB hHeld ⊢
  repeat (first | (refine reg_pure (v := ?_) (a' := ?_) rfl rfl rfl (by kernel_rfl) (fun _ _ _ h => h) (by rfl) ?_ ?_ ?_; rotate_left; (solve | (intro w'; go_simp; with_reducible rfl)); rotate_left; (solve | (simp only [Act.put, List.setIfInBounds_toArray, List.set_cons_zero, List.set_cons_succ, i64_w, i32_w]; rfl))) | (refine reg_skip (a' := ?_) rfl rfl rfl (by rfl) (by kernel_rfl) (fun _ _ _ h => h) ?_ ?_; rotate_left; (solve | (simp only [Act.put, List.setIfInBounds_toArray, List.set_cons_zero, List.set_cons_succ, i64_w, i32_w]; rfl))) | (refine reg_load (v := ?_) (a' := ?_) rfl rfl rfl (by kernel_rfl) (fun _ _ _ h => h) (by rfl) ?_ hHeld ?_ ?_; rotate_left; (solve | (rintro w' ⟨s0, s1, s2, s3, s4, s5, s6, s7, s8, s9, s10, s11, s12, s13, s14⟩; go_simp; with_reducible rfl)); rotate_left; (solve | (simp only [Act.put, List.setIfInBounds_toArray, List.set_cons_zero, List.set_cons_succ, i64_w, i32_w]; rfl)); intro hHeld))
  refine reg_call rfl rfl rfl (by kernel_rfl) (by rfl) Try.func25 (by kernel_rfl) rfl #[.agg #[.int .i64 x.f5.f0, .int .i64 x.f5.f1, .int .i64 x.f5.f2, .int .i64 x.f5.f3, .int .i64 x.f5.f4, .slice A10 x.f5.f5.length c10], .string pdu] rfl (by (try simp only [List.map_toArray, List.map_cons, List.map_nil]); first | done | rfl) ?_
  refine (gatewardenref07_Kind.calls k x.f5.f0 x.f5.f1 x.f5.f2 x.f5.f3 x.f5.f4 A10 c10 x.f5.f5 pdu t _ (Kd.C_below HI.out HB.out) HL.out HA.out).mono ?_
  rintro e w5 ⟨rfl, hb⟩
  have HN := Aside0.mk (below_step HB.out hb)
  clear HB hb
  have HB := Aside0.mk HN.out
  clear HN
  refine ⟨_, rfl, HKS.out _ HB.out, fun hHeld => ?_⟩
  rintro a' ha'
  simp only [Act.put, List.setIfInBounds_toArray, List.set_cons_zero, List.set_cons_succ, i64_w, i32_w] at ha'
  subst ha'
  repeat (first | (refine reg_pure (v := ?_) (a' := ?_) rfl rfl rfl (by kernel_rfl) (fun _ _ _ h => h) (by rfl) ?_ ?_ ?_; rotate_left; (solve | (intro w'; go_simp; with_reducible rfl)); rotate_left; (solve | (simp only [Act.put, List.setIfInBounds_toArray, List.set_cons_zero, List.set_cons_succ, i64_w, i32_w]; rfl))) | (refine reg_skip (a' := ?_) rfl rfl rfl (by rfl) (by kernel_rfl) (fun _ _ _ h => h) ?_ ?_; rotate_left; (solve | (simp only [Act.put, List.setIfInBounds_toArray, List.set_cons_zero, List.set_cons_succ, i64_w, i32_w]; rfl))) | (refine reg_load (v := ?_) (a' := ?_) rfl rfl rfl (by kernel_rfl) (fun _ _ _ h => h) (by rfl) ?_ hHeld ?_ ?_; rotate_left; (solve | (rintro w' ⟨s0, s1, s2, s3, s4, s5, s6, s7, s8, s9, s10, s11, s12, s13, s14⟩; go_simp; with_reducible rfl)); rotate_left; (solve | (simp only [Act.put, List.setIfInBounds_toArray, List.set_cons_zero, List.set_cons_succ, i64_w, i32_w]; rfl)); intro hHeld))
  refine reg_done (by kernel_rfl) ?_
  go_wp2
  rw [HT.out]
  refine ⟨rfl, ?_⟩
  have D0 := below_step D1.out HB.out
  with_reducible (repeat (first | exact D0 | apply below_drew1 | apply pw_below_drewN))
end Go.Proofs.Ytinoabkfekomcaa.PAskSizes
