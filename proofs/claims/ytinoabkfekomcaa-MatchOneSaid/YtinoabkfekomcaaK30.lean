/- Texts of this claim, put together (wip/pack.py): PAskSizesm5, PAskSizesm8, Reg2. -/
import Derived.Test.YtinoabkfekomcaaK1
import Derived.Test.YtinoabkfekomcaaK23
import Derived.Test.YtinoabkfekomcaaK29
import Derived.Test.YtinoabkfekomcaaK27
import Derived.Test.YtinoabkfekomcaaK26
import Derived.Test.YtinoabkfekomcaaK20
namespace Go.Proofs.Ytinoabkfekomcaa.PAskSizes
open Go.RowKit Go.Proofs.YtinoabkfekomcaaW.PrintWords Go.Proofs.YtinoabkfekomcaaW.PrintLast Go.Proofs.YtinoabkfekomcaaW.PrintMore
attribute [local go_sem] max2_int min2_int max_two min_two max_three min_three max_four min_four   -- for this text's walks alone
set_option linter.unusedVariables false
set_option linter.unusedSimpArgs false

/-! ### gatewardenref20_Drop: function 46 -/
def gatewardenref20_Drop.l0 : Nat → List (S56) → Int → List (S56) → Int → Option ((List (S56)))
 | 0, _, _, _, _ => none
 | k + 1, x0, x1, x5, x6 => if x6 < (x0.length : Int) then (if x6 = x1 then (gatewardenref20_Drop.l0 k x0 x1 x5 (wrap64 (x6 + 1))) else (if 0 ≤ x6 then (if x5.length < 1256584717458 then (gatewardenref20_Drop.l0 k x0 x1 (x5 ++ [(⟨(rd_T56 x0 x6).f0, (rd_T56 x0 x6).f1, (rd_T56 x0 x6).f2, (rd_T56 x0 x6).f3, (rd_T56 x0 x6).f4, (⟨(rd_T56 x0 x6).f5.f0, (rd_T56 x0 x6).f5.f1, (rd_T56 x0 x6).f5.f2, (rd_T56 x0 x6).f5.f3, (rd_T56 x0 x6).f5.f4, (rd_T56 x0 x6).f5.f5⟩ : S24), (rd_T56 x0 x6).f6⟩ : S56)]) (wrap64 (x6 + 1))) else (none)) else (none))) else (some x5)
def gatewardenref20_Drop.f (k : Nat) (l0 : List (S56)) (a1 : Int) : Option ((List (S56))) := gatewardenref20_Drop.l0 k l0 a1 ([] : List (S56)) 0
theorem gatewardenref20_Drop.mono_l : ∀ k, (∀ y0 y1 y2 y3, LeO (gatewardenref20_Drop.l0 k y0 y1 y2 y3) (gatewardenref20_Drop.l0 (k + 1) y0 y1 y2 y3))
 | 0 => fun _ _ _ _ r h => by simp [gatewardenref20_Drop.l0] at h
 | k + 1 => by
  have ih0 := gatewardenref20_Drop.mono_l k
  ·intro y0 y1 y2 y3
   unfold gatewardenref20_Drop.l0
   repeat' first
   | (with_reducible exact ih0 _ _ _ _)
   | (with_reducible exact LeO.refl _)
   | (with_reducible exact LeO.none _)
   | (with_reducible refine LeO.ite ?_ ?_)
   | (with_reducible refine LeO.bind ?_ (fun _ => ?_))
   | exact ih0 _ _ _ _
   | exact LeO.none _
   | refine LeO.ite ?_ ?_
   | refine LeO.bind ?_ (fun _ => ?_)
theorem gatewardenref20_Drop.mono : ∀ a0 a1 k, LeO (gatewardenref20_Drop.f k a0 a1) (gatewardenref20_Drop.f (k + 1) a0 a1) := by
 intro a0 a1 k
 have ih0 := gatewardenref20_Drop.mono_l k
 unfold gatewardenref20_Drop.f
 repeat' first
   | (with_reducible exact ih0 _ _ _ _)
   | (with_reducible exact LeO.refl _)
   | (with_reducible exact LeO.none _)
   | (with_reducible refine LeO.ite ?_ ?_)
   | (with_reducible refine LeO.bind ?_ (fun _ => ?_))
   | exact ih0 _ _ _ _
   | exact LeO.none _
   | refine LeO.ite ?_ ?_
   | refine LeO.bind ?_ (fun _ => ?_)
set_option maxHeartbeats 8000000 in
set_option maxRecDepth 100000 in
theorem gatewardenref20_Drop.calls (k : Nat) (P0_ : Nat → Prop) (A0 : Option Addr) (c0 : Nat) (l0 : List (S56)) (a1 : Int) (r : List (S56)) (w : World) (hs0 : Kd.V k56 56 w w.heap.size (fun k_ => P0_ k_) (.slice A0 l0.length c0) l0) (h : gatewardenref20_Drop.f k l0 a1 = some r) :
  Calls Try.prog 46 #[.slice A0 l0.length c0, .int .i64 a1] w fun e w' => ∃ v0_ : Value, e = .returned (v0_) ∧ Kd.N k56 56 w' w.heap.size (fun k_ => (P0_ k_ ∨ w.heap.size ≤ k_)) v0_ r ∧ Below w.heap.size w w' := by
 have hu56 := Try.underlying56
 have HO0 := Aside0.mk (show Kd.V k56 56 w w.heap.size (fun k_ => (P0_ k_ ∨ w.heap.size ≤ k_)) (.slice A0 l0.length c0) l0 from Kd.V_mono hs0 (fun k_ hk => .inl hk))
 have HB := Aside0.mk (Below.refl w.heap.size w)
 have H : (gatewardenref20_Drop.l0 k l0 a1 ([] : List (S56)) 0) = some r := h
 clear h
 have H' := Aside0.mk H
 clear H
 go_enter Try.func46, Try.ntmps46
 go_wp2
 go_loopg [5, 6] k (fun kq v5 v6 w' => ∃ (x5_1 : List (S56)) (x6_1 : Int), v6 = .int .i64 x6_1 ∧ Aside0 (gatewardenref20_Drop.l0 kq l0 a1 x5_1 x6_1 = some r) ∧ Aside0 (kq ≤ k) ∧ Aside0 (Kd.V k56 56 w' w.heap.size (fun k_ => (P0_ k_ ∨ w.heap.size ≤ k_) ∧ some k_ ≠ (v5 : Value).ownBlock) (.slice A0 l0.length c0) l0) ∧ Aside0 (Kd.N k56 56 w' w.heap.size (fun k_ => (P0_ k_ ∨ w.heap.size ≤ k_)) v5 x5_1) ∧ Aside0 (Below w.heap.size w w'))
 case atStart => exact ⟨(([] : List (S56))), (0), (by first | rfl | (simp; done) | (simp [*]; done)), H', ⟨Nat.le_refl _⟩, ⟨by (with_reducible repeat (first | apply Kd.V_alloc | apply Kd.V_drewN | apply Kd.V_drew)); exact Kd.V_mono HO0.out (fun _ hk => ⟨hk, (by simp [Value.ownBlock])⟩)⟩, ⟨by first | exact Kd.S_nil _ _ _ _ _ | exact Kd.N_nil _ _ _ _ _ | exact Kd.V_nil _ _ _ _ _ | exact Kd.Q_nil _ _ _ _ _ | exact Kd.R_nil _ _ _ _ _⟩, ⟨by repeat (first | (with_reducible first | exact HB.out | apply below_alloc | apply pw_below_drewN | apply below_drew1) | exact HB.out)⟩⟩
 case round =>
  clear H'
  try clear p2
  obtain ⟨x5_1, x6_1, rfl, HA, HK1, HO_0, HO_5, HB⟩ := hrel
  cases gk with
  | zero => exact absurd HA.out (by simp [gatewardenref20_Drop.l0])
  | succ k1 =>
   have H := HA.out
   clear HA
   simp only [gatewardenref20_Drop.l0] at H
   by_cases c3 : x6_1 < (l0.length : Int)
   ·rw [if_pos c3] at H
    have c3b0 : decide (x6_1 < (l0.length : Int)) = true := decide_eq_true c3
    clear c3
    by_cases c4 : x6_1 = a1
    ·rw [if_pos c4] at H
     have c4b0 : (x6_1 == a1) = true := beq_iff_eq.mpr c4
     have c4b1 : (x6_1 != a1) = false := bne_eq_false_iff_eq.mpr c4
     clear c4
     have H' := Aside0.mk H
     clear H
     go_wp2
     go_roundg k1
     case measure => have := HK1.out; omega
     case rel => exact ⟨(x5_1), (wrap64 (x6_1 + 1)), (by first | rfl | (simp; done) | (simp [*]; done)), H', ⟨by have := HK1.out; omega⟩, ⟨by (with_reducible repeat (first | apply Kd.V_alloc | apply Kd.V_drewN | apply Kd.V_drew)); exact HO_0.out⟩, ⟨by (with_reducible repeat (first | apply Kd.N_alloc | apply Kd.N_drewN | apply Kd.N_drew)); exact HO_5.out⟩, ⟨by repeat (first | (with_reducible first | exact HB.out | apply below_alloc | apply pw_below_drewN | apply below_drew1) | exact HB.out)⟩⟩
    ·rw [if_neg c4] at H
     have c4b0 : (x6_1 == a1) = false := beq_eq_false_iff_ne.mpr c4
     have c4b1 : (x6_1 != a1) = true := bne_iff_ne.mpr c4
     by_cases c5 : 0 ≤ x6_1
     ·rw [if_pos c5] at H
      have c5b0 : decide (0 ≤ x6_1) = true := decide_eq_true c5
      clear c5
      by_cases c6 : x5_1.length < 1256584717458
      ·rw [if_pos c6] at H
       have LMc6 := Aside0.mk c6
       clear c6
       obtain ⟨y291, hy291⟩ : ∃ y_ : List (S56), y_ = (x5_1 ++ [(⟨(rd_T56 l0 x6_1).f0, (rd_T56 l0 x6_1).f1, (rd_T56 l0 x6_1).f2, (rd_T56 l0 x6_1).f3, (rd_T56 l0 x6_1).f4, (⟨(rd_T56 l0 x6_1).f5.f0, (rd_T56 l0 x6_1).f5.f1, (rd_T56 l0 x6_1).f5.f2, (rd_T56 l0 x6_1).f5.f3, (rd_T56 l0 x6_1).f5.f4, (rd_T56 l0 x6_1).f5.f5⟩ : S24), (rd_T56 l0 x6_1).f6⟩ : S56)]) := ⟨_, rfl⟩
       replace H : (gatewardenref20_Drop.l0 k1 l0 a1 y291 (wrap64 (x6_1 + 1))) = some r := by first | (rw [hy291]; with_reducible exact H) | (have H2_ := (Option.bind_some _ _).symm.trans H; rw [hy291]; with_reducible exact H2_) | (have H2_ := (Option.bind_some _ _).symm.trans H; with_reducible exact H2_) | with_reducible exact H | (rw [hy291]; exact H) | exact H
       have Ny291 := Aside0.mk hy291
       clear hy291
       have H' := Aside0.mk H
       clear H
       have p290 : 0 ≤ (x6_1 : Int) := of_decide_eq_true (by first | (with_reducible assumption) | assumption)
       have q290 : x6_1 < (l0.length : Int) := of_decide_eq_true (by first | (with_reducible assumption) | assumption)
       obtain ⟨ad290, A290_10, c290_10, e290, hx290_0, hx290_1, hx290_2, hx290_3, hx290_4, hx290_5, hx290_6, hx290_7, hx290_8, hx290_9, hx290_10, hx290_11, hl290_10, hi290_10⟩ := at_T56 (Kd.V_reads' HO_0.out).2.2 x6_1 p290 q290
       cases e290
       obtain ⟨ce290, hce290, hMe290, hcc290⟩ := Kd.V_get HO_0.out z56 x6_1 p290 (by first | exact q290 | exact of_decide_eq_true (by first | (with_reducible assumption) | assumption) | (have e_ := (Kd.V_reads' HO_0.out).1; omega))
       obtain ⟨ua290_10, uc290_10, rfl, ul290_10, ge290_10⟩ := k56_openF hMe290
       have hv290_10 := hcc290 10 _ rfl
       rw [add_field _ _ 10 (by omega)] at hv290_10
       replace hv290_10 := Option.some.inj (hv290_10.symm.trans hx290_10)
       injection hv290_10 with hva_ hvn_ hvc_
       rw [hva_] at ge290_10
       rw [hvc_] at ul290_10
       have HL290_10 := Aside0.mk (show Kd.V (Kd.int .i64) 3 _ w.heap.size _ _ ((rd_T56 l0 x6_1).f5.f5) from Kd.V_mk ul290_10 ge290_10)
       clear hva_ hvn_ hvc_ ge290_10 ul290_10
       clear hcc290 hce290
       have HR290_10 := Aside0.mk hi290_10
       have HC290_10 := Aside0.mk hl290_10
       clear hi290_10 hl290_10
       replace p290 := eq_true p290
       replace q290 := eq_true q290
       go_wp2_with (first | ((with_reducible refine gate_builtin (b := .append) (xs := #[.tmp 16, .tmp 21]) rfl ?_); at_builtin; refine Kd.N_append k56 (w0 := w) w.heap.size rfl (.tmp 16) (.tmp 21) 47 56 (.agg #[(.int .i64 0), (.int .i64 0), (.int .i64 0), (.int .i64 0), (.int .i64 0), (.int .i64 0), (.int .i64 0), (.int .i64 0), (.int .i64 0), (.int .i64 0), (.slice none 0 0), (.int .i64 0)]) 112 rfl Try.underlying47 info56 rfl (by decide) (by omega) u5 x5_1 (⟨(rd_T56 l0 x6_1).f0, (rd_T56 l0 x6_1).f1, (rd_T56 l0 x6_1).f2, (rd_T56 l0 x6_1).f3, (rd_T56 l0 x6_1).f4, (⟨(rd_T56 l0 x6_1).f5.f0, (rd_T56 l0 x6_1).f5.f1, (rd_T56 l0 x6_1).f5.f2, (rd_T56 l0 x6_1).f5.f3, (rd_T56 l0 x6_1).f5.f4, (rd_T56 l0 x6_1).f5.f5⟩ : S24), (rd_T56 l0 x6_1).f6⟩ : S56) [.int .i64 ((rd_T56 l0 x6_1).f0), .int .i64 ((rd_T56 l0 x6_1).f1), .int .i64 ((rd_T56 l0 x6_1).f2), .int .i64 ((rd_T56 l0 x6_1).f3), .int .i64 ((rd_T56 l0 x6_1).f4), .int .i64 ((rd_T56 l0 x6_1).f5.f0), .int .i64 ((rd_T56 l0 x6_1).f5.f1), .int .i64 ((rd_T56 l0 x6_1).f5.f2), .int .i64 ((rd_T56 l0 x6_1).f5.f3), .int .i64 ((rd_T56 l0 x6_1).f5.f4), .slice A290_10 ((rd_T56 l0 x6_1).f5.f5).length c290_10, .int .i64 ((rd_T56 l0 x6_1).f6)] (fun k_ => (P0_ k_ ∨ w.heap.size ≤ k_)) (fun k_ => ((fun k_ => (P0_ k_ ∨ w.heap.size ≤ k_))) k_ ∧ some k_ ≠ (u5 : Value).ownBlock) rfl rfl ?aP (fun _ hk => hk) ?aF ?aO ?aB ?aS ?aL ?_; (case aP => exact (k56_mkF _ _ (⟨(rd_T56 l0 x6_1).f0, (rd_T56 l0 x6_1).f1, (rd_T56 l0 x6_1).f2, (rd_T56 l0 x6_1).f3, (rd_T56 l0 x6_1).f4, (⟨(rd_T56 l0 x6_1).f5.f0, (rd_T56 l0 x6_1).f5.f1, (rd_T56 l0 x6_1).f5.f2, (rd_T56 l0 x6_1).f5.f3, (rd_T56 l0 x6_1).f5.f4, (rd_T56 l0 x6_1).f5.f5⟩ : S24), (rd_T56 l0 x6_1).f6⟩ : S56) (Kd.V_reads' (Kd.V_mono (ok' := (fun k_ => ((fun k_ => (P0_ k_ ∨ w.heap.size ≤ k_))) k_ ∧ some k_ ≠ (u5 : Value).ownBlock)) (HL290_10.out) (fun k_ hk => ⟨hk.1, hk.2⟩))).2.1 (Kd.V_F (Kd.V_mono (ok' := (fun k_ => ((fun k_ => (P0_ k_ ∨ w.heap.size ≤ k_))) k_ ∧ some k_ ≠ (u5 : Value).ownBlock)) (HL290_10.out) (fun k_ hk => ⟨hk.1, hk.2⟩))))); (case aB => exact (by repeat (first | (with_reducible first | exact HB.out | apply below_alloc | apply pw_below_drewN | apply below_drew1) | exact HB.out))); (case aF => exact (fun k_ hk => (.inr (Nat.le_trans (below_size (by repeat (first | (with_reducible first | exact HB.out | apply below_alloc | apply pw_below_drewN | apply below_drew1) | exact HB.out))) hk)))); (case aO => exact (by (with_reducible repeat (first | apply Kd.N_alloc | apply Kd.N_drewN | apply Kd.N_drew)); exact HO_5.out)); (case aS => exact (below_size (by repeat (first | (with_reducible first | exact HB.out | apply below_alloc | apply pw_below_drewN | apply below_drew1) | exact HB.out)))); (case aL => have := LMc6.out; omega); intro v292 w7 ho hb hg hat; rw [← Ny291.out] at ho; have n0_ := Aside0.mk (Kd.V_afterv (ok := (fun k_ => (P0_ k_ ∨ w.heap.size ≤ k_))) (by (with_reducible repeat (first | apply Kd.V_alloc | apply Kd.V_drewN | apply Kd.V_drew)); exact HO_0.out) hg hat); have n1_ := Aside0.mk (Kd.V_afterv (ok := (fun k_ => (P0_ k_ ∨ w.heap.size ≤ k_))) (by (with_reducible repeat (first | apply Kd.V_alloc | apply Kd.V_drewN | apply Kd.V_drew)); exact HL290_10.out) hg hat); have n2_ := Aside0.mk (hb); have n3_ := Aside0.mk (ho); clear HO_0; clear HL290_10; clear HB; clear HO_5; have HO_0 := n0_; have HL290_10 := n1_; have HB := n2_; have HO293 := n3_; clear n0_ n1_ n2_ n3_; clear ho hb hg hat))
       go_roundg k1
       case measure => have := HK1.out; omega
       case rel => exact ⟨(y291), (wrap64 (x6_1 + 1)), (by first | rfl | (simp; done) | (simp [*]; done)), H', ⟨by have := HK1.out; omega⟩, ⟨by (with_reducible repeat (first | apply Kd.V_alloc | apply Kd.V_drewN | apply Kd.V_drew)); exact HO_0.out⟩, ⟨by (with_reducible repeat (first | apply Kd.N_alloc | apply Kd.N_drewN | apply Kd.N_drew)); exact HO293.out⟩, ⟨by repeat (first | (with_reducible first | exact HB.out | apply below_alloc | apply pw_below_drewN | apply below_drew1) | exact HB.out)⟩⟩
      ·rw [if_neg c6] at H
       exact absurd H (by simp)
     ·rw [if_neg c5] at H
      exact absurd H (by simp)
   ·rw [if_neg c3] at H
    have c3b0 : decide (x6_1 < (l0.length : Int)) = false := decide_eq_false c3
    clear c3
    obtain rfl := Option.some.inj H
    go_wp2
    go_ret
    exact ⟨_, by first | rfl | (simp [errW_none, errW_some] <;> rfl) | (simp [*, errW_none, errW_some] <;> rfl), by (with_reducible repeat (first | apply Kd.N_alloc | apply Kd.N_drewN | apply Kd.N_drew)); exact HO_5.out, by repeat (first | (with_reducible first | exact HB.out | apply below_alloc | apply pw_below_drewN | apply below_drew1) | exact HB.out)⟩

-- NOT PRINTED: function 12 (gatewardenlaw21_MatchOne)
end Go.Proofs.Ytinoabkfekomcaa.PAskSizes
namespace Go.Proofs.Ytinoabkfekomcaa.PAskSizes
open Go.RowKit Go.Proofs.YtinoabkfekomcaaW.PrintWords Go.Proofs.YtinoabkfekomcaaW.PrintLast Go.Proofs.YtinoabkfekomcaaW.PrintMore
attribute [local go_sem] max2_int min2_int max_two min_two max_three min_three max_four min_four   -- for this text's walks alone
set_option linter.unusedVariables false
set_option linter.unusedSimpArgs false

/-! ### the examples of the layer match, walked by hand -/
/-- A row of one that waits, by its block. -/
theorem one_row {W : World} {b : Nat} {t : TypeId} {x : S56} {A : Option Addr} {c : Nat} (h : W.heap[b]? = some (.cells (pv x A c) t (0, 0))) (hl : x.f5.f5.length ≤ c) (hC : Kd.C (Kd.int .i64) W A x.f5.f5.length x.f5.f5) : Kd.C k56 W (some ⟨b, 0, none⟩) 1 [x] := by
 refine ⟨rfl, by decide, fun _ => ⟨⟨b, 0, none⟩, rfl, fun j p hp => ?_⟩⟩
 cases j with
 | succ j => simp at hp
 | zero =>
  obtain rfl : x = p := by simpa using hp
  refine ⟨_, rfl, k56_mk W x hl hC, fun i u hu => ?_⟩
  have ea : (⟨b, 0, none⟩ : Addr).add (0 * k56.sz + i) = ⟨b, i, none⟩ := by cases i <;> simp [Addr.add]
  rw [ea, blk_cell h i, ← hu]
  simp only [pv, List.getElem?_toArray]
theorem hcells12 {W : World} {g : Nat} {v0 v1 v2 v3 v4 v5 v6 v7 v8 v9 v10 v11 : Value} {t : TypeId} (h : W.heap[g]? = some (.cells #[v0, v1, v2, v3, v4, v5, v6, v7, v8, v9, v10, v11] t (0, 0))) :
  W.cell? ⟨g, 0, none⟩ = some v0 ∧ W.cell? ⟨g, 1, none⟩ = some v1 ∧ W.cell? ⟨g, 2, none⟩ = some v2 ∧ W.cell? ⟨g, 3, none⟩ = some v3 ∧ W.cell? ⟨g, 4, none⟩ = some v4 ∧ W.cell? ⟨g, 5, none⟩ = some v5 ∧ W.cell? ⟨g, 6, none⟩ = some v6 ∧ W.cell? ⟨g, 7, none⟩ = some v7 ∧ W.cell? ⟨g, 8, none⟩ = some v8 ∧ W.cell? ⟨g, 9, none⟩ = some v9 ∧ W.cell? ⟨g, 10, none⟩ = some v10 ∧ W.cell? ⟨g, 11, none⟩ = some v11 :=
 ⟨(blk_cell h 0).trans rfl, (blk_cell h 1).trans rfl, (blk_cell h 2).trans rfl, (blk_cell h 3).trans rfl, (blk_cell h 4).trans rfl, (blk_cell h 5).trans rfl, (blk_cell h 6).trans rfl, (blk_cell h 7).trans rfl, (blk_cell h 8).trans rfl, (blk_cell h 9).trans rfl, (blk_cell h 10).trans rfl, (blk_cell h 11).trans rfl⟩
abbrev exP : S56 := ⟨9, 0, 0, 5, 1, ⟨3, 0, 1, 0, 0, []⟩, 0⟩
abbrev exS : ByteArray := ⟨#[3, 2, 0, 7]⟩
theorem ex_yes : matchF 60 [exP] 9 1 exS = some (0, true) := by decide +kernel
theorem ex_no : matchF 60 [exP] 9 2 exS = some (0, false) := by decide +kernel
theorem ex_fault : match_Fault.f 9 0 0 5 1 3 0 1 0 0 [] 0 11 = some (5, 1, ⟨#[131, 11]⟩, true) := by decide +kernel
set_option maxHeartbeats 8000000 in
set_option maxRecDepth 100000 in
theorem awake21_calls (w : World) : Calls Try.prog 39 #[] w fun e w' => e = .returned (.bool true) ∧ Below w.heap.size w w' := by
 obtain ⟨T, hT⟩ : ∃ T : Ending → World → Prop, T = fun e w' => e = .returned (.bool true) ∧ Below w.heap.size w w' := ⟨_, rfl⟩
 have HT := Aside0.mk hT
 rw [← hT]
 clear hT
 obtain ⟨O, hO⟩ : ∃ O : Obj, O = .cells #[.int .i64 9, .int .i64 0, .int .i64 0, .int .i64 5, .int .i64 1, .int .i64 3, .int .i64 0, .int .i64 1, .int .i64 0, .int .i64 0, .slice none 0 0, .int .i64 0] 56 := ⟨_, rfl⟩
 have HO := Aside0.mk hO
 have K0 := Aside0.mk (blk_alloc (blk_new w O) O)
 have D0 := Aside0.mk (below_alloc (below_alloc (Below.refl w.heap.size w) O) O)
 have N1 := Aside0.mk (show ((w.alloc O).alloc O).heap[w.heap.size + 1]? = some O from by have h := blk_new (w.alloc O) O; rw [World.size_alloc] at h; exact h)
 rw [hO] at K0 D0 N1
 clear hO
 go_enter Try.func39, Try.ntmps39
 go_wp2_with fail
 refine (match_Find.calls 60 (some ⟨w.heap.size + 1, 0, none⟩) 1 [exP] 9 1 exS 0 true _ (one_row (x := exP) (A := none) (c := 0) N1.out (by decide) (Kd.C_nil _ _)) (by decide) (by decide) ex_yes).mono ?_
 rintro e w1 ⟨rfl, hb⟩
 have K1 := Aside0.mk (blk_below K0.out hb)
 have D1 := Aside0.mk (below_step D0.out hb)
 have K2 := Aside0.mk (blk_alloc K1.out O)
 have D2 := Aside0.mk (below_alloc D1.out O)
 have N2 := Aside0.mk (blk_new w1 O)
 rw [HO.out] at K2 D2 N2
 clear hb K0 N1 D0
 obtain ⟨x0, x1, x2, x3, x4, x5, x6, x7, x8, x9, x10, x11⟩ := hcells12 K1.out
 go_wp2_with fail
 refine (match_Find.calls 60 (some ⟨w1.heap.size, 0, none⟩) 1 [exP] 9 2 exS 0 false _ (one_row (x := exP) (A := none) (c := 0) N2.out (by decide) (Kd.C_nil _ _)) (by decide) (by decide) ex_no).mono ?_
 rintro e w2 ⟨rfl, hb⟩
 have K3 := Aside0.mk (blk_below K2.out hb)
 have D3 := Aside0.mk (below_step D2.out hb)
 clear hb K1 K2 D2 D1 N2 x0 x1 x2 x3 x4 x5 x6 x7 x8 x9 x10 x11
 obtain ⟨x0, x1, x2, x3, x4, x5, x6, x7, x8, x9, x10, x11⟩ := hcells12 K3.out
 go_wp2_with fail
 refine (match_Fault.calls 9 0 0 5 1 3 0 1 0 0 none 0 [] 0 11 5 1 ⟨#[131, 11]⟩ true _ (Kd.C_nil _ _) (Nat.le_refl _) ex_fault).mono ?_
 rintro e w3 ⟨rfl, hb⟩
 have D4 := Aside0.mk (below_step D3.out hb)
 clear hb K3 D3 x0 x1 x2 x3 x4 x5 x6 x7 x8 x9 x10 x11
 go_wp2
 rw [HT.out]
 refine ⟨rfl, ?_⟩
 have D0 := below_alloc D4.out
 with_reducible (repeat (first | exact D0 _ | apply below_drew1 | apply pw_below_drewN))
end Go.Proofs.Ytinoabkfekomcaa.PAskSizes
namespace Go.Proofs.YtinoabkfekomcaaW.PrintLast
open Go.RowKit Go.Proofs.YtinoabkfekomcaaW.PrintWords
section
variable {P : Program} {ops : Array Oper} {Q : Exit → Act → World → Prop} {S : World → Prop} {o : List Nat} {n fuel k : Nat} {a : Act} {w w1 : World}
theorem wp_value {oi : Oper} {N : Tmp} {v : Value} {K : Act → World → Prop} (hN : oi.dst = some N) (hw : Region.wanted oi (yielded ops a.tmps) = true) (hrun : (execOp a.eval oi).run P w = .ok (.value v) w1) (h : K (a.put (some N) v) w1) : if Region.wanted oi (yielded ops a.tmps) = true then Oper.wp P oi a w K Q else K (a.put (some N) undef) w := by
  rw [if_pos hw]
  unfold Oper.wp
  rw [hrun, Oper.upon_value, hN]
  exact h
/-- An operation that makes memory, alone. -/
theorem reg_run {i : Nat} {N : Tmp} {oi : Oper} {v : Value} (_ho : o[k]? = some i) (hi : ops[i]? = some oi) (hN : oi.dst = some N) (hc : (readyT (rtab .any ops).2 (dn o k n).toList == [i] && (dn o k n).toList.set i true == (dn o (k + 1) n).toList) = true)
    (hw : Region.wanted oi (yielded ops a.tmps) = true) (hrun : (execOp a.eval oi).run P w = .ok (.value v) w1) (hS : S w1) (h : S w1 → ∀ a', a.put (some N) v = a' → wpAnyLast P .any ops Q S [] fuel (dn o (k + 1) n) a' w1) : wpAnyLast P .any ops Q S [] (fuel + 1) (dn o k n) a w :=
  one_ (dn o (k + 1) n) hi hN (one_of rfl hc) (by simp) (fun _ hK => wp_value hN hw hrun (hK.out _ _ hS (fun hs => h hs _ rfl)))
/-- A store, alone. -/
theorem reg_store {i : Nat} {oi : Oper} (_ho : o[k]? = some i) (hi : ops[i]? = some oi) (hN : oi.dst = none) (hc : (readyT (rtab .any ops).2 (dn o k n).toList == [i] && (dn o k n).toList.set i true == (dn o (k + 1) n).toList) = true)
    (hw : Region.wanted oi (yielded ops a.tmps) = true) (hrun : (execOp a.eval oi).run P w = .ok .skip w1) (hS : S w1) (h : S w1 → wpAnyLast P .any ops Q S [] fuel (dn o (k + 1) n) a w1) : wpAnyLast P .any ops Q S [] (fuel + 1) (dn o k n) a w := by
  refine one_ (dn o (k + 1) n) hi hN (one_of rfl hc) (by simp) (fun K hK => ?_)
  rw [if_pos hw]
  unfold Oper.wp
  rw [hrun, Oper.upon_skip, hN]
  exact hK.out _ _ hS h
/-- A call, and an operation that makes memory, in either order. -/
theorem reg_two (o1 o2 : List Nat) {i j : Nat} {Ni Nj : Tmp} {oi oj : Oper} {f : FuncId} {fn : Func} {ars : Array Operand} {ts : Array TypeId} {v : Value} (_h1 : o1[k]? = some i) (_h2 : o2[k]? = some j) (hi : ops[i]? = some oi) (hj : ops[j]? = some oj) (hNi : oi.dst = some Ni) (hNj : oj.dst = some Nj)
    (hc : (readyT (rtab .any ops).2 (dn o k n).toList == [i, j] && (dn o k n).toList.set i true == (dn o1 (k + 1) n).toList && (dn o k n).toList.set j true == (dn o2 (k + 1) n).toList) = true)
    (hwi : Region.wanted oi (yielded ops a.tmps) = true) (hwj : Region.wanted oj (yielded ops a.tmps) = true)
    (hf : P.funcs[f]? = some fn) (hname : (fn.name == "runtime.NumGoroutine") = false) (hb : fn.body.isSome = true) (args : Array Value) (hop : oi.op = .call { callee := .value (.func f), args := ars, argTypes := ts }) (hargs : ars.map a.eval = args)
    (hrun : (execOp a.eval oj).run P w = .ok (.value v) w1) (hS1 : S w1)
    (h1 : Calls P f args w fun e w' => ∃ v, e = .returned v ∧ S w' ∧ (S w' → ∀ a', a.put (some Ni) v = a' → wpAnyLast P .any ops Q S [] fuel (dn o1 (k + 1) n) a' w'))
    (h2 : S w1 → ∀ a', a.put (some Nj) v = a' → wpAnyLast P .any ops Q S [] fuel (dn o2 (k + 1) n) a' w1) : wpAnyLast P .any ops Q S [] (fuel + 1) (dn o k n) a w := by
  refine two_ (dn o1 (k + 1) n) (dn o2 (k + 1) n) hi hj hNi hNj (two_of rfl hc) (by simp) (by simp) (fun K hK => goes_ hf hname hb args hwi hNi hop hargs (h1.mono fun e w' hh => ?_)) (fun K hK => wp_value hNj hwj hrun (hK.out _ _ hS1 (fun hs => h2 hs _ rfl)))
  obtain ⟨v, he, hS, hk⟩ := hh
  exact ⟨v, he, hK.out _ _ hS (fun h => hk h _ rfl)⟩
end
end Go.Proofs.YtinoabkfekomcaaW.PrintLast
