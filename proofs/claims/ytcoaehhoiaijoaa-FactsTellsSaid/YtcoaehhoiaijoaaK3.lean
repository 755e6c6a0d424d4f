/- Texts of this claim, put together (wip/pack.py): RealsWalk. -/
import Derived.Test.YtcoaehhoiaijoaaK2
namespace Go.Proofs.Ytcoaehhoiaijoaa.Range
open Go Go.RowKit Go.Shelf Go.Proofs.YtcoaehhoiaijoaaW.PrintWords Go.Proofs.Ytcoaehhoiaijoaa.Fl Go.Proofs.Ytcoaehhoiaijoaa.Base
attribute [local go_sem] Oper.semAt_some
set_option maxHeartbeats 8000000
set_option maxRecDepth 100000
set_option linter.unusedVariables false
theorem and3 (x : Int) (h0 : 0 ≤ x) (h1 : x < 9223372036854775808) : Go.bits .and .i64 x 3 = x % 4 :=
  bits_mask .i64 63 (by decide) wraps_i64 2 (by decide) x h0 (by omega)
theorem fours_made (F : Fence) (n : Nat) (h58 : F.fn 58) (hro : F.round = none) (A : Option Addr) (len c0 : Nat) (w : World) :
    CallsIn F n Try.prog 58 #[.slice A len c0] w fun e w' => e = .returned (.func (.func 67) #[] #[.pointer (some ⟨w.heap.size, 0, none⟩)]) ∧ w' = w.alloc (.cells #[.slice A len c0] 22) := by
  refine callsIn_of_wp Try.func58 rfl h58 ?_ hro
  simp only [Try.ntmps58, List.size_toArray, List.length_cons, List.length_nil, Nat.reduceAdd, Nat.reduceSub, Array.replicate_succ, Array.replicate_zero, List.push_toArray, List.append_toArray, List.nil_append, List.cons_append]
  gi_wp2
  refine bodyPost_ret (results_tmp rfl _ _ _) rfl ?_
  exact ⟨rfl, rfl⟩
theorem keeps_below {W W' : World} (h : Below W.heap.size W W') : KeepsOthers W W' :=
  KeepsOthers.of_grownBy (row := none) ⟨h.os, h.tape, h.output, h.size, fun k hk _ => h.block k hk⟩ (fun _ _ e => by cases e)
theorem results_cells2 {P : Program} {fn : Func} {p q : Tmp} {t u : TypeId} (h : fn.results = #[.cell p t, .cell q u]) (tmps : Array Value) (w : World) (a b : Addr) (v z : Value) (hp : tmps.getD p undef = .pointer (some a)) (hq : tmps.getD q undef = .pointer (some b))
    (ht : (isAgg t).run P w = .ok false w) (hu : (isAgg u).run P w = .ok false w) (ha : w.cell? a = some v) (hb : w.cell? b = some z) : (results fn tmps).run P w = .ok (.tuple #[v, z]) w := by
  have hp' : tmps[p]?.getD undef = .pointer (some a) := by simpa using hp
  have hq' : tmps[q]?.getD undef = .pointer (some b) := by simpa using hq
  simp [results, h, hp', hq', asAddr, loadVar, ht, hu, ha, hb, go_sem]
theorem below_put {n D : Nat} {W : World} (o : Obj) (h : n ≤ D) : Below n W (W.putObj D o) := by
  have hg := grownBy_putObj' W D o
  exact ⟨hg.os, hg.tape, hg.output, hg.size, fun k hk => World.putObj_heap_other (by omega)⟩
theorem infoF : (Try.prog.info? 37).map (fun i => (i.zero, i.size, i.bytes)) = some (some (.float .f64 0), 1, 8) := by kernel_rfl
/-- What facts.Reals tells. -/
def realsB (l : List Int) : Prop := l.length % 4 = 0 ∧ okUpto l (l.length / 4)
def RealsTold (n0 : Nat) (w : World) (l : List Int) (e : Ending) (w' : World) : Prop :=
  ((realsB l ∧ ∃ v, e = .returned (.tuple #[v, .bool true]) ∧ w'.ownsRow n0 37 1 v (l.length / 4) (fls (vals l (l.length / 4)))) ∨ (¬ realsB l ∧ e = .returned (.tuple #[.slice none 0 0, .bool false]))) ∧ Below n0 w w'
theorem reals_calls (A0 : Option Addr) (c0 : Nat) (l : List Int) (w : World) (hr0 : Kd.C (Kd.int .i64) w A0 l.length l) (hc0 : l.length ≤ c0) (hl : l.length ≤ 4000) :
    Calls Try.prog 40 #[.slice A0 l.length c0] w (RealsTold w.heap.size w l) := by
  have HR0 := Aside0.mk hr0
  clear hr0
  obtain ⟨i0, hi, hz0, hz1, hz2⟩ := info_parts infoF
  refine (callsIn_wide (n := 4)).1 ?_
  refine callsIn_of_wp_marks Try.func40 rfl trivial ?_ rfl
  simp only [Try.ntmps40, List.size_toArray, List.length_cons, List.length_nil, Nat.reduceAdd, Nat.reduceSub, Array.replicate_succ, Array.replicate_zero, List.push_toArray, List.append_toArray, List.nil_append, List.cons_append]
  have h3 : Go.bits .and .i64 (l.length : Int) 3 = ((l.length % 4 : Nat) : Int) := by rw [and3 _ (by omega) (by omega)]; omega
  by_cases h4 : l.length % 4 = 0
  · rw [h4] at h3
    gi_wp2_with (refine ⟨trivial, ?_⟩; gi_at_call 58; refine (fours_made Fence.wide 3 trivial rfl _ _ _ _).mono ?_; rintro e w' ⟨rfl, rfl⟩)
    have b1 := Boxed.new w 55 (.slice none 0 0)
    have b2 := Boxed.new (w.alloc (.cells #[.slice none 0 0] 55)) 4 (.bool false)
    have b3 := Boxed.new ((w.alloc (.cells #[.slice none 0 0] 55)).alloc (.cells #[.bool false] 4)) 55 (.slice none 0 0)
    have b4 := Boxed.new (((w.alloc (.cells #[.slice none 0 0] 55)).alloc (.cells #[.bool false] 4)).alloc (.cells #[.slice none 0 0] 55)) 22 (.slice A0 l.length c0)
    simp only [World.size_alloc] at b2 b3 b4
    obtain ⟨ad, had⟩ : ∃ ad, 0 < l.length → A0 = some ad := by
      by_cases hp : 0 < l.length
      · obtain ⟨ad, e, _⟩ := HR0.out.2.2 hp
        exact ⟨ad, fun _ => e⟩
      · exact ⟨⟨0, 0, none⟩, fun h => absurd h hp⟩
    obtain ⟨W0, hW0⟩ : ∃ W0, W0 = (((w.alloc (.cells #[.slice none 0 0] 55)).alloc (.cells #[.bool false] 4)).alloc (.cells #[.slice none 0 0] 55)).alloc (.cells #[.slice A0 l.length c0] 22) := ⟨_, rfl⟩
    have hsz : W0.heap.size = w.heap.size + 4 := by rw [hW0]; simp
    have hB0 : Below w.heap.size w W0 := by rw [hW0]; exact below_alloc (below_alloc (below_alloc (below_alloc (Below.refl _ _) _) _) _) _
    have hJ0 : J w.heap.size w ad c0 l 0 0 W0 := by
      refine ⟨⟨_, ?_, World.ownsRow_nil _ _ _ _⟩, ⟨A0, _, _, ?_, by omega, hc0, fun hp => ⟨?_, by omega⟩⟩, ?_, ?_, fun j hj => by omega, hB0⟩
      · rw [hW0]; exact b3.alloc _
      · rw [hW0]; exact b4
      · rw [had hp]; simp [Addr.add]
      · rw [hW0]; exact ((b1.alloc _).alloc _).alloc _
      · rw [hW0]; exact (b2.alloc _).alloc _
    rw [← hW0]
    have HJ0 := Aside0.mk hJ0
    clear hW0 b1 b2 b3 b4 hJ0
    refine range_steps (F := Fence.wide) (n := 4) rfl (by decide) (gf := 67) (lb := #[.pointer (some ⟨w.heap.size + 3, 0, none⟩)]) rfl trivial (enters_of Try.func67 (by kernel_rfl) rfl)
      (fun k => #[.slice (some (ad.add (4 * k))) 4 (c0 - 4 * k)]) (fun _ => rfl) (w.heap.size + 3) (l.length / 4) (by omega)
      (fun k W => J w.heap.size w ad c0 l k k W ∧ k ≤ l.length / 4) (fun k W => J w.heap.size w ad c0 l (k + 1) k W) (fun k W => Jx w.heap.size w l k W)
      (fun k W b o hb ho h => ⟨h.1.put b o (by omega) ho, h.2⟩) (fun k W b o hb ho h => h.put b o (by omega) ho) (fun k W b o hb ho h => h.put b o (by omega) ho) (fun k W o h => ⟨h.1.alloc o, h.2⟩) ⟨HJ0.out, by omega⟩
      (fun k => { tmps := #[.slice A0 l.length c0, undef, .pointer (some ⟨w.heap.size, 0, none⟩), .pointer (some ⟨w.heap.size + 1, 0, none⟩), .pointer (some ⟨w.heap.size + 1 + 1, 0, none⟩), .slice (some (ad.add (4 * k))) 4 (c0 - 4 * k), undef, undef, .slice A0 l.length c0, .int .i64 l.length, .int .i64 0, .bool false, .slice A0 l.length c0, .func (.func 67) #[] #[.pointer (some ⟨w.heap.size + 1 + 1 + 1, 0, none⟩)], .slice (some (ad.add (4 * k))) 4 (c0 - 4 * k), undef, undef, undef, undef, undef, undef, undef, undef, undef, undef, undef, undef], defers := [] }) ?assign ?body ?iter ?done ?stop
    case assign =>
      intro b k W K hK
      gi_wp2
      exact hK
    case iter =>
      intro b Rec RecX W hs hy hi hR
      refine fours_in Fence.wide 3 trivial rfl (by decide) ad l.length c0 (w.heap.size + 3) (l.length / 4) (by omega) (by omega) _ _ _ ?_ ?_ ?_ b Rec RecX W hs hy hi hR
      · rintro k W ⟨h, hk⟩
        obtain ⟨A, r, c, hb, hl⟩ := h.left
        exact ⟨hk, A, r, c, hb.cell, hb.frozen, hl⟩
      · rintro k W h _
        obtain ⟨A, r, c, hb, hl⟩ := h.left
        exact ⟨A, r, c, hb.cell, hb.frozen, hl⟩
      · rintro k W A r c h hk hl
        exact ⟨h.took hl, by omega⟩
    case body =>
      rintro b k W ⟨hJ, _⟩ hk
      have hC : Kd.C (Kd.int .i64) W (some (ad.add (4 * k))) (chunk l k).length (chunk l k) := by
        refine chunk_C ?_ k (by omega)
        have h := HR0.out
        rw [had (by omega)] at h
        exact Kd.C_below h hJ.below
      have hof := of_calls (some (ad.add (4 * k))) (c0 - 4 * k) (chunk l k) W hC
      rw [chunk_length l k (by omega)] at hof
      have HOF := Aside0.mk hof
      have HJ := Aside0.mk hJ
      clear hof hC hJ
      cases hx : (ofF (chunk l k)).2 with
      | false =>
        gi_wp2_with (refine ⟨trivial, ?_⟩; gi_at_call 30; refine (CallsIn.inRound b (callsIn_wide.2 HOF.out)).mono ?_; rintro e w1 ⟨rfl, hw1⟩; rw [hx]; have HJ1 := Aside0.mk (HJ.out.grow hw1); have c1 := HJ1.out.r1.cell; have c2 := HJ1.out.r2.cell; have f1 := HJ1.out.r1.frozen; have f2 := HJ1.out.r2.frozen)
        refine ⟨(keeps_below hw1).trans ((KeepsOthers.setCell _ _ _).trans (KeepsOthers.setCell _ _ _)), ?_⟩
        exact ⟨(HJ1.out.r1.set _).other (by omega) _, (HJ1.out.r2.other (by omega) _).set _, ⟨hk, hx⟩, (HJ1.out.below.setCell (p := ⟨w.heap.size, 0, none⟩) (Nat.le_refl _) _).setCell (p := ⟨w.heap.size + 1, 0, none⟩) (by show w.heap.size ≤ w.heap.size + 1; omega) _⟩
      | true =>
        have hkl : k + 1 ≤ maxLen := by have : maxLen = 9223372036854775807 := rfl
                                        omega
        gi_wp2_with (first
          | (refine ⟨trivial, ?_⟩; gi_at_call 30; refine (CallsIn.inRound b (callsIn_wide.2 HOF.out)).mono ?_; rintro e w1 ⟨rfl, hw1⟩; rw [hx]; have HJ1 := Aside0.mk (HJ.out.grow hw1); obtain ⟨v, hv, hrow⟩ := HJ1.out.out; have c1 := hv.cell; have f1 := hv.frozen)
          | (gi_at_builtin; refine wpListIn_append_own _ rfl _ _ 55 rfl w.heap.size 37 i0 (.float .f64 0) 1 8 Try.underlying55 hi hz0 hz1 hz2 rfl (by decide) _ _ _ rfl (hrow.alloc _) ⟨_, 0, none⟩ 1 1 [.float .f64 (ofF (chunk l k)).1] rfl rfl (cell_one_new _ _ _) (by simp [Value.oneCell']) hkl (by omega) (by have := HJ1.out.below.size; simp; omega) ?_; intro v' w2 hown' hgrow _; obtain ⟨g', cap', rfl⟩ := ownsRow_succ hown'; obtain ⟨hv1, hv2, hr2, hk2, hb2⟩ := hv.appended (by decide) hrow HJ1.out.below.size (show w.heap.size ≤ w.heap.size + 2 by omega) hown' hgrow; have hc1 := hv1.cell; have hf1 := hv1.frozen))
        obtain ⟨A, r, c, hb, hl⟩ := HJ1.out.left
        refine ⟨(keeps_below hw1).trans hk2, ⟨_, hv2, by rw [vals_succ]; exact hr2⟩, ⟨A, r, c, ((hb.alloc _).kept hgrow (hb.not_row (by decide) hrow)).other (by omega) _, hl⟩, ((HJ1.out.r1.alloc _).kept hgrow (HJ1.out.r1.not_row (by decide) hrow)).other (by omega) _, ((HJ1.out.r2.alloc _).kept hgrow (HJ1.out.r2.not_row (by decide) hrow)).other (by omega) _, okUpto_succ HJ1.out.ok hx, HJ1.out.below.trans hb2⟩
    case done =>
      rintro D W hD ⟨hJ, _⟩ hK
      obtain ⟨v, hv, hrow⟩ := hJ.out
      obtain ⟨Av, cv, rfl⟩ := own_slice hrow
      have c1 := hv.cell
      have f1 := hv.frozen
      have c2 := hJ.r1.cell
      have f2 := hJ.r1.frozen
      have c3 := hJ.r2.cell
      have f3 := hJ.r2.frozen
      gi_wp2
      refine ⟨by simp, .inl ⟨_, _, rfl, run_takeDeferred (((KeepsOthers.setCell _ _ _).trans (KeepsOthers.setCell _ _ _)).same D _ hK rfl), ?_⟩⟩
      have hk1 := ((KeepsOthers.setCell W ⟨w.heap.size, 0, none⟩ (.slice Av (l.length / 4) cv)).trans (KeepsOthers.setCell (W.setCell ⟨w.heap.size, 0, none⟩ (.slice Av (l.length / 4) cv)) ⟨w.heap.size + 1, 0, none⟩ (.bool true))).same D _ hK rfl
      have r1 := ((hJ.r1.set (.slice Av (l.length / 4) cv)).other (B' := w.heap.size + 1) (by omega) (.bool true)).kept (grownBy_putObj' _ D (.deferred none)) (fun e => by cases e; omega)
      have r2 := ((hJ.r2.other (B' := w.heap.size) (by omega) (.slice Av (l.length / 4) cv)).set (.bool true)).kept (grownBy_putObj' _ D (.deferred none)) (fun e => by cases e; omega)
      refine ⟨_, results_cells2 rfl _ _ ⟨w.heap.size, 0, none⟩ ⟨w.heap.size + 1, 0, none⟩ (.slice Av (l.length / 4) cv) (.bool true) rfl rfl (run_isAgg_plain Try.underlying55 rfl _) (run_isAgg_plain Try.underlying4 rfl _) r1.cell r2.cell, .inl ⟨⟨h4, hJ.ok⟩, _, rfl, ?_⟩, ?_⟩
      · refine ownsRow_putObj ((hrow.kept (grownBy_setCell' _ _ _) ?_).kept (grownBy_setCell' _ _ _) ?_) _ hk1 rfl
        · exact .inr (fun e => hJ.r1.not_row (by decide) hrow e.symm)
        · exact .inr (fun e => hJ.r2.not_row (by decide) hrow e.symm)
      · refine ((hJ.below.setCell (p := ⟨w.heap.size, 0, none⟩) (Nat.le_refl _) _).setCell (p := ⟨w.heap.size + 1, 0, none⟩) (by show w.heap.size ≤ w.heap.size + 1; omega) _).trans (below_put _ (by omega))
    case stop =>
      rintro D k W hD hJ hK
      have r1 := hJ.r1.kept (grownBy_putObj' _ D (.deferred none)) (fun e => by cases e; omega)
      have r2 := hJ.r2.kept (grownBy_putObj' _ D (.deferred none)) (fun e => by cases e; omega)
      gi_wp2
      refine ⟨by simp, .inl ⟨_, _, rfl, run_takeDeferred hK, ?_⟩⟩
      refine ⟨_, results_cells2 rfl _ _ ⟨w.heap.size, 0, none⟩ ⟨w.heap.size + 1, 0, none⟩ (.slice none 0 0) (.bool false) rfl rfl (run_isAgg_plain Try.underlying55 rfl _) (run_isAgg_plain Try.underlying4 rfl _) r1.cell r2.cell, .inr ⟨fun h => ?_, rfl⟩, hJ.below.trans (below_put _ (by omega))⟩
      have := h.2 k hJ.no.1
      rw [hJ.no.2] at this
      cases this
  · have h5 : decide (((l.length % 4 : Nat) : Int) ≠ 0) = true := decide_eq_true (by omega)
    have h6 : ((l.length % 4 : Nat) : Int) ≠ 0 := by omega
    have b1 := Boxed.new w 55 (.slice none 0 0)
    have b2 := Boxed.new (w.alloc (.cells #[.slice none 0 0] 55)) 4 (.bool false)
    simp only [World.size_alloc] at b2
    gi_wp2
    exact ⟨_, results_cells2 rfl _ _ ⟨w.heap.size, 0, none⟩ ⟨w.heap.size + 1, 0, none⟩ (.slice none 0 0) (.bool false) rfl rfl (run_isAgg_plain Try.underlying55 rfl _) (run_isAgg_plain Try.underlying4 rfl _) (b1.alloc _).cell b2.cell, .inr ⟨fun h => h4 h.1, rfl⟩, below_alloc (below_alloc (Below.refl _ _) _) _⟩
end Go.Proofs.Ytcoaehhoiaijoaa.Range
