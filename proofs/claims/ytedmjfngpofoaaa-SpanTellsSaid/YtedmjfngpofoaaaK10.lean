/- Texts of this claim, put together (wip/pack.py): SpanCovers. -/
import Derived.Test.YtedmjfngpofoaaaK9
namespace Go.Proofs.Ytedmjfngpofoaaa.PSpanTells
open Go Go.RowKit Go.Proofs.YtedmjfngpofoaaaW.PrintWords Go.Proofs.YtedmjfngpofoaaaW.PrintLast Go.Proofs.Ytedmjfngpofoaaa.Spans Go.Proofs.Ytedmjfngpofoaaa.Base
set_option maxHeartbeats 2000000
set_option maxRecDepth 100000
set_option linter.unusedVariables false
set_option linter.unusedSimpArgs false
/-- All of a range's numbers are there. -/
def AllIn (l : List R) (r : R) : Prop := ∀ n, r.f0 ≤ n → n ≤ r.f1 → hasB l n = true
theorem predC (r : R) (rb : Nat) (w : World) (h : w.heap[rb]? = some (.cells #[.int .i64 r.f0, .int .i64 r.f1] 26 (0, 0))) :
    PredR 33 #[.pointer (some ⟨rb, 0, none⟩)] (fun x => decide (x.f0 ≤ r.f0) && decide (r.f1 ≤ x.f1)) w := by
  intro W x hb
  have KW := blk_below h hb
  have k0 : W.cell? ⟨rb, 0, none⟩ = some (.int .i64 r.f0) := blk_cell KW 0
  have k1 : W.cell? ⟨rb, 1, none⟩ = some (.int .i64 r.f1) := blk_cell KW 1
  have hlt := blk_lt KW
  have hne : rb ≠ W.heap.size := by omega
  obtain ⟨a, b⟩ := x
  obtain ⟨c, d⟩ := r
  simp only at k0 k1 ⊢
  clear hb h KW
  show Calls Try.prog 33 #[.agg #[.int .i64 a, .int .i64 b], .pointer (some ⟨rb, 0, none⟩)] W _
  have HB : Aside0 (Below W.heap.size W (W.alloc (.cells #[.int .i64 a, .int .i64 b] 26))) := ⟨below_alloc (Below.refl _ _) _⟩
  by_cases h1 : a ≤ c
  · have e1 : decide (a ≤ c) = true := decide_eq_true h1
    by_cases h2 : d ≤ b
    · have e2 : decide (d ≤ b) = true := decide_eq_true h2
      go_enter Try.func33, Try.ntmps33
      go_wp2
      go_ret
      exact ⟨by rw [e1, e2]; rfl, HB.out⟩
    · have e2 : decide (d ≤ b) = false := decide_eq_false h2
      go_enter Try.func33, Try.ntmps33
      go_wp2
      go_ret
      exact ⟨rfl, HB.out⟩
  · have e1 : decide (a ≤ c) = false := decide_eq_false h1
    go_enter Try.func33, Try.ntmps33
    go_wp2
    go_ret
    exact ⟨rfl, HB.out⟩
def CovTold (w : World) (l : List R) (r : R) (e : Ending) (w' : World) : Prop := ∃ b : Bool, e = .returned (.bool b) ∧ (b = true ↔ AllIn l r) ∧ Below w.heap.size w w'
theorem span_Covers_calls (A0 : Option Addr) (c0 : Nat) (l0 : List R) (r : R) (w : World) (hr0 : Kd.C k26 w A0 l0.length l0) (hm : l0.length ≤ 1000000) (hf : Fit l0) :
    Calls Try.prog 13 #[.slice A0 l0.length c0, .agg #[.int .i64 r.f0, .int .i64 r.f1]] w (CovTold w l0 r) := by
  have eg : ∀ args w, (callFunc 33 args).run Try.prog w = .ok (.enter 33 args) w := fun args w => enters_ Try.func33 (by kernel_rfl) rfl args w
  have EG := Aside0.mk eg
  clear eg
  have HN := Aside0.mk (blk_new w (.cells #[.int .i64 r.f0, .int .i64 r.f1] 26))
  have HA := Aside0.mk (below_alloc (Below.refl w.heap.size w) (.cells #[.int .i64 r.f0, .int .i64 r.f1] 26))
  have HC := Aside0.mk (Kd.C_below hr0 (below_alloc (Below.refl _ w) (.cells #[.int .i64 r.f0, .int .i64 r.f1] 26)))
  have HF := Aside0.mk hf
  obtain ⟨T, hT⟩ : ∃ T, T = CovTold w l0 r := ⟨_, rfl⟩
  have HT := Aside0.mk hT
  rw [← hT]
  clear hT hr0 hf
  obtain ⟨a, b⟩ := r
  simp only at HN HA HC ⊢
  by_cases h1 : a > b
  · have e1 : decide (a > b) = true := decide_eq_true h1
    go_enter Try.func13, Try.ntmps13
    go_wp2_with fail
    rw [HT.out]
    exact ⟨true, rfl, ⟨fun _ n h2 h3 => by simp only at h2 h3; omega, fun _ => rfl⟩, HA.out⟩
  · have e1 : decide (a > b) = false := decide_eq_false h1
    go_enter Try.func13, Try.ntmps13
    go_wp2_with fail
    refine (span_Norm_calls A0 c0 l0 _ HC.out hm HF.out).mono ?_
    rintro e w2 ⟨v, out, rfl, hR, hN, hb⟩
    obtain ⟨A, c, rfl, _, hC⟩ := Kd.R_reads hR
    have HB := Aside0.mk (below_step HA.out hb)
    have HN2 := Aside0.mk (blk_below HN.out hb)
    have HCO := Aside0.mk hC
    have HNO := Aside0.mk hN
    have HL := Aside0.mk (show out.length ≤ 1099511627776 by have := hN.len; omega)
    clear hR hb hC hN HN HA HC
    go_wp2_with fail
    refine (ContainsFuncR A c out 33 _ _ _ HCO.out HL.out EG.out (predC ⟨a, b⟩ w.heap.size _ HN2.out)).mono ?_
    rintro e w3 ⟨rfl, hb⟩
    have HB3 := Aside0.mk (below_step HB.out hb)
    clear hb
    obtain ⟨bb, hbb⟩ : ∃ bb, bb = out.any fun x => decide (x.f0 ≤ (⟨a, b⟩ : R).f0) && decide ((⟨a, b⟩ : R).f1 ≤ x.f1) := ⟨_, rfl⟩
    rw [← hbb]
    have HBB := Aside0.mk hbb
    clear hbb
    go_wp2_with fail
    rw [HT.out]
    refine ⟨bb, rfl, ?_, HB3.out⟩
    rw [HBB.out]
    have h := covers_iff HNO.out.rt (r := ⟨a, b⟩) (by simp only; omega)
    unfold coversB at h
    rw [h]
    exact ⟨fun h n h2 h3 => by rw [← HNO.out.has]; exact h n h2 h3, fun h n h2 h3 => by rw [HNO.out.has]; exact h n h2 h3⟩
theorem awake_norm {out : List R} (h : NormOf [⟨5, 7⟩, ⟨1, 2⟩, ⟨3, 4⟩] out) : out = [⟨1, 7⟩] := by
  have h2 : NormOf [⟨1, 7⟩] [(⟨1, 7⟩ : R)] := ⟨⟨List.pairwise_singleton _ _, fun x hx => by rw [List.mem_singleton.1 hx]; decide⟩, fun x hx => by rw [List.mem_singleton.1 hx]; decide, Nat.le_refl _, fun n => rfl⟩
  refine NormOf.uniq h h2 (fun n => ?_)
  rw [Bool.eq_iff_iff, hasB_iff, hasB_iff]
  simp
  omega
theorem awake04 (w : World) : Calls Try.prog 11 #[] w fun e w' => e = .returned (.bool true) ∧ Below w.heap.size w w' := by
  have hO : Own (w.alloc (.cells #[.int .i64 5, .int .i64 7, .int .i64 1, .int .i64 2, .int .i64 3, .int .i64 4] 26)) w.heap.size [⟨5, 7⟩, ⟨1, 2⟩, ⟨3, 4⟩] [] := blk_new w _
  have HC := Aside0.mk (hO.C (by decide))
  have HA := Aside0.mk (below_alloc (Below.refl w.heap.size w) (.cells #[.int .i64 5, .int .i64 7, .int .i64 1, .int .i64 2, .int .i64 3, .int .i64 4] 26))
  have HF : Aside0 (Fit [(⟨5, 7⟩ : R), ⟨1, 2⟩, ⟨3, 4⟩]) := ⟨fun x hx => by simp at hx; rcases hx with rfl | rfl | rfl <;> decide⟩
  clear hO
  go_enter Try.func11, Try.ntmps11
  go_wp2_with fail
  refine (span_Norm_calls (some ⟨w.heap.size, 0, none⟩) 3 [⟨5, 7⟩, ⟨1, 2⟩, ⟨3, 4⟩] _ HC.out (by decide) HF.out).mono ?_
  rintro e w2 ⟨v, out, rfl, hR, hN, hb⟩
  obtain rfl := awake_norm hN
  obtain ⟨A, c, rfl, _, hC⟩ := Kd.R_reads hR
  obtain ⟨ad, rfl, c0, c1⟩ := at_T26 hC 0 (by decide) (by decide)
  have c0 : w2.cell? ad = some (.int .i64 1) := c0
  have c1 : w2.cell? ⟨ad.block, ad.off + 1, none⟩ = some (.int .i64 7) := c1
  have HCO := Aside0.mk hC
  have HB := Aside0.mk (below_step HA.out hb)
  clear hR hb hC hN HC HA
  have h4 : ([(⟨1, 7⟩ : R)].any fun r => decide (r.f0 ≤ 4) && decide (4 ≤ r.f1)) = true := by decide
  have h8 : ([(⟨1, 7⟩ : R)].any fun r => decide (r.f0 ≤ 8) && decide (8 ≤ r.f1)) = false := by decide
  have X4 := Aside0.mk (fun w => h4 ▸ span_Has_calls (some ad) c [⟨1, 7⟩] 4 w)
  have X8 := Aside0.mk (fun w => h8 ▸ span_Has_calls (some ad) c [⟨1, 7⟩] 8 w)
  clear h4 h8
  go_wp2_with fail
  refine (X4.out _ HCO.out (by decide)).mono ?_
  rintro e w3 ⟨rfl, hb⟩
  have HB3 := Aside0.mk (below_step HB.out hb)
  have HC3 := Aside0.mk (Kd.C_below HCO.out hb)
  clear hb c0 c1
  go_wp2_with fail
  refine (X8.out _ HC3.out (by decide)).mono ?_
  rintro e w4 ⟨rfl, hb⟩
  have HB4 := Aside0.mk (below_step HB3.out hb)
  have HC4 := Aside0.mk (Kd.C_below HC3.out hb)
  clear hb HC3 HB3 HB HCO
  have HF1 : Aside0 (Fit [(⟨1, 7⟩ : R)]) := ⟨fun x hx => by simp at hx; rw [hx]; decide⟩
  go_wp2_with fail
  refine (span_Covers_calls (some ad) c [⟨1, 7⟩] ⟨2, 7⟩ _ HC4.out (by decide) HF1.out).mono ?_
  rintro e w5 ⟨b1, rfl, h1, hb⟩
  obtain rfl : b1 = true := h1.2 (fun n h2 h3 => (hasB_iff _ _).2 ⟨⟨1, 7⟩, List.mem_cons_self, by simp only at *; omega, h3⟩)
  have HB5 := Aside0.mk (below_step HB4.out hb)
  have HC5 := Aside0.mk (Kd.C_below HC4.out hb)
  clear hb h1 HB4 HC4
  go_wp2_with fail
  refine (span_Covers_calls (some ad) c [⟨1, 7⟩] ⟨0, 1⟩ _ HC5.out (by decide) HF1.out).mono ?_
  rintro e w6 ⟨b2, rfl, h1, hb⟩
  obtain rfl : b2 = false := by
    cases b2 with
    | false => rfl
    | true =>
      obtain ⟨x, hx, h2, h3⟩ := (hasB_iff _ _).1 (h1.1 rfl 0 (Int.le_refl _) (by decide))
      simp at hx; subst hx; simp only at h2; omega
  have HB6 := Aside0.mk (below_step HB5.out hb)
  clear hb h1
  go_wp2_with fail
  go_ret
  exact ⟨rfl, HB6.out⟩
end Go.Proofs.Ytedmjfngpofoaaa.PSpanTells
