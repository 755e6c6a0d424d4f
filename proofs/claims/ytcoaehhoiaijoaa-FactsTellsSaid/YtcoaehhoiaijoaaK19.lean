/- Texts of this claim, put together (wip/pack.py): RefFactsOf. -/
import Derived.Test.YtcoaehhoiaijoaaK18
namespace Go.Proofs.Ytcoaehhoiaijoaa.Range
open Go Go.RowKit Go.Proofs.YtcoaehhoiaijoaaW.PrintWords Go.Proofs.Ytcoaehhoiaijoaa.Base Go.Proofs.Ytcoaehhoiaijoaa.PFactsTells Go.Proofs.Ytcoaehhoiaijoaa.Fact
set_option maxHeartbeats 8000000
set_option maxRecDepth 100000
set_option linter.unusedVariables false
theorem boxes3 (w : World) (o5 o6 o7 : Obj) : ∃ V : World, V = ((w.alloc o5).alloc o6).alloc o7 ∧ Below w.heap.size w V ∧ V.heap[w.heap.size]? = some o5 ∧ V.heap[w.heap.size + 1]? = some o6 ∧ V.heap[w.heap.size + 1 + 1]? = some o7 := by
  have h6 := blk_new (w.alloc o5) o6
  have h7 := blk_new ((w.alloc o5).alloc o6) o7
  simp only [World.size_alloc] at h6 h7
  exact ⟨_, rfl, below_alloc (below_alloc (below_alloc (Below.refl _ _) _) _) _, blk_alloc (blk_alloc (blk_new w o5) _) _, blk_alloc h6 _, h7⟩
/-- The world with six cells of a block stored. -/
def set6 (W : World) (g : Nat) (y0 y1 y2 y3 y4 y5 : Value) : World := (((((W.setCell ⟨g, 0, none⟩ y0).setCell ⟨g, 1, none⟩ y1).setCell ⟨g, 2, none⟩ y2).setCell ⟨g, 3, none⟩ y3).setCell ⟨g, 4, none⟩ y4).setCell ⟨g, 5, none⟩ y5
theorem put6 {W : World} {g : Nat} {t : TypeId} {x0 x1 x2 x3 x4 x5 : Value} (h : W.heap[g]? = some (.cells #[x0, x1, x2, x3, x4, x5] t (0, 0))) (y0 y1 y2 y3 y4 y5 : Value) : (set6 W g y0 y1 y2 y3 y4 y5).heap[g]? = some (.cells #[y0, y1, y2, y3, y4, y5] t (0, 0)) :=
  blk_put (blk_put (blk_put (blk_put (blk_put (blk_put h 0 y0 rfl) 1 y1 rfl) 2 y2 rfl) 3 y3 rfl) 4 y4 rfl) 5 y5 rfl
theorem below6 {w W : World} {n g : Nat} (h : Below n w W) (hg : n ≤ g) (y0 y1 y2 y3 y4 y5 : Value) : Below n w (set6 W g y0 y1 y2 y3 y4 y5) :=
  (((((h.setCell (p := ⟨g, 0, none⟩) hg y0).setCell (p := ⟨g, 1, none⟩) hg y1).setCell (p := ⟨g, 2, none⟩) hg y2).setCell (p := ⟨g, 3, none⟩) hg y3).setCell (p := ⟨g, 4, none⟩) hg y4).setCell (p := ⟨g, 5, none⟩) hg y5
theorem row6 {α : Type} {d : Kd α} {e : Nat} {W : World} {base g : Nat} {ok : Nat → Prop} {v : Value} {xs : List α} (h : d.R e W base ok v xs) (hg : ∀ k, ok k → k ≠ g) (y0 y1 y2 y3 y4 y5 : Value) : d.R e (set6 W g y0 y1 y2 y3 y4 y5) base ok v xs :=
  Kd.R_far (Kd.R_far (Kd.R_far (Kd.R_far (Kd.R_far (Kd.R_far h hg y0) hg y1) hg y2) hg y3) hg y4) hg y5
/-- What gatewardenref14.Of tells. -/
def OfTold (w : World) (c u a0 a1 a2 a3 a4 : Int) (A : Option Addr) (cc : Nat) (l : List Int) (e : Ending) (w' : World) : Prop :=
  (∃ v3, e = .returned (.agg #[.int .i64 c, .int .i64 u, .int .i64 a0, v3, .slice A l.length cc, if a0 = 6 ∨ a0 = 16 ∨ a0 = 23 then .slice A l.length cc else .slice none 0 0]) ∧ Kd.R k74 74 w' w.heap.size (fun _ => True) v3 (sp a1 a2 a3 a4)) ∧ Below w.heap.size w w'
theorem rof14_calls (c u a0 a1 a2 a3 a4 : Int) (A : Option Addr) (cc : Nat) (l : List Int) (w : World) (he : Fact.Ends a1 a2 a3 a4) :
    Calls Try.prog 43 #[.int .i64 c, .int .i64 u, .agg #[.int .i64 a0, .int .i64 a1, .int .i64 a2, .int .i64 a3, .int .i64 a4, .slice A l.length cc]] w (OfTold w c u a0 a1 a2 a3 a4 A cc l) := by
  obtain ⟨T, hT⟩ : ∃ T, T = OfTold w c u a0 a1 a2 a3 a4 A cc l := ⟨_, rfl⟩
  have HT := Aside0.mk hT
  rw [← hT]
  clear hT
  have HE := Aside0.mk he
  obtain ⟨⟨p1, p2, p3, p4⟩, ⟨q1, q2, q3, q4⟩, hor⟩ := he
  have hw1 : wrap64 (a1 + a2) = a1 + a2 := w64 (by omega) (by omega)
  have hw2 : wrap64 (a3 + a4) = a3 + a4 := w64 (by omega) (by omega)
  have hw3 : wrap64 (a1 + a2 - 1) = a1 + a2 - 1 := w64 (by omega) (by omega)
  have hw4 : wrap64 (a3 + a4 - 1) = a3 + a4 - 1 := w64 (by omega) (by omega)
  have HP := Aside0.mk (And.intro p3 q3)
  clear p1 p2 p4 q1 q2 q4
  by_cases h2 : a2 > 0
  · have h2' : decide (a2 > 0) = true := decide_eq_true h2
    by_cases h4 : a4 > 0
    · have h4' : decide (a4 > 0) = true := decide_eq_true h4
      have HSP := Aside0.mk (show sp a1 a2 a3 a4 = ([] ++ [⟨a1, a1 + a2 - 1⟩]) ++ [⟨a3, a3 + a4 - 1⟩] by unfold sp; rw [if_neg (by omega), if_neg (by omega)]; rfl)
      go_enter Try.func43, Try.ntmps43
      go_upto_region 2 with (fail)
      obtain ⟨V, hV, hB, K5, K6, K7⟩ := boxes3 w (.cells #[.int .i64 a0, .int .i64 a1, .int .i64 a2, .int .i64 a3, .int .i64 a4, .slice A l.length cc] 47) (.cells #[.int .i64 0, .int .i64 0, .int .i64 0, .slice none 0 0, .slice none 0 0, .slice none 0 0] 51) (.cells #[.int .i64 c, .int .i64 u, .int .i64 a0, .slice none 0 0, .slice A l.length cc, .slice none 0 0] 51)
      rw [← hV]
      clear hV
      have HR : Aside0 (Kd.R k74 74 V w.heap.size (fun k => w.heap.size + 3 ≤ k) (.slice none 0 0) []) := ⟨Kd.R_nil _ _ _ _ _⟩
      have HB := Aside0.mk hB
      have HK5 := Aside0.mk K5
      have HK6 := Aside0.mk K6
      have HK7 := Aside0.mk K7
      clear K5 K6 K7 hB
      have k1 : V.cell? ⟨w.heap.size, 1, none⟩ = some (.int .i64 a1) := blk_cell HK5.out 1
      have k2 : V.cell? ⟨w.heap.size, 2, none⟩ = some (.int .i64 a2) := blk_cell HK5.out 2
      have k3 : V.cell? ⟨w.heap.size, 3, none⟩ = some (.int .i64 a3) := blk_cell HK5.out 3
      have k4 : V.cell? ⟨w.heap.size, 4, none⟩ = some (.int .i64 a4) := blk_cell HK5.out 4
      have m3 : V.cell? ⟨w.heap.size + 1 + 1, 3, none⟩ = some (.slice none 0 0) := blk_cell HK7.out 3
      have f3 := blk_frozen HK7.out 3
      have b5 := blk_lt HK5.out
      have b6 := blk_lt HK6.out
      have b7 := blk_lt HK7.out
      go_upto_region 4 with ((with_reducible refine gate_builtin (b := .append) (xs := #[.tmp 19, .tmp 29]) rfl ?_); at_builtin; refine Kd.R_append k74 (w0 := w) w.heap.size rfl (.tmp 19) (.tmp 29) 49 74 (.agg #[(.int .i64 0), (.int .i64 0)]) 16 rfl Try.underlying49 info74 rfl (by decide) (by omega) (.slice none 0 0) [] (⟨a1, a1 + a2 - 1⟩ : S74) [.int .i64 (a1), .int .i64 (a1 + a2 - 1)] (fun k => w.heap.size + 3 ≤ k) (fun _ => False) rfl rfl (k74_mkM _ _ _ ⟨a1, a1 + a2 - 1⟩) (fun _ hk => hk.elim) (fun k hk => by omega) HR.out HB.out HB.out.size (by simp) ?_; intro v1 w1 ho hb hg _; have HO := Aside0.mk ho; have HB1 := Aside0.mk hb; have HG := Aside0.mk hg; clear ho hb hg; obtain ⟨Aa, cAa, rfl⟩ := Kd.R_slice HO.out; have G5 := Aside0.mk (blk_grown HK5.out HG.out (Kd.R_away HR.out (fun k hk => by omega))); have G6 := Aside0.mk (blk_grown HK6.out HG.out (Kd.R_away HR.out (fun k hk => by omega))); have G7 := Aside0.mk (blk_grown HK7.out HG.out (Kd.R_away HR.out (fun k hk => by omega))); have n3 : w1.cell? ⟨w.heap.size + 1 + 1, 3, none⟩ = some (.slice none 0 0) := blk_cell G7.out 3; have h3 := blk_frozen G7.out 3)
      clear m3 f3 k1 k2 k3 k4 b5 b6 b7
      obtain ⟨V1, hV1⟩ : ∃ X9 : World, X9 = w1.setCell ⟨w.heap.size + 1 + 1, 3, none⟩ (.slice Aa 1 cAa) := ⟨_, rfl⟩
      have J5 : V1.heap[w.heap.size]? = some (.cells #[.int .i64 a0, .int .i64 a1, .int .i64 a2, .int .i64 a3, .int .i64 a4, .slice A l.length cc] 47) := by rw [hV1]; exact blk_far G5.out (by show w.heap.size ≠ w.heap.size + 1 + 1; omega) _
      have J6 : V1.heap[w.heap.size + 1]? = some (.cells #[.int .i64 0, .int .i64 0, .int .i64 0, .slice none 0 0, .slice none 0 0, .slice none 0 0] 51) := by rw [hV1]; exact blk_far G6.out (by show w.heap.size + 1 ≠ w.heap.size + 1 + 1; omega) _
      have J7 : V1.heap[w.heap.size + 1 + 1]? = some (.cells #[.int .i64 c, .int .i64 u, .int .i64 a0, .slice Aa 1 cAa, .slice A l.length cc, .slice none 0 0] 51) := by rw [hV1]; exact blk_put G7.out 3 _ rfl
      have JB : Below w.heap.size w V1 := by rw [hV1]; exact HB1.out.setCell (p := ⟨w.heap.size + 1 + 1, 3, none⟩) (by show w.heap.size ≤ w.heap.size + 1 + 1; omega) _
      have JR : Kd.R k74 74 V1 w.heap.size (fun k => w.heap.size + 3 ≤ k) (.slice Aa 1 cAa) ([] ++ [⟨a1, a1 + a2 - 1⟩]) := by rw [hV1]; exact Kd.R_far HO.out (fun k hk => by show k ≠ w.heap.size + 1 + 1; omega) _
      rw [← hV1]
      clear hV1 n3 h3 HO HB1 HG HK5 HK6 HK7 HB HR G5 G6 G7
      have HK5 := Aside0.mk J5
      have HK6 := Aside0.mk J6
      have HK7 := Aside0.mk J7
      have HB := Aside0.mk JB
      have HR := Aside0.mk JR
      clear J5 J6 J7 JB JR
      have k1 : V1.cell? ⟨w.heap.size, 1, none⟩ = some (.int .i64 a1) := blk_cell HK5.out 1
      have k2 : V1.cell? ⟨w.heap.size, 2, none⟩ = some (.int .i64 a2) := blk_cell HK5.out 2
      have k3 : V1.cell? ⟨w.heap.size, 3, none⟩ = some (.int .i64 a3) := blk_cell HK5.out 3
      have k4 : V1.cell? ⟨w.heap.size, 4, none⟩ = some (.int .i64 a4) := blk_cell HK5.out 4
      have m3 : V1.cell? ⟨w.heap.size + 1 + 1, 3, none⟩ = some (.slice Aa 1 cAa) := blk_cell HK7.out 3
      have f3 := blk_frozen HK7.out 3
      have b5 := blk_lt HK5.out
      have b6 := blk_lt HK6.out
      have b7 := blk_lt HK7.out
      go_upto_region 6 with ((with_reducible refine gate_builtin (b := .append) (xs := #[.tmp 36, .tmp 46]) rfl ?_); at_builtin; refine Kd.R_append k74 (w0 := w) w.heap.size rfl (.tmp 36) (.tmp 46) 49 74 (.agg #[(.int .i64 0), (.int .i64 0)]) 16 rfl Try.underlying49 info74 rfl (by decide) (by omega) (.slice Aa 1 cAa) ([] ++ [⟨a1, a1 + a2 - 1⟩]) (⟨a3, a3 + a4 - 1⟩ : S74) [.int .i64 (a3), .int .i64 (a3 + a4 - 1)] (fun k => w.heap.size + 3 ≤ k) (fun _ => False) rfl rfl (k74_mkM _ _ _ ⟨a3, a3 + a4 - 1⟩) (fun _ hk => hk.elim) (fun k hk => by omega) HR.out HB.out HB.out.size (by simp) ?_; intro v1 w2 ho hb hg _; have HO := Aside0.mk ho; have HB1 := Aside0.mk hb; have HG := Aside0.mk hg; clear ho hb hg; obtain ⟨Ab, cAb, rfl⟩ := Kd.R_slice HO.out; have G5 := Aside0.mk (blk_grown HK5.out HG.out (Kd.R_away HR.out (fun k hk => by omega))); have G6 := Aside0.mk (blk_grown HK6.out HG.out (Kd.R_away HR.out (fun k hk => by omega))); have G7 := Aside0.mk (blk_grown HK7.out HG.out (Kd.R_away HR.out (fun k hk => by omega))); have n3 : w2.cell? ⟨w.heap.size + 1 + 1, 3, none⟩ = some (.slice Aa 1 cAa) := blk_cell G7.out 3; have h3 := blk_frozen G7.out 3)
      clear m3 f3 k1 k2 k3 k4 b5 b6 b7
      obtain ⟨V2, hV1⟩ : ∃ X9 : World, X9 = w2.setCell ⟨w.heap.size + 1 + 1, 3, none⟩ (.slice Ab 2 cAb) := ⟨_, rfl⟩
      have J5 : V2.heap[w.heap.size]? = some (.cells #[.int .i64 a0, .int .i64 a1, .int .i64 a2, .int .i64 a3, .int .i64 a4, .slice A l.length cc] 47) := by rw [hV1]; exact blk_far G5.out (by show w.heap.size ≠ w.heap.size + 1 + 1; omega) _
      have J6 : V2.heap[w.heap.size + 1]? = some (.cells #[.int .i64 0, .int .i64 0, .int .i64 0, .slice none 0 0, .slice none 0 0, .slice none 0 0] 51) := by rw [hV1]; exact blk_far G6.out (by show w.heap.size + 1 ≠ w.heap.size + 1 + 1; omega) _
      have J7 : V2.heap[w.heap.size + 1 + 1]? = some (.cells #[.int .i64 c, .int .i64 u, .int .i64 a0, .slice Ab 2 cAb, .slice A l.length cc, .slice none 0 0] 51) := by rw [hV1]; exact blk_put G7.out 3 _ rfl
      have JB : Below w.heap.size w V2 := by rw [hV1]; exact HB1.out.setCell (p := ⟨w.heap.size + 1 + 1, 3, none⟩) (by show w.heap.size ≤ w.heap.size + 1 + 1; omega) _
      have JR : Kd.R k74 74 V2 w.heap.size (fun k => w.heap.size + 3 ≤ k) (.slice Ab 2 cAb) (([] ++ [⟨a1, a1 + a2 - 1⟩]) ++ [⟨a3, a3 + a4 - 1⟩]) := by rw [hV1]; exact Kd.R_far HO.out (fun k hk => by show k ≠ w.heap.size + 1 + 1; omega) _
      rw [← hV1]
      clear hV1 n3 h3 HO HB1 HG HK5 HK6 HK7 HB HR G5 G6 G7
      have HK5 := Aside0.mk J5
      have HK6 := Aside0.mk J6
      have HK7 := Aside0.mk J7
      have HB := Aside0.mk JB
      have HR := Aside0.mk JR
      clear J5 J6 J7 JB JR
      have k0 : V2.cell? ⟨w.heap.size, 0, none⟩ = some (.int .i64 a0) := blk_cell HK5.out 0
      have k5 : V2.cell? ⟨w.heap.size, 5, none⟩ = some (.slice A l.length cc) := blk_cell HK5.out 5
      have n5 : V2.cell? ⟨w.heap.size + 1 + 1, 5, none⟩ = some (.slice none 0 0) := blk_cell HK7.out 5
      have f5 := blk_frozen HK7.out 5
      by_cases h6 : a0 = 6 ∨ a0 = 16 ∨ a0 = 23
      · rcases h6 with rfl | rfl | rfl
        · go_upto_region 8 with (fail)
          obtain ⟨V9, hV2⟩ : ∃ X9 : World, X9 = V2.setCell ⟨w.heap.size + 1 + 1, 5, none⟩ (.slice A l.length cc) := ⟨_, rfl⟩
          have L7 := blk_put HK7.out 5 (.slice A l.length cc) rfl
          have L6 := blk_far HK6.out (p := ⟨w.heap.size + 1 + 1, 5, none⟩) (by show w.heap.size + 1 ≠ w.heap.size + 1 + 1; omega) (.slice A l.length cc)
          have LB := HB.out.setCell (p := ⟨w.heap.size + 1 + 1, 5, none⟩) (by show w.heap.size ≤ w.heap.size + 1 + 1; omega) (.slice A l.length cc)
          have LR := Kd.R_far HR.out (p := ⟨w.heap.size + 1 + 1, 5, none⟩) (fun k hk => by show k ≠ w.heap.size + 1 + 1; omega) (.slice A l.length cc)
          rw [← hV2] at L7 L6 LB LR ⊢
          clear hV2 k0 k5 n5 f5 HK5 HK6 HK7 HB HR
          have m0 : V9.cell? ⟨w.heap.size + 1 + 1, 0, none⟩ = some (.int .i64 c) := blk_cell L7 0
          have m1 : V9.cell? ⟨w.heap.size + 1 + 1, 1, none⟩ = some (.int .i64 u) := blk_cell L7 1
          have m2 : V9.cell? ⟨w.heap.size + 1 + 1, 2, none⟩ = some (.int .i64 6) := blk_cell L7 2
          have m3 : V9.cell? ⟨w.heap.size + 1 + 1, 3, none⟩ = some (.slice Ab 2 cAb) := blk_cell L7 3
          have m4 : V9.cell? ⟨w.heap.size + 1 + 1, 4, none⟩ = some (.slice A l.length cc) := blk_cell L7 4
          have m5 : V9.cell? ⟨w.heap.size + 1 + 1, 5, none⟩ = some (.slice A l.length cc) := blk_cell L7 5
          have d0 : V9.cell? ⟨w.heap.size + 1, 0, none⟩ = some (.int .i64 0) := blk_cell L6 0
          have d1 : V9.cell? ⟨w.heap.size + 1, 1, none⟩ = some (.int .i64 0) := blk_cell L6 1
          have d2 : V9.cell? ⟨w.heap.size + 1, 2, none⟩ = some (.int .i64 0) := blk_cell L6 2
          have d3 : V9.cell? ⟨w.heap.size + 1, 3, none⟩ = some (.slice none 0 0) := blk_cell L6 3
          have d4 : V9.cell? ⟨w.heap.size + 1, 4, none⟩ = some (.slice none 0 0) := blk_cell L6 4
          have d5 : V9.cell? ⟨w.heap.size + 1, 5, none⟩ = some (.slice none 0 0) := blk_cell L6 5
          have e0 := blk_frozen L6 0
          have e1 := blk_frozen L6 1
          have e2 := blk_frozen L6 2
          have e3 := blk_frozen L6 3
          have e4 := blk_frozen L6 4
          have e5 := blk_frozen L6 5
          go_wp2_with fail
          refine bodyPost_ret (results_cell_row rfl _ _ (w.heap.size + 1) 51 #[.int .i64 c, .int .i64 u, .int .i64 6, .slice Ab 2 cAb, .slice A l.length cc, .slice A l.length cc] (0, 0) _ rfl (put6 L6 _ _ _ _ _ _) Try.underlying51 rfl (by kernel_rfl)) rfl ?_
          rw [HT.out]
          refine ⟨⟨.slice Ab 2 cAb, by rw [if_pos (by simp)], ?_⟩, below6 LB (by omega) _ _ _ _ _ _⟩
          rw [HSP.out]
          exact Kd.R_mono (row6 LR (fun k hk => by omega) _ _ _ _ _ _) (fun _ _ => trivial)
        · go_upto_region 8 with (fail)
          obtain ⟨V9, hV2⟩ : ∃ X9 : World, X9 = V2.setCell ⟨w.heap.size + 1 + 1, 5, none⟩ (.slice A l.length cc) := ⟨_, rfl⟩
          have L7 := blk_put HK7.out 5 (.slice A l.length cc) rfl
          have L6 := blk_far HK6.out (p := ⟨w.heap.size + 1 + 1, 5, none⟩) (by show w.heap.size + 1 ≠ w.heap.size + 1 + 1; omega) (.slice A l.length cc)
          have LB := HB.out.setCell (p := ⟨w.heap.size + 1 + 1, 5, none⟩) (by show w.heap.size ≤ w.heap.size + 1 + 1; omega) (.slice A l.length cc)
          have LR := Kd.R_far HR.out (p := ⟨w.heap.size + 1 + 1, 5, none⟩) (fun k hk => by show k ≠ w.heap.size + 1 + 1; omega) (.slice A l.length cc)
          rw [← hV2] at L7 L6 LB LR ⊢
          clear hV2 k0 k5 n5 f5 HK5 HK6 HK7 HB HR
          have m0 : V9.cell? ⟨w.heap.size + 1 + 1, 0, none⟩ = some (.int .i64 c) := blk_cell L7 0
          have m1 : V9.cell? ⟨w.heap.size + 1 + 1, 1, none⟩ = some (.int .i64 u) := blk_cell L7 1
          have m2 : V9.cell? ⟨w.heap.size + 1 + 1, 2, none⟩ = some (.int .i64 16) := blk_cell L7 2
          have m3 : V9.cell? ⟨w.heap.size + 1 + 1, 3, none⟩ = some (.slice Ab 2 cAb) := blk_cell L7 3
          have m4 : V9.cell? ⟨w.heap.size + 1 + 1, 4, none⟩ = some (.slice A l.length cc) := blk_cell L7 4
          have m5 : V9.cell? ⟨w.heap.size + 1 + 1, 5, none⟩ = some (.slice A l.length cc) := blk_cell L7 5
          have d0 : V9.cell? ⟨w.heap.size + 1, 0, none⟩ = some (.int .i64 0) := blk_cell L6 0
          have d1 : V9.cell? ⟨w.heap.size + 1, 1, none⟩ = some (.int .i64 0) := blk_cell L6 1
          have d2 : V9.cell? ⟨w.heap.size + 1, 2, none⟩ = some (.int .i64 0) := blk_cell L6 2
          have d3 : V9.cell? ⟨w.heap.size + 1, 3, none⟩ = some (.slice none 0 0) := blk_cell L6 3
          have d4 : V9.cell? ⟨w.heap.size + 1, 4, none⟩ = some (.slice none 0 0) := blk_cell L6 4
          have d5 : V9.cell? ⟨w.heap.size + 1, 5, none⟩ = some (.slice none 0 0) := blk_cell L6 5
          have e0 := blk_frozen L6 0
          have e1 := blk_frozen L6 1
          have e2 := blk_frozen L6 2
          have e3 := blk_frozen L6 3
          have e4 := blk_frozen L6 4
          have e5 := blk_frozen L6 5
          go_wp2_with fail
          refine bodyPost_ret (results_cell_row rfl _ _ (w.heap.size + 1) 51 #[.int .i64 c, .int .i64 u, .int .i64 16, .slice Ab 2 cAb, .slice A l.length cc, .slice A l.length cc] (0, 0) _ rfl (put6 L6 _ _ _ _ _ _) Try.underlying51 rfl (by kernel_rfl)) rfl ?_
          rw [HT.out]
          refine ⟨⟨.slice Ab 2 cAb, by rw [if_pos (by simp)], ?_⟩, below6 LB (by omega) _ _ _ _ _ _⟩
          rw [HSP.out]
          exact Kd.R_mono (row6 LR (fun k hk => by omega) _ _ _ _ _ _) (fun _ _ => trivial)
        · go_upto_region 8 with (fail)
          obtain ⟨V9, hV2⟩ : ∃ X9 : World, X9 = V2.setCell ⟨w.heap.size + 1 + 1, 5, none⟩ (.slice A l.length cc) := ⟨_, rfl⟩
          have L7 := blk_put HK7.out 5 (.slice A l.length cc) rfl
          have L6 := blk_far HK6.out (p := ⟨w.heap.size + 1 + 1, 5, none⟩) (by show w.heap.size + 1 ≠ w.heap.size + 1 + 1; omega) (.slice A l.length cc)
          have LB := HB.out.setCell (p := ⟨w.heap.size + 1 + 1, 5, none⟩) (by show w.heap.size ≤ w.heap.size + 1 + 1; omega) (.slice A l.length cc)
          have LR := Kd.R_far HR.out (p := ⟨w.heap.size + 1 + 1, 5, none⟩) (fun k hk => by show k ≠ w.heap.size + 1 + 1; omega) (.slice A l.length cc)
          rw [← hV2] at L7 L6 LB LR ⊢
          clear hV2 k0 k5 n5 f5 HK5 HK6 HK7 HB HR
          have m0 : V9.cell? ⟨w.heap.size + 1 + 1, 0, none⟩ = some (.int .i64 c) := blk_cell L7 0
          have m1 : V9.cell? ⟨w.heap.size + 1 + 1, 1, none⟩ = some (.int .i64 u) := blk_cell L7 1
          have m2 : V9.cell? ⟨w.heap.size + 1 + 1, 2, none⟩ = some (.int .i64 23) := blk_cell L7 2
          have m3 : V9.cell? ⟨w.heap.size + 1 + 1, 3, none⟩ = some (.slice Ab 2 cAb) := blk_cell L7 3
          have m4 : V9.cell? ⟨w.heap.size + 1 + 1, 4, none⟩ = some (.slice A l.length cc) := blk_cell L7 4
          have m5 : V9.cell? ⟨w.heap.size + 1 + 1, 5, none⟩ = some (.slice A l.length cc) := blk_cell L7 5
          have d0 : V9.cell? ⟨w.heap.size + 1, 0, none⟩ = some (.int .i64 0) := blk_cell L6 0
          have d1 : V9.cell? ⟨w.heap.size + 1, 1, none⟩ = some (.int .i64 0) := blk_cell L6 1
          have d2 : V9.cell? ⟨w.heap.size + 1, 2, none⟩ = some (.int .i64 0) := blk_cell L6 2
          have d3 : V9.cell? ⟨w.heap.size + 1, 3, none⟩ = some (.slice none 0 0) := blk_cell L6 3
          have d4 : V9.cell? ⟨w.heap.size + 1, 4, none⟩ = some (.slice none 0 0) := blk_cell L6 4
          have d5 : V9.cell? ⟨w.heap.size + 1, 5, none⟩ = some (.slice none 0 0) := blk_cell L6 5
          have e0 := blk_frozen L6 0
          have e1 := blk_frozen L6 1
          have e2 := blk_frozen L6 2
          have e3 := blk_frozen L6 3
          have e4 := blk_frozen L6 4
          have e5 := blk_frozen L6 5
          go_wp2_with fail
          refine bodyPost_ret (results_cell_row rfl _ _ (w.heap.size + 1) 51 #[.int .i64 c, .int .i64 u, .int .i64 23, .slice Ab 2 cAb, .slice A l.length cc, .slice A l.length cc] (0, 0) _ rfl (put6 L6 _ _ _ _ _ _) Try.underlying51 rfl (by kernel_rfl)) rfl ?_
          rw [HT.out]
          refine ⟨⟨.slice Ab 2 cAb, by rw [if_pos (by simp)], ?_⟩, below6 LB (by omega) _ _ _ _ _ _⟩
          rw [HSP.out]
          exact Kd.R_mono (row6 LR (fun k hk => by omega) _ _ _ _ _ _) (fun _ _ => trivial)
      · have g1 : (a0 == 6) = false := by simp; omega
        have g2 : (a0 == 16) = false := by simp; omega
        have g3 : (a0 == 23) = false := by simp; omega
        go_upto_region 8 with (fail)
        clear n5
        have m0 : V2.cell? ⟨w.heap.size + 1 + 1, 0, none⟩ = some (.int .i64 c) := blk_cell HK7.out 0
        have m1 : V2.cell? ⟨w.heap.size + 1 + 1, 1, none⟩ = some (.int .i64 u) := blk_cell HK7.out 1
        have m2 : V2.cell? ⟨w.heap.size + 1 + 1, 2, none⟩ = some (.int .i64 a0) := blk_cell HK7.out 2
        have m3 : V2.cell? ⟨w.heap.size + 1 + 1, 3, none⟩ = some (.slice Ab 2 cAb) := blk_cell HK7.out 3
        have m4 : V2.cell? ⟨w.heap.size + 1 + 1, 4, none⟩ = some (.slice A l.length cc) := blk_cell HK7.out 4
        have m5 : V2.cell? ⟨w.heap.size + 1 + 1, 5, none⟩ = some (.slice none 0 0) := blk_cell HK7.out 5
        have d0 : V2.cell? ⟨w.heap.size + 1, 0, none⟩ = some (.int .i64 0) := blk_cell HK6.out 0
        have d1 : V2.cell? ⟨w.heap.size + 1, 1, none⟩ = some (.int .i64 0) := blk_cell HK6.out 1
        have d2 : V2.cell? ⟨w.heap.size + 1, 2, none⟩ = some (.int .i64 0) := blk_cell HK6.out 2
        have d3 : V2.cell? ⟨w.heap.size + 1, 3, none⟩ = some (.slice none 0 0) := blk_cell HK6.out 3
        have d4 : V2.cell? ⟨w.heap.size + 1, 4, none⟩ = some (.slice none 0 0) := blk_cell HK6.out 4
        have d5 : V2.cell? ⟨w.heap.size + 1, 5, none⟩ = some (.slice none 0 0) := blk_cell HK6.out 5
        have e0 := blk_frozen HK6.out 0
        have e1 := blk_frozen HK6.out 1
        have e2 := blk_frozen HK6.out 2
        have e3 := blk_frozen HK6.out 3
        have e4 := blk_frozen HK6.out 4
        have e5 := blk_frozen HK6.out 5
        go_wp2_with fail
        refine bodyPost_ret (results_cell_row rfl _ _ (w.heap.size + 1) 51 #[.int .i64 c, .int .i64 u, .int .i64 a0, .slice Ab 2 cAb, .slice A l.length cc, .slice none 0 0] (0, 0) _ rfl (put6 HK6.out _ _ _ _ _ _) Try.underlying51 rfl (by kernel_rfl)) rfl ?_
        rw [HT.out]
        refine ⟨⟨.slice Ab 2 cAb, by rw [if_neg h6], ?_⟩, below6 HB.out (by omega) _ _ _ _ _ _⟩
        rw [HSP.out]
        exact Kd.R_mono (row6 HR.out (fun k hk => by omega) _ _ _ _ _ _) (fun _ _ => trivial)
    · have h4' : decide (a4 > 0) = false := decide_eq_false h4
      have HSP := Aside0.mk (show sp a1 a2 a3 a4 = [] ++ [⟨a1, a1 + a2 - 1⟩] by unfold sp; rw [if_neg (by omega), if_pos (by omega)]; rfl)
      go_enter Try.func43, Try.ntmps43
      go_upto_region 2 with (fail)
      obtain ⟨V, hV, hB, K5, K6, K7⟩ := boxes3 w (.cells #[.int .i64 a0, .int .i64 a1, .int .i64 a2, .int .i64 a3, .int .i64 a4, .slice A l.length cc] 47) (.cells #[.int .i64 0, .int .i64 0, .int .i64 0, .slice none 0 0, .slice none 0 0, .slice none 0 0] 51) (.cells #[.int .i64 c, .int .i64 u, .int .i64 a0, .slice none 0 0, .slice A l.length cc, .slice none 0 0] 51)
      rw [← hV]
      clear hV
      have HR : Aside0 (Kd.R k74 74 V w.heap.size (fun k => w.heap.size + 3 ≤ k) (.slice none 0 0) []) := ⟨Kd.R_nil _ _ _ _ _⟩
      have HB := Aside0.mk hB
      have HK5 := Aside0.mk K5
      have HK6 := Aside0.mk K6
      have HK7 := Aside0.mk K7
      clear K5 K6 K7 hB
      have k1 : V.cell? ⟨w.heap.size, 1, none⟩ = some (.int .i64 a1) := blk_cell HK5.out 1
      have k2 : V.cell? ⟨w.heap.size, 2, none⟩ = some (.int .i64 a2) := blk_cell HK5.out 2
      have k3 : V.cell? ⟨w.heap.size, 3, none⟩ = some (.int .i64 a3) := blk_cell HK5.out 3
      have k4 : V.cell? ⟨w.heap.size, 4, none⟩ = some (.int .i64 a4) := blk_cell HK5.out 4
      have m3 : V.cell? ⟨w.heap.size + 1 + 1, 3, none⟩ = some (.slice none 0 0) := blk_cell HK7.out 3
      have f3 := blk_frozen HK7.out 3
      have b5 := blk_lt HK5.out
      have b6 := blk_lt HK6.out
      have b7 := blk_lt HK7.out
      go_upto_region 4 with ((with_reducible refine gate_builtin (b := .append) (xs := #[.tmp 19, .tmp 29]) rfl ?_); at_builtin; refine Kd.R_append k74 (w0 := w) w.heap.size rfl (.tmp 19) (.tmp 29) 49 74 (.agg #[(.int .i64 0), (.int .i64 0)]) 16 rfl Try.underlying49 info74 rfl (by decide) (by omega) (.slice none 0 0) [] (⟨a1, a1 + a2 - 1⟩ : S74) [.int .i64 (a1), .int .i64 (a1 + a2 - 1)] (fun k => w.heap.size + 3 ≤ k) (fun _ => False) rfl rfl (k74_mkM _ _ _ ⟨a1, a1 + a2 - 1⟩) (fun _ hk => hk.elim) (fun k hk => by omega) HR.out HB.out HB.out.size (by simp) ?_; intro v1 w1 ho hb hg _; have HO := Aside0.mk ho; have HB1 := Aside0.mk hb; have HG := Aside0.mk hg; clear ho hb hg; obtain ⟨Aa, cAa, rfl⟩ := Kd.R_slice HO.out; have G5 := Aside0.mk (blk_grown HK5.out HG.out (Kd.R_away HR.out (fun k hk => by omega))); have G6 := Aside0.mk (blk_grown HK6.out HG.out (Kd.R_away HR.out (fun k hk => by omega))); have G7 := Aside0.mk (blk_grown HK7.out HG.out (Kd.R_away HR.out (fun k hk => by omega))); have n3 : w1.cell? ⟨w.heap.size + 1 + 1, 3, none⟩ = some (.slice none 0 0) := blk_cell G7.out 3; have h3 := blk_frozen G7.out 3)
      clear m3 f3 k1 k2 k3 k4 b5 b6 b7
      obtain ⟨V1, hV1⟩ : ∃ X9 : World, X9 = w1.setCell ⟨w.heap.size + 1 + 1, 3, none⟩ (.slice Aa 1 cAa) := ⟨_, rfl⟩
      have J5 : V1.heap[w.heap.size]? = some (.cells #[.int .i64 a0, .int .i64 a1, .int .i64 a2, .int .i64 a3, .int .i64 a4, .slice A l.length cc] 47) := by rw [hV1]; exact blk_far G5.out (by show w.heap.size ≠ w.heap.size + 1 + 1; omega) _
      have J6 : V1.heap[w.heap.size + 1]? = some (.cells #[.int .i64 0, .int .i64 0, .int .i64 0, .slice none 0 0, .slice none 0 0, .slice none 0 0] 51) := by rw [hV1]; exact blk_far G6.out (by show w.heap.size + 1 ≠ w.heap.size + 1 + 1; omega) _
      have J7 : V1.heap[w.heap.size + 1 + 1]? = some (.cells #[.int .i64 c, .int .i64 u, .int .i64 a0, .slice Aa 1 cAa, .slice A l.length cc, .slice none 0 0] 51) := by rw [hV1]; exact blk_put G7.out 3 _ rfl
      have JB : Below w.heap.size w V1 := by rw [hV1]; exact HB1.out.setCell (p := ⟨w.heap.size + 1 + 1, 3, none⟩) (by show w.heap.size ≤ w.heap.size + 1 + 1; omega) _
      have JR : Kd.R k74 74 V1 w.heap.size (fun k => w.heap.size + 3 ≤ k) (.slice Aa 1 cAa) ([] ++ [⟨a1, a1 + a2 - 1⟩]) := by rw [hV1]; exact Kd.R_far HO.out (fun k hk => by show k ≠ w.heap.size + 1 + 1; omega) _
      rw [← hV1]
      clear hV1 n3 h3 HO HB1 HG HK5 HK6 HK7 HB HR G5 G6 G7
      have HK5 := Aside0.mk J5
      have HK6 := Aside0.mk J6
      have HK7 := Aside0.mk J7
      have HB := Aside0.mk JB
      have HR := Aside0.mk JR
      clear J5 J6 J7 JB JR
      have k3 : V1.cell? ⟨w.heap.size, 3, none⟩ = some (.int .i64 a3) := blk_cell HK5.out 3
      have k4 : V1.cell? ⟨w.heap.size, 4, none⟩ = some (.int .i64 a4) := blk_cell HK5.out 4
      go_upto_region 6 with (fail)
      have k0 : V1.cell? ⟨w.heap.size, 0, none⟩ = some (.int .i64 a0) := blk_cell HK5.out 0
      have k5 : V1.cell? ⟨w.heap.size, 5, none⟩ = some (.slice A l.length cc) := blk_cell HK5.out 5
      have n5 : V1.cell? ⟨w.heap.size + 1 + 1, 5, none⟩ = some (.slice none 0 0) := blk_cell HK7.out 5
      have f5 := blk_frozen HK7.out 5
      by_cases h6 : a0 = 6 ∨ a0 = 16 ∨ a0 = 23
      · rcases h6 with rfl | rfl | rfl
        · go_upto_region 8 with (fail)
          obtain ⟨V9, hV2⟩ : ∃ X9 : World, X9 = V1.setCell ⟨w.heap.size + 1 + 1, 5, none⟩ (.slice A l.length cc) := ⟨_, rfl⟩
          have L7 := blk_put HK7.out 5 (.slice A l.length cc) rfl
          have L6 := blk_far HK6.out (p := ⟨w.heap.size + 1 + 1, 5, none⟩) (by show w.heap.size + 1 ≠ w.heap.size + 1 + 1; omega) (.slice A l.length cc)
          have LB := HB.out.setCell (p := ⟨w.heap.size + 1 + 1, 5, none⟩) (by show w.heap.size ≤ w.heap.size + 1 + 1; omega) (.slice A l.length cc)
          have LR := Kd.R_far HR.out (p := ⟨w.heap.size + 1 + 1, 5, none⟩) (fun k hk => by show k ≠ w.heap.size + 1 + 1; omega) (.slice A l.length cc)
          rw [← hV2] at L7 L6 LB LR ⊢
          clear hV2 k0 k5 n5 f5 HK5 HK6 HK7 HB HR
          have m0 : V9.cell? ⟨w.heap.size + 1 + 1, 0, none⟩ = some (.int .i64 c) := blk_cell L7 0
          have m1 : V9.cell? ⟨w.heap.size + 1 + 1, 1, none⟩ = some (.int .i64 u) := blk_cell L7 1
          have m2 : V9.cell? ⟨w.heap.size + 1 + 1, 2, none⟩ = some (.int .i64 6) := blk_cell L7 2
          have m3 : V9.cell? ⟨w.heap.size + 1 + 1, 3, none⟩ = some (.slice Aa 1 cAa) := blk_cell L7 3
          have m4 : V9.cell? ⟨w.heap.size + 1 + 1, 4, none⟩ = some (.slice A l.length cc) := blk_cell L7 4
          have m5 : V9.cell? ⟨w.heap.size + 1 + 1, 5, none⟩ = some (.slice A l.length cc) := blk_cell L7 5
          have d0 : V9.cell? ⟨w.heap.size + 1, 0, none⟩ = some (.int .i64 0) := blk_cell L6 0
          have d1 : V9.cell? ⟨w.heap.size + 1, 1, none⟩ = some (.int .i64 0) := blk_cell L6 1
          have d2 : V9.cell? ⟨w.heap.size + 1, 2, none⟩ = some (.int .i64 0) := blk_cell L6 2
          have d3 : V9.cell? ⟨w.heap.size + 1, 3, none⟩ = some (.slice none 0 0) := blk_cell L6 3
          have d4 : V9.cell? ⟨w.heap.size + 1, 4, none⟩ = some (.slice none 0 0) := blk_cell L6 4
          have d5 : V9.cell? ⟨w.heap.size + 1, 5, none⟩ = some (.slice none 0 0) := blk_cell L6 5
          have e0 := blk_frozen L6 0
          have e1 := blk_frozen L6 1
          have e2 := blk_frozen L6 2
          have e3 := blk_frozen L6 3
          have e4 := blk_frozen L6 4
          have e5 := blk_frozen L6 5
          go_wp2_with fail
          refine bodyPost_ret (results_cell_row rfl _ _ (w.heap.size + 1) 51 #[.int .i64 c, .int .i64 u, .int .i64 6, .slice Aa 1 cAa, .slice A l.length cc, .slice A l.length cc] (0, 0) _ rfl (put6 L6 _ _ _ _ _ _) Try.underlying51 rfl (by kernel_rfl)) rfl ?_
          rw [HT.out]
          refine ⟨⟨.slice Aa 1 cAa, by rw [if_pos (by simp)], ?_⟩, below6 LB (by omega) _ _ _ _ _ _⟩
          rw [HSP.out]
          exact Kd.R_mono (row6 LR (fun k hk => by omega) _ _ _ _ _ _) (fun _ _ => trivial)
        · go_upto_region 8 with (fail)
          obtain ⟨V9, hV2⟩ : ∃ X9 : World, X9 = V1.setCell ⟨w.heap.size + 1 + 1, 5, none⟩ (.slice A l.length cc) := ⟨_, rfl⟩
          have L7 := blk_put HK7.out 5 (.slice A l.length cc) rfl
          have L6 := blk_far HK6.out (p := ⟨w.heap.size + 1 + 1, 5, none⟩) (by show w.heap.size + 1 ≠ w.heap.size + 1 + 1; omega) (.slice A l.length cc)
          have LB := HB.out.setCell (p := ⟨w.heap.size + 1 + 1, 5, none⟩) (by show w.heap.size ≤ w.heap.size + 1 + 1; omega) (.slice A l.length cc)
          have LR := Kd.R_far HR.out (p := ⟨w.heap.size + 1 + 1, 5, none⟩) (fun k hk => by show k ≠ w.heap.size + 1 + 1; omega) (.slice A l.length cc)
          rw [← hV2] at L7 L6 LB LR ⊢
          clear hV2 k0 k5 n5 f5 HK5 HK6 HK7 HB HR
          have m0 : V9.cell? ⟨w.heap.size + 1 + 1, 0, none⟩ = some (.int .i64 c) := blk_cell L7 0
          have m1 : V9.cell? ⟨w.heap.size + 1 + 1, 1, none⟩ = some (.int .i64 u) := blk_cell L7 1
          have m2 : V9.cell? ⟨w.heap.size + 1 + 1, 2, none⟩ = some (.int .i64 16) := blk_cell L7 2
          have m3 : V9.cell? ⟨w.heap.size + 1 + 1, 3, none⟩ = some (.slice Aa 1 cAa) := blk_cell L7 3
          have m4 : V9.cell? ⟨w.heap.size + 1 + 1, 4, none⟩ = some (.slice A l.length cc) := blk_cell L7 4
          have m5 : V9.cell? ⟨w.heap.size + 1 + 1, 5, none⟩ = some (.slice A l.length cc) := blk_cell L7 5
          have d0 : V9.cell? ⟨w.heap.size + 1, 0, none⟩ = some (.int .i64 0) := blk_cell L6 0
          have d1 : V9.cell? ⟨w.heap.size + 1, 1, none⟩ = some (.int .i64 0) := blk_cell L6 1
          have d2 : V9.cell? ⟨w.heap.size + 1, 2, none⟩ = some (.int .i64 0) := blk_cell L6 2
          have d3 : V9.cell? ⟨w.heap.size + 1, 3, none⟩ = some (.slice none 0 0) := blk_cell L6 3
          have d4 : V9.cell? ⟨w.heap.size + 1, 4, none⟩ = some (.slice none 0 0) := blk_cell L6 4
          have d5 : V9.cell? ⟨w.heap.size + 1, 5, none⟩ = some (.slice none 0 0) := blk_cell L6 5
          have e0 := blk_frozen L6 0
          have e1 := blk_frozen L6 1
          have e2 := blk_frozen L6 2
          have e3 := blk_frozen L6 3
          have e4 := blk_frozen L6 4
          have e5 := blk_frozen L6 5
          go_wp2_with fail
          refine bodyPost_ret (results_cell_row rfl _ _ (w.heap.size + 1) 51 #[.int .i64 c, .int .i64 u, .int .i64 16, .slice Aa 1 cAa, .slice A l.length cc, .slice A l.length cc] (0, 0) _ rfl (put6 L6 _ _ _ _ _ _) Try.underlying51 rfl (by kernel_rfl)) rfl ?_
          rw [HT.out]
          refine ⟨⟨.slice Aa 1 cAa, by rw [if_pos (by simp)], ?_⟩, below6 LB (by omega) _ _ _ _ _ _⟩
          rw [HSP.out]
          exact Kd.R_mono (row6 LR (fun k hk => by omega) _ _ _ _ _ _) (fun _ _ => trivial)
        · go_upto_region 8 with (fail)
          obtain ⟨V9, hV2⟩ : ∃ X9 : World, X9 = V1.setCell ⟨w.heap.size + 1 + 1, 5, none⟩ (.slice A l.length cc) := ⟨_, rfl⟩
          have L7 := blk_put HK7.out 5 (.slice A l.length cc) rfl
          have L6 := blk_far HK6.out (p := ⟨w.heap.size + 1 + 1, 5, none⟩) (by show w.heap.size + 1 ≠ w.heap.size + 1 + 1; omega) (.slice A l.length cc)
          have LB := HB.out.setCell (p := ⟨w.heap.size + 1 + 1, 5, none⟩) (by show w.heap.size ≤ w.heap.size + 1 + 1; omega) (.slice A l.length cc)
          have LR := Kd.R_far HR.out (p := ⟨w.heap.size + 1 + 1, 5, none⟩) (fun k hk => by show k ≠ w.heap.size + 1 + 1; omega) (.slice A l.length cc)
          rw [← hV2] at L7 L6 LB LR ⊢
          clear hV2 k0 k5 n5 f5 HK5 HK6 HK7 HB HR
          have m0 : V9.cell? ⟨w.heap.size + 1 + 1, 0, none⟩ = some (.int .i64 c) := blk_cell L7 0
          have m1 : V9.cell? ⟨w.heap.size + 1 + 1, 1, none⟩ = some (.int .i64 u) := blk_cell L7 1
          have m2 : V9.cell? ⟨w.heap.size + 1 + 1, 2, none⟩ = some (.int .i64 23) := blk_cell L7 2
          have m3 : V9.cell? ⟨w.heap.size + 1 + 1, 3, none⟩ = some (.slice Aa 1 cAa) := blk_cell L7 3
          have m4 : V9.cell? ⟨w.heap.size + 1 + 1, 4, none⟩ = some (.slice A l.length cc) := blk_cell L7 4
          have m5 : V9.cell? ⟨w.heap.size + 1 + 1, 5, none⟩ = some (.slice A l.length cc) := blk_cell L7 5
          have d0 : V9.cell? ⟨w.heap.size + 1, 0, none⟩ = some (.int .i64 0) := blk_cell L6 0
          have d1 : V9.cell? ⟨w.heap.size + 1, 1, none⟩ = some (.int .i64 0) := blk_cell L6 1
          have d2 : V9.cell? ⟨w.heap.size + 1, 2, none⟩ = some (.int .i64 0) := blk_cell L6 2
          have d3 : V9.cell? ⟨w.heap.size + 1, 3, none⟩ = some (.slice none 0 0) := blk_cell L6 3
          have d4 : V9.cell? ⟨w.heap.size + 1, 4, none⟩ = some (.slice none 0 0) := blk_cell L6 4
          have d5 : V9.cell? ⟨w.heap.size + 1, 5, none⟩ = some (.slice none 0 0) := blk_cell L6 5
          have e0 := blk_frozen L6 0
          have e1 := blk_frozen L6 1
          have e2 := blk_frozen L6 2
          have e3 := blk_frozen L6 3
          have e4 := blk_frozen L6 4
          have e5 := blk_frozen L6 5
          go_wp2_with fail
          refine bodyPost_ret (results_cell_row rfl _ _ (w.heap.size + 1) 51 #[.int .i64 c, .int .i64 u, .int .i64 23, .slice Aa 1 cAa, .slice A l.length cc, .slice A l.length cc] (0, 0) _ rfl (put6 L6 _ _ _ _ _ _) Try.underlying51 rfl (by kernel_rfl)) rfl ?_
          rw [HT.out]
          refine ⟨⟨.slice Aa 1 cAa, by rw [if_pos (by simp)], ?_⟩, below6 LB (by omega) _ _ _ _ _ _⟩
          rw [HSP.out]
          exact Kd.R_mono (row6 LR (fun k hk => by omega) _ _ _ _ _ _) (fun _ _ => trivial)
      · have g1 : (a0 == 6) = false := by simp; omega
        have g2 : (a0 == 16) = false := by simp; omega
        have g3 : (a0 == 23) = false := by simp; omega
        go_upto_region 8 with (fail)
        clear n5
        have m0 : V1.cell? ⟨w.heap.size + 1 + 1, 0, none⟩ = some (.int .i64 c) := blk_cell HK7.out 0
        have m1 : V1.cell? ⟨w.heap.size + 1 + 1, 1, none⟩ = some (.int .i64 u) := blk_cell HK7.out 1
        have m2 : V1.cell? ⟨w.heap.size + 1 + 1, 2, none⟩ = some (.int .i64 a0) := blk_cell HK7.out 2
        have m3 : V1.cell? ⟨w.heap.size + 1 + 1, 3, none⟩ = some (.slice Aa 1 cAa) := blk_cell HK7.out 3
        have m4 : V1.cell? ⟨w.heap.size + 1 + 1, 4, none⟩ = some (.slice A l.length cc) := blk_cell HK7.out 4
        have m5 : V1.cell? ⟨w.heap.size + 1 + 1, 5, none⟩ = some (.slice none 0 0) := blk_cell HK7.out 5
        have d0 : V1.cell? ⟨w.heap.size + 1, 0, none⟩ = some (.int .i64 0) := blk_cell HK6.out 0
        have d1 : V1.cell? ⟨w.heap.size + 1, 1, none⟩ = some (.int .i64 0) := blk_cell HK6.out 1
        have d2 : V1.cell? ⟨w.heap.size + 1, 2, none⟩ = some (.int .i64 0) := blk_cell HK6.out 2
        have d3 : V1.cell? ⟨w.heap.size + 1, 3, none⟩ = some (.slice none 0 0) := blk_cell HK6.out 3
        have d4 : V1.cell? ⟨w.heap.size + 1, 4, none⟩ = some (.slice none 0 0) := blk_cell HK6.out 4
        have d5 : V1.cell? ⟨w.heap.size + 1, 5, none⟩ = some (.slice none 0 0) := blk_cell HK6.out 5
        have e0 := blk_frozen HK6.out 0
        have e1 := blk_frozen HK6.out 1
        have e2 := blk_frozen HK6.out 2
        have e3 := blk_frozen HK6.out 3
        have e4 := blk_frozen HK6.out 4
        have e5 := blk_frozen HK6.out 5
        go_wp2_with fail
        refine bodyPost_ret (results_cell_row rfl _ _ (w.heap.size + 1) 51 #[.int .i64 c, .int .i64 u, .int .i64 a0, .slice Aa 1 cAa, .slice A l.length cc, .slice none 0 0] (0, 0) _ rfl (put6 HK6.out _ _ _ _ _ _) Try.underlying51 rfl (by kernel_rfl)) rfl ?_
        rw [HT.out]
        refine ⟨⟨.slice Aa 1 cAa, by rw [if_neg h6], ?_⟩, below6 HB.out (by omega) _ _ _ _ _ _⟩
        rw [HSP.out]
        exact Kd.R_mono (row6 HR.out (fun k hk => by omega) _ _ _ _ _ _) (fun _ _ => trivial)
  · have h2' : decide (a2 > 0) = false := decide_eq_false h2
    by_cases h4 : a4 > 0
    · have h4' : decide (a4 > 0) = true := decide_eq_true h4
      have HSP := Aside0.mk (show sp a1 a2 a3 a4 = [] ++ [⟨a3, a3 + a4 - 1⟩] by unfold sp; rw [if_pos (by omega), if_neg (by omega)])
      go_enter Try.func43, Try.ntmps43
      go_upto_region 2 with (fail)
      obtain ⟨V, hV, hB, K5, K6, K7⟩ := boxes3 w (.cells #[.int .i64 a0, .int .i64 a1, .int .i64 a2, .int .i64 a3, .int .i64 a4, .slice A l.length cc] 47) (.cells #[.int .i64 0, .int .i64 0, .int .i64 0, .slice none 0 0, .slice none 0 0, .slice none 0 0] 51) (.cells #[.int .i64 c, .int .i64 u, .int .i64 a0, .slice none 0 0, .slice A l.length cc, .slice none 0 0] 51)
      rw [← hV]
      clear hV
      have HR : Aside0 (Kd.R k74 74 V w.heap.size (fun k => w.heap.size + 3 ≤ k) (.slice none 0 0) []) := ⟨Kd.R_nil _ _ _ _ _⟩
      have HB := Aside0.mk hB
      have HK5 := Aside0.mk K5
      have HK6 := Aside0.mk K6
      have HK7 := Aside0.mk K7
      clear K5 K6 K7 hB
      have k1 : V.cell? ⟨w.heap.size, 1, none⟩ = some (.int .i64 a1) := blk_cell HK5.out 1
      have k2 : V.cell? ⟨w.heap.size, 2, none⟩ = some (.int .i64 a2) := blk_cell HK5.out 2
      have k3 : V.cell? ⟨w.heap.size, 3, none⟩ = some (.int .i64 a3) := blk_cell HK5.out 3
      have k4 : V.cell? ⟨w.heap.size, 4, none⟩ = some (.int .i64 a4) := blk_cell HK5.out 4
      have m3 : V.cell? ⟨w.heap.size + 1 + 1, 3, none⟩ = some (.slice none 0 0) := blk_cell HK7.out 3
      have f3 := blk_frozen HK7.out 3
      have b5 := blk_lt HK5.out
      have b6 := blk_lt HK6.out
      have b7 := blk_lt HK7.out
      go_upto_region 6 with ((with_reducible refine gate_builtin (b := .append) (xs := #[.tmp 36, .tmp 46]) rfl ?_); at_builtin; refine Kd.R_append k74 (w0 := w) w.heap.size rfl (.tmp 36) (.tmp 46) 49 74 (.agg #[(.int .i64 0), (.int .i64 0)]) 16 rfl Try.underlying49 info74 rfl (by decide) (by omega) (.slice none 0 0) [] (⟨a3, a3 + a4 - 1⟩ : S74) [.int .i64 (a3), .int .i64 (a3 + a4 - 1)] (fun k => w.heap.size + 3 ≤ k) (fun _ => False) rfl rfl (k74_mkM _ _ _ ⟨a3, a3 + a4 - 1⟩) (fun _ hk => hk.elim) (fun k hk => by omega) HR.out HB.out HB.out.size (by simp) ?_; intro v1 w1 ho hb hg _; have HO := Aside0.mk ho; have HB1 := Aside0.mk hb; have HG := Aside0.mk hg; clear ho hb hg; obtain ⟨Aa, cAa, rfl⟩ := Kd.R_slice HO.out; have G5 := Aside0.mk (blk_grown HK5.out HG.out (Kd.R_away HR.out (fun k hk => by omega))); have G6 := Aside0.mk (blk_grown HK6.out HG.out (Kd.R_away HR.out (fun k hk => by omega))); have G7 := Aside0.mk (blk_grown HK7.out HG.out (Kd.R_away HR.out (fun k hk => by omega))); have n3 : w1.cell? ⟨w.heap.size + 1 + 1, 3, none⟩ = some (.slice none 0 0) := blk_cell G7.out 3; have h3 := blk_frozen G7.out 3)
      clear m3 f3 k1 k2 k3 k4 b5 b6 b7
      obtain ⟨V1, hV1⟩ : ∃ X9 : World, X9 = w1.setCell ⟨w.heap.size + 1 + 1, 3, none⟩ (.slice Aa 1 cAa) := ⟨_, rfl⟩
      have J5 : V1.heap[w.heap.size]? = some (.cells #[.int .i64 a0, .int .i64 a1, .int .i64 a2, .int .i64 a3, .int .i64 a4, .slice A l.length cc] 47) := by rw [hV1]; exact blk_far G5.out (by show w.heap.size ≠ w.heap.size + 1 + 1; omega) _
      have J6 : V1.heap[w.heap.size + 1]? = some (.cells #[.int .i64 0, .int .i64 0, .int .i64 0, .slice none 0 0, .slice none 0 0, .slice none 0 0] 51) := by rw [hV1]; exact blk_far G6.out (by show w.heap.size + 1 ≠ w.heap.size + 1 + 1; omega) _
      have J7 : V1.heap[w.heap.size + 1 + 1]? = some (.cells #[.int .i64 c, .int .i64 u, .int .i64 a0, .slice Aa 1 cAa, .slice A l.length cc, .slice none 0 0] 51) := by rw [hV1]; exact blk_put G7.out 3 _ rfl
      have JB : Below w.heap.size w V1 := by rw [hV1]; exact HB1.out.setCell (p := ⟨w.heap.size + 1 + 1, 3, none⟩) (by show w.heap.size ≤ w.heap.size + 1 + 1; omega) _
      have JR : Kd.R k74 74 V1 w.heap.size (fun k => w.heap.size + 3 ≤ k) (.slice Aa 1 cAa) ([] ++ [⟨a3, a3 + a4 - 1⟩]) := by rw [hV1]; exact Kd.R_far HO.out (fun k hk => by show k ≠ w.heap.size + 1 + 1; omega) _
      rw [← hV1]
      clear hV1 n3 h3 HO HB1 HG HK5 HK6 HK7 HB HR G5 G6 G7
      have HK5 := Aside0.mk J5
      have HK6 := Aside0.mk J6
      have HK7 := Aside0.mk J7
      have HB := Aside0.mk JB
      have HR := Aside0.mk JR
      clear J5 J6 J7 JB JR
      have k0 : V1.cell? ⟨w.heap.size, 0, none⟩ = some (.int .i64 a0) := blk_cell HK5.out 0
      have k5 : V1.cell? ⟨w.heap.size, 5, none⟩ = some (.slice A l.length cc) := blk_cell HK5.out 5
      have n5 : V1.cell? ⟨w.heap.size + 1 + 1, 5, none⟩ = some (.slice none 0 0) := blk_cell HK7.out 5
      have f5 := blk_frozen HK7.out 5
      by_cases h6 : a0 = 6 ∨ a0 = 16 ∨ a0 = 23
      · rcases h6 with rfl | rfl | rfl
        · go_upto_region 8 with (fail)
          obtain ⟨V9, hV2⟩ : ∃ X9 : World, X9 = V1.setCell ⟨w.heap.size + 1 + 1, 5, none⟩ (.slice A l.length cc) := ⟨_, rfl⟩
          have L7 := blk_put HK7.out 5 (.slice A l.length cc) rfl
          have L6 := blk_far HK6.out (p := ⟨w.heap.size + 1 + 1, 5, none⟩) (by show w.heap.size + 1 ≠ w.heap.size + 1 + 1; omega) (.slice A l.length cc)
          have LB := HB.out.setCell (p := ⟨w.heap.size + 1 + 1, 5, none⟩) (by show w.heap.size ≤ w.heap.size + 1 + 1; omega) (.slice A l.length cc)
          have LR := Kd.R_far HR.out (p := ⟨w.heap.size + 1 + 1, 5, none⟩) (fun k hk => by show k ≠ w.heap.size + 1 + 1; omega) (.slice A l.length cc)
          rw [← hV2] at L7 L6 LB LR ⊢
          clear hV2 k0 k5 n5 f5 HK5 HK6 HK7 HB HR
          have m0 : V9.cell? ⟨w.heap.size + 1 + 1, 0, none⟩ = some (.int .i64 c) := blk_cell L7 0
          have m1 : V9.cell? ⟨w.heap.size + 1 + 1, 1, none⟩ = some (.int .i64 u) := blk_cell L7 1
          have m2 : V9.cell? ⟨w.heap.size + 1 + 1, 2, none⟩ = some (.int .i64 6) := blk_cell L7 2
          have m3 : V9.cell? ⟨w.heap.size + 1 + 1, 3, none⟩ = some (.slice Aa 1 cAa) := blk_cell L7 3
          have m4 : V9.cell? ⟨w.heap.size + 1 + 1, 4, none⟩ = some (.slice A l.length cc) := blk_cell L7 4
          have m5 : V9.cell? ⟨w.heap.size + 1 + 1, 5, none⟩ = some (.slice A l.length cc) := blk_cell L7 5
          have d0 : V9.cell? ⟨w.heap.size + 1, 0, none⟩ = some (.int .i64 0) := blk_cell L6 0
          have d1 : V9.cell? ⟨w.heap.size + 1, 1, none⟩ = some (.int .i64 0) := blk_cell L6 1
          have d2 : V9.cell? ⟨w.heap.size + 1, 2, none⟩ = some (.int .i64 0) := blk_cell L6 2
          have d3 : V9.cell? ⟨w.heap.size + 1, 3, none⟩ = some (.slice none 0 0) := blk_cell L6 3
          have d4 : V9.cell? ⟨w.heap.size + 1, 4, none⟩ = some (.slice none 0 0) := blk_cell L6 4
          have d5 : V9.cell? ⟨w.heap.size + 1, 5, none⟩ = some (.slice none 0 0) := blk_cell L6 5
          have e0 := blk_frozen L6 0
          have e1 := blk_frozen L6 1
          have e2 := blk_frozen L6 2
          have e3 := blk_frozen L6 3
          have e4 := blk_frozen L6 4
          have e5 := blk_frozen L6 5
          go_wp2_with fail
          refine bodyPost_ret (results_cell_row rfl _ _ (w.heap.size + 1) 51 #[.int .i64 c, .int .i64 u, .int .i64 6, .slice Aa 1 cAa, .slice A l.length cc, .slice A l.length cc] (0, 0) _ rfl (put6 L6 _ _ _ _ _ _) Try.underlying51 rfl (by kernel_rfl)) rfl ?_
          rw [HT.out]
          refine ⟨⟨.slice Aa 1 cAa, by rw [if_pos (by simp)], ?_⟩, below6 LB (by omega) _ _ _ _ _ _⟩
          rw [HSP.out]
          exact Kd.R_mono (row6 LR (fun k hk => by omega) _ _ _ _ _ _) (fun _ _ => trivial)
        · go_upto_region 8 with (fail)
          obtain ⟨V9, hV2⟩ : ∃ X9 : World, X9 = V1.setCell ⟨w.heap.size + 1 + 1, 5, none⟩ (.slice A l.length cc) := ⟨_, rfl⟩
          have L7 := blk_put HK7.out 5 (.slice A l.length cc) rfl
          have L6 := blk_far HK6.out (p := ⟨w.heap.size + 1 + 1, 5, none⟩) (by show w.heap.size + 1 ≠ w.heap.size + 1 + 1; omega) (.slice A l.length cc)
          have LB := HB.out.setCell (p := ⟨w.heap.size + 1 + 1, 5, none⟩) (by show w.heap.size ≤ w.heap.size + 1 + 1; omega) (.slice A l.length cc)
          have LR := Kd.R_far HR.out (p := ⟨w.heap.size + 1 + 1, 5, none⟩) (fun k hk => by show k ≠ w.heap.size + 1 + 1; omega) (.slice A l.length cc)
          rw [← hV2] at L7 L6 LB LR ⊢
          clear hV2 k0 k5 n5 f5 HK5 HK6 HK7 HB HR
          have m0 : V9.cell? ⟨w.heap.size + 1 + 1, 0, none⟩ = some (.int .i64 c) := blk_cell L7 0
          have m1 : V9.cell? ⟨w.heap.size + 1 + 1, 1, none⟩ = some (.int .i64 u) := blk_cell L7 1
          have m2 : V9.cell? ⟨w.heap.size + 1 + 1, 2, none⟩ = some (.int .i64 16) := blk_cell L7 2
          have m3 : V9.cell? ⟨w.heap.size + 1 + 1, 3, none⟩ = some (.slice Aa 1 cAa) := blk_cell L7 3
          have m4 : V9.cell? ⟨w.heap.size + 1 + 1, 4, none⟩ = some (.slice A l.length cc) := blk_cell L7 4
          have m5 : V9.cell? ⟨w.heap.size + 1 + 1, 5, none⟩ = some (.slice A l.length cc) := blk_cell L7 5
          have d0 : V9.cell? ⟨w.heap.size + 1, 0, none⟩ = some (.int .i64 0) := blk_cell L6 0
          have d1 : V9.cell? ⟨w.heap.size + 1, 1, none⟩ = some (.int .i64 0) := blk_cell L6 1
          have d2 : V9.cell? ⟨w.heap.size + 1, 2, none⟩ = some (.int .i64 0) := blk_cell L6 2
          have d3 : V9.cell? ⟨w.heap.size + 1, 3, none⟩ = some (.slice none 0 0) := blk_cell L6 3
          have d4 : V9.cell? ⟨w.heap.size + 1, 4, none⟩ = some (.slice none 0 0) := blk_cell L6 4
          have d5 : V9.cell? ⟨w.heap.size + 1, 5, none⟩ = some (.slice none 0 0) := blk_cell L6 5
          have e0 := blk_frozen L6 0
          have e1 := blk_frozen L6 1
          have e2 := blk_frozen L6 2
          have e3 := blk_frozen L6 3
          have e4 := blk_frozen L6 4
          have e5 := blk_frozen L6 5
          go_wp2_with fail
          refine bodyPost_ret (results_cell_row rfl _ _ (w.heap.size + 1) 51 #[.int .i64 c, .int .i64 u, .int .i64 16, .slice Aa 1 cAa, .slice A l.length cc, .slice A l.length cc] (0, 0) _ rfl (put6 L6 _ _ _ _ _ _) Try.underlying51 rfl (by kernel_rfl)) rfl ?_
          rw [HT.out]
          refine ⟨⟨.slice Aa 1 cAa, by rw [if_pos (by simp)], ?_⟩, below6 LB (by omega) _ _ _ _ _ _⟩
          rw [HSP.out]
          exact Kd.R_mono (row6 LR (fun k hk => by omega) _ _ _ _ _ _) (fun _ _ => trivial)
        · go_upto_region 8 with (fail)
          obtain ⟨V9, hV2⟩ : ∃ X9 : World, X9 = V1.setCell ⟨w.heap.size + 1 + 1, 5, none⟩ (.slice A l.length cc) := ⟨_, rfl⟩
          have L7 := blk_put HK7.out 5 (.slice A l.length cc) rfl
          have L6 := blk_far HK6.out (p := ⟨w.heap.size + 1 + 1, 5, none⟩) (by show w.heap.size + 1 ≠ w.heap.size + 1 + 1; omega) (.slice A l.length cc)
          have LB := HB.out.setCell (p := ⟨w.heap.size + 1 + 1, 5, none⟩) (by show w.heap.size ≤ w.heap.size + 1 + 1; omega) (.slice A l.length cc)
          have LR := Kd.R_far HR.out (p := ⟨w.heap.size + 1 + 1, 5, none⟩) (fun k hk => by show k ≠ w.heap.size + 1 + 1; omega) (.slice A l.length cc)
          rw [← hV2] at L7 L6 LB LR ⊢
          clear hV2 k0 k5 n5 f5 HK5 HK6 HK7 HB HR
          have m0 : V9.cell? ⟨w.heap.size + 1 + 1, 0, none⟩ = some (.int .i64 c) := blk_cell L7 0
          have m1 : V9.cell? ⟨w.heap.size + 1 + 1, 1, none⟩ = some (.int .i64 u) := blk_cell L7 1
          have m2 : V9.cell? ⟨w.heap.size + 1 + 1, 2, none⟩ = some (.int .i64 23) := blk_cell L7 2
          have m3 : V9.cell? ⟨w.heap.size + 1 + 1, 3, none⟩ = some (.slice Aa 1 cAa) := blk_cell L7 3
          have m4 : V9.cell? ⟨w.heap.size + 1 + 1, 4, none⟩ = some (.slice A l.length cc) := blk_cell L7 4
          have m5 : V9.cell? ⟨w.heap.size + 1 + 1, 5, none⟩ = some (.slice A l.length cc) := blk_cell L7 5
          have d0 : V9.cell? ⟨w.heap.size + 1, 0, none⟩ = some (.int .i64 0) := blk_cell L6 0
          have d1 : V9.cell? ⟨w.heap.size + 1, 1, none⟩ = some (.int .i64 0) := blk_cell L6 1
          have d2 : V9.cell? ⟨w.heap.size + 1, 2, none⟩ = some (.int .i64 0) := blk_cell L6 2
          have d3 : V9.cell? ⟨w.heap.size + 1, 3, none⟩ = some (.slice none 0 0) := blk_cell L6 3
          have d4 : V9.cell? ⟨w.heap.size + 1, 4, none⟩ = some (.slice none 0 0) := blk_cell L6 4
          have d5 : V9.cell? ⟨w.heap.size + 1, 5, none⟩ = some (.slice none 0 0) := blk_cell L6 5
          have e0 := blk_frozen L6 0
          have e1 := blk_frozen L6 1
          have e2 := blk_frozen L6 2
          have e3 := blk_frozen L6 3
          have e4 := blk_frozen L6 4
          have e5 := blk_frozen L6 5
          go_wp2_with fail
          refine bodyPost_ret (results_cell_row rfl _ _ (w.heap.size + 1) 51 #[.int .i64 c, .int .i64 u, .int .i64 23, .slice Aa 1 cAa, .slice A l.length cc, .slice A l.length cc] (0, 0) _ rfl (put6 L6 _ _ _ _ _ _) Try.underlying51 rfl (by kernel_rfl)) rfl ?_
          rw [HT.out]
          refine ⟨⟨.slice Aa 1 cAa, by rw [if_pos (by simp)], ?_⟩, below6 LB (by omega) _ _ _ _ _ _⟩
          rw [HSP.out]
          exact Kd.R_mono (row6 LR (fun k hk => by omega) _ _ _ _ _ _) (fun _ _ => trivial)
      · have g1 : (a0 == 6) = false := by simp; omega
        have g2 : (a0 == 16) = false := by simp; omega
        have g3 : (a0 == 23) = false := by simp; omega
        go_upto_region 8 with (fail)
        clear n5
        have m0 : V1.cell? ⟨w.heap.size + 1 + 1, 0, none⟩ = some (.int .i64 c) := blk_cell HK7.out 0
        have m1 : V1.cell? ⟨w.heap.size + 1 + 1, 1, none⟩ = some (.int .i64 u) := blk_cell HK7.out 1
        have m2 : V1.cell? ⟨w.heap.size + 1 + 1, 2, none⟩ = some (.int .i64 a0) := blk_cell HK7.out 2
        have m3 : V1.cell? ⟨w.heap.size + 1 + 1, 3, none⟩ = some (.slice Aa 1 cAa) := blk_cell HK7.out 3
        have m4 : V1.cell? ⟨w.heap.size + 1 + 1, 4, none⟩ = some (.slice A l.length cc) := blk_cell HK7.out 4
        have m5 : V1.cell? ⟨w.heap.size + 1 + 1, 5, none⟩ = some (.slice none 0 0) := blk_cell HK7.out 5
        have d0 : V1.cell? ⟨w.heap.size + 1, 0, none⟩ = some (.int .i64 0) := blk_cell HK6.out 0
        have d1 : V1.cell? ⟨w.heap.size + 1, 1, none⟩ = some (.int .i64 0) := blk_cell HK6.out 1
        have d2 : V1.cell? ⟨w.heap.size + 1, 2, none⟩ = some (.int .i64 0) := blk_cell HK6.out 2
        have d3 : V1.cell? ⟨w.heap.size + 1, 3, none⟩ = some (.slice none 0 0) := blk_cell HK6.out 3
        have d4 : V1.cell? ⟨w.heap.size + 1, 4, none⟩ = some (.slice none 0 0) := blk_cell HK6.out 4
        have d5 : V1.cell? ⟨w.heap.size + 1, 5, none⟩ = some (.slice none 0 0) := blk_cell HK6.out 5
        have e0 := blk_frozen HK6.out 0
        have e1 := blk_frozen HK6.out 1
        have e2 := blk_frozen HK6.out 2
        have e3 := blk_frozen HK6.out 3
        have e4 := blk_frozen HK6.out 4
        have e5 := blk_frozen HK6.out 5
        go_wp2_with fail
        refine bodyPost_ret (results_cell_row rfl _ _ (w.heap.size + 1) 51 #[.int .i64 c, .int .i64 u, .int .i64 a0, .slice Aa 1 cAa, .slice A l.length cc, .slice none 0 0] (0, 0) _ rfl (put6 HK6.out _ _ _ _ _ _) Try.underlying51 rfl (by kernel_rfl)) rfl ?_
        rw [HT.out]
        refine ⟨⟨.slice Aa 1 cAa, by rw [if_neg h6], ?_⟩, below6 HB.out (by omega) _ _ _ _ _ _⟩
        rw [HSP.out]
        exact Kd.R_mono (row6 HR.out (fun k hk => by omega) _ _ _ _ _ _) (fun _ _ => trivial)
    · omega
end Go.Proofs.Ytcoaehhoiaijoaa.Range
