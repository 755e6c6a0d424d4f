/- Texts of this claim, put together (wip/pack.py): FactsTellsWalk. -/
import Derived.Test.YtcoaehhoiaijoaaK17
import Derived.Test.YtcoaehhoiaijoaaK19
import Derived.Test.YtcoaehhoiaijoaaK20
import Derived.Test.YtcoaehhoiaijoaaK21
namespace Go.Proofs.Ytcoaehhoiaijoaa.Range
open Go Go.RowKit Go.Proofs.YtcoaehhoiaijoaaW.PrintWords Go.Proofs.YtcoaehhoiaijoaaW.PrintLast Go.Proofs.Ytcoaehhoiaijoaa.Fl Go.Proofs.Ytcoaehhoiaijoaa.Base Go.Proofs.Ytcoaehhoiaijoaa.PFactsTells Go.Proofs.Ytcoaehhoiaijoaa.Fact
set_option maxHeartbeats 2000000
set_option maxRecDepth 100000
set_option linter.unusedVariables false
set_option linter.unusedSimpArgs false
theorem bcell {W w1 : World} (hb : Below W.heap.size W w1) : (∀ b o, b < W.heap.size → w1.cell? ⟨b, o, none⟩ = W.cell? ⟨b, o, none⟩) ∧ (∀ b o, b < W.heap.size → w1.frozen? ⟨b, o, none⟩ = W.frozen? ⟨b, o, none⟩) :=
  ⟨fun b o h => hb.cell (p := ⟨b, o, none⟩) h, fun b o h => hb.frozen (p := ⟨b, o, none⟩) h⟩
/-- Both ways to have a row of floats: the same boolean, the same floats. -/
theorem nilC {α : Type} (d : Kd α) (w : World) : d.C w none 0 ([] : List α) := by
  obtain ⟨A, c, e, _, h⟩ := Kd.R_reads (Kd.R_nil d 0 w 0 (fun _ => True))
  cases e
  exact h
def RealsB (w : World) (l : List Int) (e : Ending) (w' : World) : Prop := ∃ (b : Bool) (xs : List Nat) (A : Option Addr) (c : Nat), (b = true ↔ realsB l) ∧ e = .returned (.tuple #[.slice A xs.length c, .bool b]) ∧ Kd.C kf w' A xs.length xs ∧ xs = (if b = true then vals l (l.length / 4) else []) ∧ Below w.heap.size w w'
theorem reals_told {w w' : World} {l : List Int} {e : Ending} (h : RealsTold w.heap.size w l e w') : RealsB w l e w' := by
  obtain ⟨⟨hl, v, rfl, hrow⟩ | ⟨hl, rfl⟩, hb⟩ := h
  · obtain ⟨A, c, rfl, q⟩ := reals_row hrow
    exact ⟨true, vals l (l.length / 4), A, c, ⟨fun _ => hl, fun _ => rfl⟩, by rw [vals_length], by rw [vals_length]; exact q, rfl, hb⟩
  · exact ⟨false, [], none, 0, ⟨(fun h => by cases h), fun h => absurd h hl⟩, rfl, nilC _ _, rfl, hb⟩
def RRealsB (w : World) (l : List Int) (e : Ending) (w' : World) : Prop := ∃ (b : Bool) (ys : List Nat) (A : Option Addr) (c : Nat), (b = true ↔ realsB l) ∧ e = .returned (.tuple #[.slice A ys.length c, .bool b]) ∧ Kd.C kf w' A ys.length ys ∧ (b = true → Same4 l (l.length / 4) ys) ∧ (b = false → ys = []) ∧ Below w.heap.size w w'
theorem rreals_told {w w' : World} {l : List Int} {e : Ending} (h : RRTold w.heap.size w l e w') : RRealsB w l e w' := by
  obtain ⟨⟨hl, v, ys, rfl, hrow, hs⟩ | ⟨hl, rfl⟩, hb⟩ := h
  · obtain ⟨A, c, e1, _, e2⟩ := Kd.R_reads (Kd.R_of_own (enc := Value.float .f64) (h1 := fun _ => rfl) (ok := fun _ => True) hrow (fun _ _ => trivial))
    cases e1
    exact ⟨true, ys, A, c, ⟨fun _ => hl, fun _ => rfl⟩, rfl, e2, fun _ => hs, (fun h => by cases h), hb⟩
  · exact ⟨false, [], none, 0, ⟨(fun h => by cases h), fun h => absurd h hl⟩, rfl, nilC _ _, (fun h => by cases h), fun _ => rfl, hb⟩
theorem floats_same {l : List Int} {b : Bool} {xs ys : List Nat} (hx : xs = (if b = true then vals l (l.length / 4) else [])) (h1 : b = true → Same4 l (l.length / 4) ys) (h0 : b = false → ys = []) (hl : l.length ≤ 100) :
    xs.length = ys.length ∧ xs.length ≤ 4000 ∧ ∀ j : Nat, j < xs.length → sameF (rdOf 0 xs (j : Int)) (rdOf 0 ys (j : Int)) = true ∧ rdOf 0 xs (j : Int) < 18446744073709551616 ∧ rdOf 0 ys (j : Int) < 18446744073709551616 := by
  cases b with
  | false =>
    have := h0 rfl
    subst this
    subst hx
    exact ⟨rfl, by simp, fun j hj => by simp at hj⟩
  | true =>
    obtain ⟨h2, h3⟩ := h1 rfl
    subst hx
    simp only [if_true]
    refine ⟨by rw [vals_length, h2], by rw [vals_length]; omega, fun j hj => ?_⟩
    rw [vals_length] at hj
    have e : rdOf 0 (vals l (l.length / 4)) (j : Int) = (ofF (chunk l j)).1 := by
      simp [rdOf, vals, List.getD_eq_getElem?_getD, List.getElem?_map, List.getElem?_range hj]
    rw [e]
    exact ⟨(h3 j hj).1, ofF_lt _, (h3 j hj).2⟩
/-- What the two ways to have a request's facts tell, in one form. -/
def P5 (n : Nat) (p q a0 : Int) (s : List S74) (va rg : List Int) (v : Value) (w' : World) : Prop :=
  ∃ A3 c3 A4 c4 A5 c5, v = .agg #[.int .i64 p, .int .i64 q, .int .i64 a0, .slice A3 s.length c3, .slice A4 va.length c4, .slice A5 rg.length c5] ∧ (s.length ≤ c3 ∧ va.length ≤ c4 ∧ rg.length ≤ c5) ∧
    Kd.R k74 74 w' n (fun _ => True) (.slice A3 s.length c3) s ∧ Kd.R (Kd.int .i64) 3 w' n (fun _ => True) (.slice A4 va.length c4) va ∧ Kd.R (Kd.int .i64) 3 w' n (fun _ => True) (.slice A5 rg.length c5) rg
theorem P5.keep {n : Nat} {p q a0 : Int} {s : List S74} {va rg : List Int} {v : Value} {w w' : World} (h : P5 n p q a0 s va rg v w) (hb : Below w.heap.size w w') : P5 n p q a0 s va rg v w' := by
  obtain ⟨A3, c3, A4, c4, A5, c5, rfl, hc, h3, h4, h5⟩ := h
  exact ⟨A3, c3, A4, c4, A5, c5, rfl, hc, Kd.R_below h3 hb, Kd.R_below h4 hb, Kd.R_below h5 hb⟩
def P11 (n : Nat) (w0 : World) (p q a0 : Int) (A : Option Addr) (ca : Nat) (s : List S74) (va rg : List Int) (v : Value) (w' : World) : Prop :=
  ∃ A3 c3 A5 c5, v = .agg #[.int .i64 p, .int .i64 q, .int .i64 a0, .slice A3 s.length c3, .slice A va.length ca, .slice A5 rg.length c5] ∧ (s.length ≤ c3 ∧ rg.length ≤ c5) ∧
    Kd.R k74 74 w' n (fun _ => True) (.slice A3 s.length c3) s ∧ ∀ w1, Below w0.heap.size w0 w1 → Kd.C (Kd.int .i64) w1 A5 rg.length rg
theorem P11.keep {n : Nat} {w0 : World} {p q a0 : Int} {A : Option Addr} {ca : Nat} {s : List S74} {va rg : List Int} {v : Value} {w w' : World} (h : P11 n w0 p q a0 A ca s va rg v w) (hb : Below w.heap.size w w') : P11 n w0 p q a0 A ca s va rg v w' := by
  obtain ⟨A3, c3, A5, c5, rfl, hc, h3, h5⟩ := h
  exact ⟨A3, c3, A5, c5, rfl, hc, Kd.R_below h3 hb, h5⟩
theorem R_C {α : Type} {d : Kd α} {e : Nat} {w : World} {base : Nat} {ok : Nat → Prop} {A : Option Addr} {n c : Nat} {xs : List α} (h : d.R e w base ok (.slice A n c) xs) : d.C w A xs.length xs := by
  obtain ⟨A', c', e1, _, e2⟩ := Kd.R_reads h
  cases e1
  exact e2
theorem regs_length (a0 : Int) (l : List Int) : (regs a0 l).length ≤ l.length := by unfold regs; split <;> simp
theorem sameFacts_self (c u f : Int) (s : List S74) (v r : List Int) : sameFacts c u f s v r c u f s v r = true := by simp [sameFacts]
theorem p5_told {w w' : World} {n : Nat} {p q a0 : Int} {s : List S74} {va rg : List Int} {e : Ending} {v3 v4 v5 : Value} {o4 o5 : Nat → Prop} (hn : n ≤ w.heap.size) (he : e = .returned (.agg #[.int .i64 p, .int .i64 q, .int .i64 a0, v3, v4, v5]))
    (h3 : Kd.R k74 74 w' w.heap.size (fun _ => True) v3 s) (h4 : Kd.R (Kd.int .i64) 3 w' w.heap.size o4 v4 va) (h5 : Kd.R (Kd.int .i64) 3 w' w.heap.size o5 v5 rg) (hb : Below w.heap.size w w') :
    ∃ v, e = .returned v ∧ P5 n p q a0 s va rg v w' ∧ Below w.heap.size w w' := by
  obtain ⟨A3, c3, rfl, l3, _⟩ := Kd.R_reads h3
  obtain ⟨A4, c4, rfl, l4, _⟩ := Kd.R_reads h4
  obtain ⟨A5, c5, rfl, l5, _⟩ := Kd.R_reads h5
  exact ⟨_, he, ⟨A3, c3, A4, c4, A5, c5, rfl, ⟨l3, l4, l5⟩, Kd.R_lower h3 hn, Kd.R_mono (Kd.R_lower h4 hn) (fun _ _ => trivial), Kd.R_mono (Kd.R_lower h5 hn) (fun _ _ => trivial)⟩, hb⟩
theorem of14_told {w0 w w' : World} {n : Nat} {p q a0 a1 a2 a3 a4 : Int} {A : Option Addr} {ca : Nat} {va : List Int} {e : Ending} (hn : n ≤ w.heap.size) (hC : Kd.C (Kd.int .i64) w0 A va.length va) (hca : va.length ≤ ca) (h : OfTold w p q a0 a1 a2 a3 a4 A ca va e w') :
    ∃ v, e = .returned v ∧ P11 n w0 p q a0 A ca (sp a1 a2 a3 a4) va (regs a0 va) v w' ∧ Below w.heap.size w w' := by
  obtain ⟨⟨v3, rfl, h3⟩, hb⟩ := h
  obtain ⟨A3, c3, rfl, hc3, _⟩ := Kd.R_reads h3
  refine ⟨_, rfl, ?_, hb⟩
  unfold regs
  by_cases h6 : a0 = 6 ∨ a0 = 16 ∨ a0 = 23
  · rw [if_pos h6, if_pos h6]
    exact ⟨A3, c3, A, ca, rfl, ⟨hc3, hca⟩, Kd.R_lower h3 hn, fun w1 hb1 => Kd.C_below hC hb1⟩
  · rw [if_neg h6, if_neg h6]
    exact ⟨A3, c3, none, 0, rfl, ⟨hc3, Nat.le_refl _⟩, Kd.R_lower h3 hn, fun w1 hb1 => nilC _ _⟩
theorem FactsTells_calls (p q a0 a1 a2 a3 a4 b0 b1 b2 b3 b4 : Int) (A B L : Option Addr) (ca cb cl : Nat) (va vb l : List Int) (w : World)
    (hA : Kd.C (Kd.int .i64) w A va.length va) (hB : Kd.C (Kd.int .i64) w B vb.length vb) (hL : Kd.C (Kd.int .i64) w L l.length l) (ha : va.length ≤ ca) (hb : vb.length ≤ cb) (hl : l.length ≤ cl) :
    Calls Try.prog 13 #[.agg #[.int .i64 p, .int .i64 q, .int .i64 a0, .int .i64 a1, .int .i64 a2, .int .i64 a3, .int .i64 a4, .slice A va.length ca, .int .i64 b0, .int .i64 b1, .int .i64 b2, .int .i64 b3, .int .i64 b4, .slice B vb.length cb, .slice L l.length cl]] w fun e w' => e = .returned (.bool true) ∧ Below w.heap.size w w' := by
  obtain ⟨T, hT⟩ : ∃ T : Ending → World → Prop, T = fun e w' => e = .returned (.bool true) ∧ Below w.heap.size w w' := ⟨_, rfl⟩
  have HT := Aside0.mk hT
  rw [← hT]
  clear hT
  have HA := Aside0.mk hA
  have HB_ := Aside0.mk hB
  have HL := Aside0.mk hL
  have HCA := Aside0.mk ha
  have HCB := Aside0.mk hb
  have HCL := Aside0.mk hl
  have hma := hA.2.1
  have hmb := hB.2.1
  have hml := hL.2.1
  clear hA hB hL ha hb hl
  have Z := Aside0.mk (blk_new w (.cells #[.int .i64 p, .int .i64 q, .int .i64 a0, .int .i64 a1, .int .i64 a2, .int .i64 a3, .int .i64 a4, .slice A va.length ca, .int .i64 b0, .int .i64 b1, .int .i64 b2, .int .i64 b3, .int .i64 b4, .slice B vb.length cb, .slice L l.length cl] 62))
  have D := Aside0.mk (below_alloc (Below.refl w.heap.size w) (.cells #[.int .i64 p, .int .i64 q, .int .i64 a0, .int .i64 a1, .int .i64 a2, .int .i64 a3, .int .i64 a4, .slice A va.length ca, .int .i64 b0, .int .i64 b1, .int .i64 b2, .int .i64 b3, .int .i64 b4, .slice B vb.length cb, .slice L l.length cl] 62))
  go_enter Try.func13, Try.ntmps13
  go_upto_region 1 with (fail)
  obtain ⟨z, hz⟩ : ∃ z, z = w.heap.size := ⟨_, rfl⟩
  rw [← hz] at Z ⊢
  generalize w.alloc (.cells #[.int .i64 p, .int .i64 q, .int .i64 a0, .int .i64 a1, .int .i64 a2, .int .i64 a3, .int .i64 a4, .slice A va.length ca, .int .i64 b0, .int .i64 b1, .int .i64 b2, .int .i64 b3, .int .i64 b4, .slice B vb.length cb, .slice L l.length cl] 62) = W0 at Z D ⊢
  have HZ := Aside0.mk (Nat.le_of_eq hz.symm)
  clear hz
  have hzl : z < W0.heap.size := blk_lt Z.out
  have c0 : W0.cell? ⟨z, 0, none⟩ = some (.int .i64 p) := blk_cell Z.out 0
  have c1 : W0.cell? ⟨z, 1, none⟩ = some (.int .i64 q) := blk_cell Z.out 1
  have c2 : W0.cell? ⟨z, 2, none⟩ = some (.int .i64 a0) := blk_cell Z.out 2
  have c3 : W0.cell? ⟨z, 3, none⟩ = some (.int .i64 a1) := blk_cell Z.out 3
  have c4 : W0.cell? ⟨z, 4, none⟩ = some (.int .i64 a2) := blk_cell Z.out 4
  have c5 : W0.cell? ⟨z, 5, none⟩ = some (.int .i64 a3) := blk_cell Z.out 5
  have c6 : W0.cell? ⟨z, 6, none⟩ = some (.int .i64 a4) := blk_cell Z.out 6
  have c7 : W0.cell? ⟨z, 7, none⟩ = some (.slice A va.length ca) := blk_cell Z.out 7
  have c8 : W0.cell? ⟨z, 8, none⟩ = some (.int .i64 b0) := blk_cell Z.out 8
  have c9 : W0.cell? ⟨z, 9, none⟩ = some (.int .i64 b1) := blk_cell Z.out 9
  have c10 : W0.cell? ⟨z, 10, none⟩ = some (.int .i64 b2) := blk_cell Z.out 10
  have c11 : W0.cell? ⟨z, 11, none⟩ = some (.int .i64 b3) := blk_cell Z.out 11
  have c12 : W0.cell? ⟨z, 12, none⟩ = some (.int .i64 b4) := blk_cell Z.out 12
  have c13 : W0.cell? ⟨z, 13, none⟩ = some (.slice B vb.length cb) := blk_cell Z.out 13
  have c14 : W0.cell? ⟨z, 14, none⟩ = some (.slice L l.length cl) := blk_cell Z.out 14
  refine reg_start (List.range 15) 15 (fun w' => Below W0.heap.size W0 w') (by kernel_rfl) rfl (below_drew1 (Below.refl _ _)) (fun hHeld => ?_)
  generalize W0.drew = w1 at hHeld ⊢
  repeat (first | (refine reg_pure (v := ?_) (a' := ?_) rfl rfl rfl (by kernel_rfl) (fun _ _ _ h => h) (by rfl) ?_ ?_ ?_; rotate_left; (solve | (intro w'; go_simp; with_reducible rfl)); rotate_left; (solve | (simp only [Act.put, List.setIfInBounds_toArray, List.set_cons_zero, List.set_cons_succ, i64_w, i32_w]; rfl))) | (refine reg_skip (a' := ?_) rfl rfl rfl (by rfl) (by kernel_rfl) (fun _ _ _ h => h) ?_ ?_; rotate_left; (solve | (simp only [Act.put, List.setIfInBounds_toArray, List.set_cons_zero, List.set_cons_succ, i64_w, i32_w]; rfl))) | (refine reg_load (v := ?_) (a' := ?_) rfl rfl rfl (by kernel_rfl) (fun _ _ _ h => h) (by rfl) ?_ hHeld ?_ ?_; rotate_left; (solve | (intro w' hb'; obtain ⟨hc', hf'⟩ := bcell hb'; clear hb'; go_simp; with_reducible rfl)); rotate_left; (solve | (simp only [Act.put, List.setIfInBounds_toArray, List.set_cons_zero, List.set_cons_succ, i64_w, i32_w]; rfl)); intro hHeld))
  refine reg_effs3 (i1 := 8) (i2 := 9) (i3 := 10) (Made W0.heap.size (.cells #[.int .i64 0, .int .i64 0] 60)) (Made W0.heap.size (.cells #[.int .i64 0, .int .i64 0, .int .i64 0, .int .i64 0, .int .i64 0, .slice none 0 0] 47)) (Made W0.heap.size (.cells #[.int .i64 0, .int .i64 0, .int .i64 0, .int .i64 0, .int .i64 0, .slice none 0 0] 47)) (fun _ _ => below_step) hHeld (by kernel_rfl) (by decide)
    (eff_alloc rfl rfl rfl (fun _ h => h.size) (fun w' a' => by go_simp)) (fun _ _ _ _ _ => Made.keep)
    (eff_alloc rfl rfl rfl (fun _ h => h.size) (fun w' a' => by go_simp)) (fun _ _ _ _ _ => Made.keep)
    (eff_alloc rfl rfl rfl (fun _ h => h.size) (fun w' a' => by go_simp)) (fun _ _ _ _ _ => Made.keep) ?_
  rintro _ lo1 hi1 _ lo2 hi2 _ lo3 hi3 w2 hHeld ⟨gc, rfl, m1, l1, h1, K1⟩ ⟨ga, rfl, m2, l2, h2, K2⟩ ⟨gb, rfl, m3, l3, h3, K3⟩ d12 d13 d23 a' ha'
  unfold Disj at d12 d13 d23
  simp only at d12 d13 d23
  simp only [Act.put, List.setIfInBounds_toArray, List.set_cons_zero, List.set_cons_succ, i64_w, i32_w] at ha'
  subst ha'
  have nab : ga ≠ gb := by omega
  have nac : ga ≠ gc := by omega
  have nbc : gb ≠ gc := by omega
  clear d12 d13 d23 l1 l2 l3 h1 h2 h3
  have f1 := blk_frozen K1
  have k0 : w2.cell? ⟨gc, 0, none⟩ = some (.int .i64 0) := blk_cell K1 0
  have k1 : w2.cell? ⟨gc, 1, none⟩ = some (.int .i64 0) := blk_cell K1 1
  refine reg_store (w1 := setL w2 gc 0 [.int .i64 p, .int .i64 q]) rfl rfl rfl (by kernel_rfl) (by rfl) (by simp only [setL]; go_simp) (setL_below m1 _ _ hHeld) (fun hHeld => ?_)
  clear f1 k0 k1
  have K1n := setL_all K1 [.int .i64 p, .int .i64 q] rfl
  have K2n := setL_blk K2 nac 0 [.int .i64 p, .int .i64 q]
  have K3n := setL_blk K3 nbc 0 [.int .i64 p, .int .i64 q]
  clear K1 K2 K3
  generalize setL w2 gc 0 [.int .i64 p, .int .i64 q] = w3 at K1n K2n K3n hHeld ⊢
  have K1 := K1n; clear K1n; have K2 := K2n; clear K2n; have K3 := K3n; clear K3n
  have f1 := blk_frozen K2
  have k0 : w3.cell? ⟨ga, 0, none⟩ = some (.int .i64 0) := blk_cell K2 0
  have k1 : w3.cell? ⟨ga, 1, none⟩ = some (.int .i64 0) := blk_cell K2 1
  have k2 : w3.cell? ⟨ga, 2, none⟩ = some (.int .i64 0) := blk_cell K2 2
  have k3 : w3.cell? ⟨ga, 3, none⟩ = some (.int .i64 0) := blk_cell K2 3
  have k4 : w3.cell? ⟨ga, 4, none⟩ = some (.int .i64 0) := blk_cell K2 4
  have k5 : w3.cell? ⟨ga, 5, none⟩ = some (.slice none 0 0) := blk_cell K2 5
  refine reg_store (w1 := setL w3 ga 0 [.int .i64 a0, .int .i64 a1, .int .i64 a2, .int .i64 a3, .int .i64 a4, .slice A va.length ca]) rfl rfl rfl (by kernel_rfl) (by rfl) (by simp only [setL]; go_simp) (setL_below m2 _ _ hHeld) (fun hHeld => ?_)
  clear f1 k0 k1 k2 k3 k4 k5
  have K2n := setL_all K2 [.int .i64 a0, .int .i64 a1, .int .i64 a2, .int .i64 a3, .int .i64 a4, .slice A va.length ca] rfl
  have K1n := setL_blk K1 (Ne.symm nac) 0 [.int .i64 a0, .int .i64 a1, .int .i64 a2, .int .i64 a3, .int .i64 a4, .slice A va.length ca]
  have K3n := setL_blk K3 (Ne.symm nab) 0 [.int .i64 a0, .int .i64 a1, .int .i64 a2, .int .i64 a3, .int .i64 a4, .slice A va.length ca]
  clear K2 K1 K3
  generalize setL w3 ga 0 [.int .i64 a0, .int .i64 a1, .int .i64 a2, .int .i64 a3, .int .i64 a4, .slice A va.length ca] = w4 at K2n K1n K3n hHeld ⊢
  have K2 := K2n; clear K2n; have K1 := K1n; clear K1n; have K3 := K3n; clear K3n
  have f1 := blk_frozen K3
  have k0 : w4.cell? ⟨gb, 0, none⟩ = some (.int .i64 0) := blk_cell K3 0
  have k1 : w4.cell? ⟨gb, 1, none⟩ = some (.int .i64 0) := blk_cell K3 1
  have k2 : w4.cell? ⟨gb, 2, none⟩ = some (.int .i64 0) := blk_cell K3 2
  have k3 : w4.cell? ⟨gb, 3, none⟩ = some (.int .i64 0) := blk_cell K3 3
  have k4 : w4.cell? ⟨gb, 4, none⟩ = some (.int .i64 0) := blk_cell K3 4
  have k5 : w4.cell? ⟨gb, 5, none⟩ = some (.slice none 0 0) := blk_cell K3 5
  refine reg_store (w1 := setL w4 gb 0 [.int .i64 b0, .int .i64 b1, .int .i64 b2, .int .i64 b3, .int .i64 b4, .slice B vb.length cb]) rfl rfl rfl (by kernel_rfl) (by rfl) (by simp only [setL]; go_simp) (setL_below m3 _ _ hHeld) (fun hHeld => ?_)
  clear f1 k0 k1 k2 k3 k4 k5
  have K3n := setL_all K3 [.int .i64 b0, .int .i64 b1, .int .i64 b2, .int .i64 b3, .int .i64 b4, .slice B vb.length cb] rfl
  have K1n := setL_blk K1 (Ne.symm nbc) 0 [.int .i64 b0, .int .i64 b1, .int .i64 b2, .int .i64 b3, .int .i64 b4, .slice B vb.length cb]
  have K2n := setL_blk K2 nab 0 [.int .i64 b0, .int .i64 b1, .int .i64 b2, .int .i64 b3, .int .i64 b4, .slice B vb.length cb]
  clear K3 K1 K2
  generalize setL w4 gb 0 [.int .i64 b0, .int .i64 b1, .int .i64 b2, .int .i64 b3, .int .i64 b4, .slice B vb.length cb] = w5 at K3n K1n K2n hHeld ⊢
  have K3 := K3n; clear K3n; have K1 := K1n; clear K1n; have K2 := K2n; clear K2n
  repeat (first | (refine reg_pure (v := ?_) (a' := ?_) rfl rfl rfl (by kernel_rfl) (fun _ _ _ h => h) (by rfl) ?_ ?_ ?_; rotate_left; (solve | (intro w'; go_simp; with_reducible rfl)); rotate_left; (solve | (simp only [Act.put, List.setIfInBounds_toArray, List.set_cons_zero, List.set_cons_succ, i64_w, i32_w]; rfl))) | (refine reg_skip (a' := ?_) rfl rfl rfl (by rfl) (by kernel_rfl) (fun _ _ _ h => h) ?_ ?_; rotate_left; (solve | (simp only [Act.put, List.setIfInBounds_toArray, List.set_cons_zero, List.set_cons_succ, i64_w, i32_w]; rfl))) | (refine reg_load (v := ?_) (a' := ?_) rfl rfl rfl (by kernel_rfl) (fun _ _ _ h => h) (by rfl) ?_ hHeld ?_ ?_; rotate_left; (solve | (intro w' hb'; obtain ⟨hc', hf'⟩ := bcell hb'; clear hb'; go_simp; with_reducible rfl)); rotate_left; (solve | (simp only [Act.put, List.setIfInBounds_toArray, List.set_cons_zero, List.set_cons_succ, i64_w, i32_w]; rfl)); intro hHeld))
  refine reg_done (by kernel_rfl) ?_
  have HB := Aside0.mk (below_step D.out hHeld)
  have C0 := Aside0.mk K1
  have A0 := Aside0.mk K2
  have B0 := Aside0.mk K3
  clear K1 K2 K3 hHeld c0 c1 c2 c3 c4 c5 c6 c7 c8 c9 c10 c11 c12 c13 c14 Z D m1 m2 m3 hzl nab nac nbc
  have ka : w5.cell? ⟨ga, 5, none⟩ = some (.slice A va.length ca) := blk_cell A0.out 5
  have kb : w5.cell? ⟨gb, 5, none⟩ = some (.slice B vb.length cb) := blk_cell B0.out 5
  by_cases h1 : (va.length : Int) > 3000
  · have h1' : decide ((va.length : Int) > 3000) = true := decide_eq_true h1
    go_wp2_with fail
    refine (awake14 _).mono ?_
    rintro e w9 ⟨rfl, hb⟩
    go_wp2
    rw [HT.out]
    exact ⟨rfl, below_step HB.out hb⟩
  have h1' : decide ((va.length : Int) > 3000) = false := decide_eq_false h1
  by_cases h2 : (vb.length : Int) > 3000
  · have h2' : decide ((vb.length : Int) > 3000) = true := decide_eq_true h2
    go_wp2_with fail
    refine (awake14 _).mono ?_
    rintro e w9 ⟨rfl, hb⟩
    go_wp2
    rw [HT.out]
    exact ⟨rfl, below_step HB.out hb⟩
  have h2' : decide ((vb.length : Int) > 3000) = false := decide_eq_false h2
  by_cases h3 : (l.length : Int) > 100
  · have h3' : decide ((l.length : Int) > 100) = true := decide_eq_true h3
    go_wp2_with fail
    refine (awake14 _).mono ?_
    rintro e w9 ⟨rfl, hb⟩
    go_wp2
    rw [HT.out]
    exact ⟨rfl, below_step HB.out hb⟩
  have h3' : decide ((l.length : Int) > 100) = false := decide_eq_false h3
  have L0 := Aside0.mk (Kd.C_below HL.out HB.out)
  go_wp2_with fail
  refine (reals_calls L cl l _ L0.out HCL.out (by omega)).mono ?_
  rintro e w6 hr
  obtain ⟨r1, xs, X, cx, hb1, rfl, hCX, hx, hb⟩ := reals_told hr
  have HB6 := Aside0.mk (below_step HB.out hb)
  have C1 := Aside0.mk (blk_below C0.out hb)
  have A1 := Aside0.mk (blk_below A0.out hb)
  have B1 := Aside0.mk (blk_below B0.out hb)
  have L1 := Aside0.mk (Kd.C_below L0.out hb)
  have X1 := Aside0.mk hCX
  have HX := Aside0.mk hx
  have HB1 := Aside0.mk hb1
  clear hr hb hCX hx hb1 ka kb HB C0 A0 B0 L0
  go_wp2_with fail
  refine (rreals_calls L cl l _ L1.out HCL.out (by omega)).mono ?_
  rintro e w7 hr
  obtain ⟨r2, ys, Y, cy, hb2, rfl, hCY, hy1, hy0, hb⟩ := rreals_told hr
  obtain rfl : r1 = r2 := by
    have h := HB1.out.trans hb2.symm
    cases r1 <;> cases r2 <;> simp at h <;> rfl
  obtain ⟨hxy, hxm, hxs⟩ := floats_same HX.out hy1 hy0 (by omega)
  have HB7 := Aside0.mk (below_step HB6.out hb)
  have C2 := Aside0.mk (blk_below C1.out hb)
  have A2 := Aside0.mk (blk_below A1.out hb)
  have B2 := Aside0.mk (blk_below B1.out hb)
  have X2 := Aside0.mk (Kd.C_below X1.out hb)
  have Y2 := Aside0.mk hCY
  have HXY := Aside0.mk hxy
  have HXS := Aside0.mk hxs
  clear hr hb hCY hy1 hy0 hb2 HB1 HX hxy hxs HB6 C1 A1 B1 L1 X1
  go_wp2_with fail
  refine (floats_calls X Y cx cy xs ys _ X2.out Y2.out HXY.out hxm HXS.out).mono ?_
  rintro e w8 ⟨rfl, hb⟩
  have HB8 := Aside0.mk (below_step HB7.out hb)
  have C3 := Aside0.mk (blk_below C2.out hb)
  have A3 := Aside0.mk (blk_below A2.out hb)
  have B3 := Aside0.mk (blk_below B2.out hb)
  clear hb HB7 C2 A2 B2 X2 Y2 HXY HXS hxm
  obtain ⟨x0, x1, x2, x3, x4, x5⟩ := hcells6 A3.out
  have RA := Aside0.mk (Kd.C_below HA.out HB8.out)
  have RB := Aside0.mk (Kd.C_below HB_.out HB8.out)
  have HQA := Aside0.mk (refRight_eq a0 a1 a2 a3 a4 va (by omega) 5000 (by omega))
  have HQB := Aside0.mk (refRight_eq b0 b1 b2 b3 b4 vb (by omega) 5000 (by omega))
  cases hra : rightP a0 a1 a2 a3 a4 va with
  | false =>
    go_wp2_with fail
    refine (gatewardenref06_Right.calls 5000 a0 a1 a2 a3 a4 A ca va false _ RA.out HCA.out (by rw [HQA.out, hra])).mono ?_
    rintro e w9 ⟨rfl, hb⟩
    have HB9 := Aside0.mk (below_step HB8.out hb)
    clear hb x0 x1 x2 x3 x4 x5
    go_wp2_with fail
    refine (awake14 _).mono ?_
    rintro e w9 ⟨rfl, hb⟩
    go_wp2
    rw [HT.out]
    exact ⟨rfl, below_step HB9.out hb⟩
  | true =>
  have HEA := Aside0.mk (ends_of (rt_of hra))
  have HRA := Aside0.mk hra
  clear hra
  go_wp2_with fail
  refine (gatewardenref06_Right.calls 5000 a0 a1 a2 a3 a4 A ca va true _ RA.out HCA.out (by rw [HQA.out, HRA.out])).mono ?_
  rintro e w9 ⟨rfl, hb⟩
  have HB9 := Aside0.mk (below_step HB8.out hb)
  have C4 := Aside0.mk (blk_below C3.out hb)
  have A4 := Aside0.mk (blk_below A3.out hb)
  have B4 := Aside0.mk (blk_below B3.out hb)
  have RB9 := Aside0.mk (Kd.C_below RB.out hb)
  clear hb x0 x1 x2 x3 x4 x5 HB8 C3 A3 B3 RB
  obtain ⟨x0, x1, x2, x3, x4, x5⟩ := hcells6 B4.out
  cases hrb : rightP b0 b1 b2 b3 b4 vb with
  | false =>
    go_wp2_with fail
    refine (gatewardenref06_Right.calls 5000 b0 b1 b2 b3 b4 B cb vb false _ RB9.out HCB.out (by rw [HQB.out, hrb])).mono ?_
    rintro e w9 ⟨rfl, hb⟩
    have HB10 := Aside0.mk (below_step HB9.out hb)
    clear hb x0 x1 x2 x3 x4 x5
    go_wp2_with fail
    refine (awake14 _).mono ?_
    rintro e w9 ⟨rfl, hb⟩
    go_wp2
    rw [HT.out]
    exact ⟨rfl, below_step HB10.out hb⟩
  | true =>
  have HEB := Aside0.mk (ends_of (rt_of hrb))
  have HRB := Aside0.mk hrb
  clear hrb
  go_wp2_with fail
  refine (gatewardenref06_Right.calls 5000 b0 b1 b2 b3 b4 B cb vb true _ RB9.out HCB.out (by rw [HQB.out, HRB.out])).mono ?_
  rintro e w10 ⟨rfl, hb⟩
  have HB10 := Aside0.mk (below_step HB9.out hb)
  have C5 := Aside0.mk (blk_below C4.out hb)
  have A5 := Aside0.mk (blk_below A4.out hb)
  have B5 := Aside0.mk (blk_below B4.out hb)
  clear hb x0 x1 x2 x3 x4 x5 HB9 C4 A4 B4 RB9 RA
  go_upto_region 10 with (fail)
  have hgl : gc < w10.heap.size := blk_lt C5.out
  have hal : ga < w10.heap.size := blk_lt A5.out
  have e0 : w10.cell? ⟨gc, 0, none⟩ = some (.int .i64 p) := blk_cell C5.out 0
  have e1 : w10.cell? ⟨gc, 1, none⟩ = some (.int .i64 q) := blk_cell C5.out 1
  obtain ⟨x0, x1, x2, x3, x4, x5⟩ := hcells6 A5.out
  refine reg_start [0, 1, 2, 3, 4, 6, 7, 8, 9, 10, 5, 11, 12, 13, 14, 15] 16 (fun w' => Below w10.heap.size w10 w') (by kernel_rfl) rfl (below_drew1 (Below.refl _ _)) (fun hHeld => ?_)
  generalize w10.drew = w11 at hHeld ⊢
  repeat (first | (refine reg_pure (v := ?_) (a' := ?_) rfl rfl rfl (by kernel_rfl) (fun _ _ _ h => h) (by rfl) ?_ ?_ ?_; rotate_left; (solve | (intro w'; go_simp; with_reducible rfl)); rotate_left; (solve | (simp only [Act.put, List.setIfInBounds_toArray, List.set_cons_zero, List.set_cons_succ, i64_w, i32_w]; rfl))) | (refine reg_skip (a' := ?_) rfl rfl rfl (by rfl) (by kernel_rfl) (fun _ _ _ h => h) ?_ ?_; rotate_left; (solve | (simp only [Act.put, List.setIfInBounds_toArray, List.set_cons_zero, List.set_cons_succ, i64_w, i32_w]; rfl))) | (refine reg_load (v := ?_) (a' := ?_) rfl rfl rfl (by kernel_rfl) (fun _ _ _ h => h) (by rfl) ?_ hHeld ?_ ?_; rotate_left; (solve | (intro w' hb'; obtain ⟨hc', hf'⟩ := bcell hb'; clear hb'; go_simp; with_reducible rfl)); rotate_left; (solve | (simp only [Act.put, List.setIfInBounds_toArray, List.set_cons_zero, List.set_cons_succ, i64_w, i32_w]; rfl)); intro hHeld))
  have HCA10 := Aside0.mk (Kd.C_below HA.out HB10.out)
  refine reg_effs4 (i1 := 5) (i2 := 11) (i3 := 12) (i4 := 13) (fun v lo hi w' => P5 w10.heap.size p q a0 (sp a1 a2 a3 a4) va (regs a0 va) v w') (fun v lo hi w' => P11 w10.heap.size w10 p q a0 A ca (sp a1 a2 a3 a4) va (regs a0 va) v w') (Made w10.heap.size (.cells #[.int .i64 0, .int .i64 0, .int .i64 0, .slice none 0 0, .slice none 0 0, .slice none 0 0] 51)) (Made w10.heap.size (.cells #[.int .i64 0, .int .i64 0, .int .i64 0, .slice none 0 0, .slice none 0 0, .slice none 0 0] 51)) (fun _ _ => below_step) hHeld (by kernel_rfl) (by decide)
    (eff_call rfl rfl rfl Try.func38 (by kernel_rfl) rfl #[.int .i64 p, .int .i64 q, .agg #[.int .i64 a0, .int .i64 a1, .int .i64 a2, .int .i64 a3, .int .i64 a4, .slice A va.length ca]] rfl (by kernel_rfl) (by (try simp only [List.map_toArray, List.map_cons, List.map_nil]); first | done | rfl) (fun w' hS => (facts_Of.calls p q a0 a1 a2 a3 a4 A ca va p q a0 (sp a1 a2 a3 a4) va (regs a0 va) w' (Kd.C_below HCA10.out hS) HCA.out (of_right p q a0 va (by omega) HEA.out)).mono (fun e w'' ⟨v3, v4, v5, he, g3, g4, g5, hb⟩ => p5_told hS.size he g3 g4 g5 hb))) (fun _ _ _ _ _ => P5.keep)
    (eff_call rfl rfl rfl Try.func43 (by kernel_rfl) rfl #[.int .i64 p, .int .i64 q, .agg #[.int .i64 a0, .int .i64 a1, .int .i64 a2, .int .i64 a3, .int .i64 a4, .slice A va.length ca]] rfl (by kernel_rfl) (by (try simp only [List.map_toArray, List.map_cons, List.map_nil]); first | done | rfl) (fun w' hS => (rof14_calls p q a0 a1 a2 a3 a4 A ca va w' HEA.out).mono (fun e w'' h => of14_told hS.size HCA10.out HCA.out h))) (fun _ _ _ _ _ => P11.keep)
    (eff_alloc rfl rfl rfl (fun _ h => h.size) (fun w' a' => by go_simp)) (fun _ _ _ _ _ => Made.keep)
    (eff_alloc rfl rfl rfl (fun _ h => h.size) (fun w' a' => by go_simp)) (fun _ _ _ _ _ => Made.keep) ?_
  rintro _ lo1 hi1 _ lo2 hi2 _ lo3 hi3 _ lo4 hi4 w12 hHeld ⟨F3, f3, F4, f4, F5, f5, rfl, HFL, hF3, hF4, hF5⟩ ⟨G3, g3, G5, g5, rfl, HGL, hG3, hG5⟩ ⟨g11, rfl, m1, l1, h1, K1⟩ ⟨g12, rfl, m2, l2, h2, K2⟩ _ _ _ _ _ d34 a' ha'
  unfold Disj at d34
  simp only at d34
  simp only [Act.put, List.setIfInBounds_toArray, List.set_cons_zero, List.set_cons_succ, i64_w, i32_w] at ha'
  subst ha'
  have nfg : g11 ≠ g12 := by omega
  clear d34 l1 l2 h1 h2

  have t1 := Kd.R_types hF3 K1 (by decide)
  have t2 := Kd.R_types t1 K2 (by decide)
  have t3 := Kd.R_types hF4 K1 (by decide)
  have t4 := Kd.R_types t3 K2 (by decide)
  have t5 := Kd.R_types hF5 K1 (by decide)
  have t6 := Kd.R_types t5 K2 (by decide)
  have t7 := Kd.R_types hG3 K1 (by decide)
  have t8 := Kd.R_types t7 K2 (by decide)
  clear t1 t3 t5 t7 hF3 hF4 hF5 hG3
  have f1 := blk_frozen K1
  have k0 : w12.cell? ⟨g11, 0, none⟩ = some (.int .i64 0) := blk_cell K1 0
  have k1 : w12.cell? ⟨g11, 1, none⟩ = some (.int .i64 0) := blk_cell K1 1
  have k2 : w12.cell? ⟨g11, 2, none⟩ = some (.int .i64 0) := blk_cell K1 2
  have k3 : w12.cell? ⟨g11, 3, none⟩ = some (.slice none 0 0) := blk_cell K1 3
  have k4 : w12.cell? ⟨g11, 4, none⟩ = some (.slice none 0 0) := blk_cell K1 4
  have k5 : w12.cell? ⟨g11, 5, none⟩ = some (.slice none 0 0) := blk_cell K1 5
  refine reg_store (w1 := setL w12 g11 0 [.int .i64 p, .int .i64 q, .int .i64 a0, .slice F3 (sp a1 a2 a3 a4).length f3, .slice F4 va.length f4, .slice F5 (regs a0 va).length f5]) rfl rfl rfl (by kernel_rfl) (by rfl) (by simp only [setL]; go_simp) (setL_below m1 _ _ hHeld) (fun hHeld => ?_)
  clear f1 k0 k1 k2 k3 k4 k5
  have K1n := setL_all K1 [.int .i64 p, .int .i64 q, .int .i64 a0, .slice F3 (sp a1 a2 a3 a4).length f3, .slice F4 va.length f4, .slice F5 (regs a0 va).length f5] rfl
  have K2n := setL_blk K2 (Ne.symm nfg) 0 [.int .i64 p, .int .i64 q, .int .i64 a0, .slice F3 (sp a1 a2 a3 a4).length f3, .slice F4 va.length f4, .slice F5 (regs a0 va).length f5]
  have t2n := setL_R t2 (g := g11) (fun _ h => h.1.2) 0 [.int .i64 p, .int .i64 q, .int .i64 a0, .slice F3 (sp a1 a2 a3 a4).length f3, .slice F4 va.length f4, .slice F5 (regs a0 va).length f5]
  have t4n := setL_R t4 (g := g11) (fun _ h => h.1.2) 0 [.int .i64 p, .int .i64 q, .int .i64 a0, .slice F3 (sp a1 a2 a3 a4).length f3, .slice F4 va.length f4, .slice F5 (regs a0 va).length f5]
  have t6n := setL_R t6 (g := g11) (fun _ h => h.1.2) 0 [.int .i64 p, .int .i64 q, .int .i64 a0, .slice F3 (sp a1 a2 a3 a4).length f3, .slice F4 va.length f4, .slice F5 (regs a0 va).length f5]
  have t8n := setL_R t8 (g := g11) (fun _ h => h.1.2) 0 [.int .i64 p, .int .i64 q, .int .i64 a0, .slice F3 (sp a1 a2 a3 a4).length f3, .slice F4 va.length f4, .slice F5 (regs a0 va).length f5]
  clear K1 K2 t2 t4 t6 t8
  generalize setL w12 g11 0 [.int .i64 p, .int .i64 q, .int .i64 a0, .slice F3 (sp a1 a2 a3 a4).length f3, .slice F4 va.length f4, .slice F5 (regs a0 va).length f5] = w13 at K1n K2n t2n t4n t6n t8n hHeld ⊢
  have K1 := K1n; clear K1n; have K2 := K2n; clear K2n; have t2 := t2n; clear t2n; have t4 := t4n; clear t4n; have t6 := t6n; clear t6n; have t8 := t8n; clear t8n
  have f1 := blk_frozen K2
  have k0 : w13.cell? ⟨g12, 0, none⟩ = some (.int .i64 0) := blk_cell K2 0
  have k1 : w13.cell? ⟨g12, 1, none⟩ = some (.int .i64 0) := blk_cell K2 1
  have k2 : w13.cell? ⟨g12, 2, none⟩ = some (.int .i64 0) := blk_cell K2 2
  have k3 : w13.cell? ⟨g12, 3, none⟩ = some (.slice none 0 0) := blk_cell K2 3
  have k4 : w13.cell? ⟨g12, 4, none⟩ = some (.slice none 0 0) := blk_cell K2 4
  have k5 : w13.cell? ⟨g12, 5, none⟩ = some (.slice none 0 0) := blk_cell K2 5
  refine reg_store (w1 := setL w13 g12 0 [.int .i64 p, .int .i64 q, .int .i64 a0, .slice G3 (sp a1 a2 a3 a4).length g3, .slice A va.length ca, .slice G5 (regs a0 va).length g5]) rfl rfl rfl (by kernel_rfl) (by rfl) (by simp only [setL]; go_simp) (setL_below m2 _ _ hHeld) (fun hHeld => ?_)
  clear f1 k0 k1 k2 k3 k4 k5
  have K2n := setL_all K2 [.int .i64 p, .int .i64 q, .int .i64 a0, .slice G3 (sp a1 a2 a3 a4).length g3, .slice A va.length ca, .slice G5 (regs a0 va).length g5] rfl
  have K1n := setL_blk K1 nfg 0 [.int .i64 p, .int .i64 q, .int .i64 a0, .slice G3 (sp a1 a2 a3 a4).length g3, .slice A va.length ca, .slice G5 (regs a0 va).length g5]
  have t2n := setL_R t2 (g := g12) (fun _ h => h.2) 0 [.int .i64 p, .int .i64 q, .int .i64 a0, .slice G3 (sp a1 a2 a3 a4).length g3, .slice A va.length ca, .slice G5 (regs a0 va).length g5]
  have t4n := setL_R t4 (g := g12) (fun _ h => h.2) 0 [.int .i64 p, .int .i64 q, .int .i64 a0, .slice G3 (sp a1 a2 a3 a4).length g3, .slice A va.length ca, .slice G5 (regs a0 va).length g5]
  have t6n := setL_R t6 (g := g12) (fun _ h => h.2) 0 [.int .i64 p, .int .i64 q, .int .i64 a0, .slice G3 (sp a1 a2 a3 a4).length g3, .slice A va.length ca, .slice G5 (regs a0 va).length g5]
  have t8n := setL_R t8 (g := g12) (fun _ h => h.2) 0 [.int .i64 p, .int .i64 q, .int .i64 a0, .slice G3 (sp a1 a2 a3 a4).length g3, .slice A va.length ca, .slice G5 (regs a0 va).length g5]
  clear K2 K1 t2 t4 t6 t8
  generalize setL w13 g12 0 [.int .i64 p, .int .i64 q, .int .i64 a0, .slice G3 (sp a1 a2 a3 a4).length g3, .slice A va.length ca, .slice G5 (regs a0 va).length g5] = w14 at K2n K1n t2n t4n t6n t8n hHeld ⊢
  have K2 := K2n; clear K2n; have K1 := K1n; clear K1n; have t2 := t2n; clear t2n; have t4 := t4n; clear t4n; have t6 := t6n; clear t6n; have t8 := t8n; clear t8n
  refine reg_done (by kernel_rfl) ?_
  have HB14 := Aside0.mk (below_step HB10.out hHeld)
  have C6 := Aside0.mk (blk_below C5.out hHeld)
  have A6 := Aside0.mk (blk_below A5.out hHeld)
  have B6 := Aside0.mk (blk_below B5.out hHeld)
  have F0 := Aside0.mk K1
  have G0 := Aside0.mk K2
  have RF3 := Aside0.mk (R_C t2)
  have RF4 := Aside0.mk (R_C t4)
  have RF5 := Aside0.mk (R_C t6)
  have RG3 := Aside0.mk (R_C t8)
  have RA14 := Aside0.mk (Kd.C_below HA.out HB14.out)
  have RG5 := Aside0.mk (hG5 _ hHeld)
  have HCF := Aside0.mk HFL
  have HCG := Aside0.mk HGL
  clear K1 K2 t2 t4 t6 t8 hHeld hG5 HFL HGL m1 m2 nfg e0 e1 x0 x1 x2 x3 x4 x5 hgl hal HB10 C5 A5 B5 HCA10
  have e0 : w14.cell? ⟨gc, 0, none⟩ = some (.int .i64 p) := blk_cell C6.out 0
  have e1 : w14.cell? ⟨gc, 1, none⟩ = some (.int .i64 q) := blk_cell C6.out 1
  obtain ⟨x0, x1, x2, x3, x4, x5⟩ := hcells6 B6.out
  have HCB14 := Aside0.mk (Kd.C_below HB_.out HB14.out)
  go_wp2_with fail
  refine (rof14_calls p q b0 b1 b2 b3 b4 B cb vb _ HEB.out).mono ?_
  rintro e w15 ho
  obtain ⟨v, rfl, ⟨H3, h3_, H5, h5_, rfl, HHL, hH3, hH5⟩, hb⟩ := of14_told (Nat.le_refl _) HCB14.out HCB.out ho
  have RH3 := Aside0.mk (R_C hH3)
  have RB15 := Aside0.mk (Kd.C_below HCB14.out hb)
  have RH5 := Aside0.mk (hH5 _ hb)
  have HCH := Aside0.mk HHL
  have HB15 := Aside0.mk (below_step HB14.out hb)
  have F1 := Aside0.mk (blk_below F0.out hb)
  have G1 := Aside0.mk (blk_below G0.out hb)
  clear ho hH3 hH5 HHL e0 e1 x0 x1 x2 x3 x4 x5 HCB14 HB14 C6 A6 B6 F0 G0
  obtain ⟨hf_, hg_, hh_⟩ : True ∧ True ∧ True := ⟨trivial, trivial, trivial⟩
  clear hf_ hg_ hh_
  have RF3b := Aside0.mk (Kd.C_below RF3.out hb)
  have RF4b := Aside0.mk (Kd.C_below RF4.out hb)
  have RF5b := Aside0.mk (Kd.C_below RF5.out hb)
  have RG3b := Aside0.mk (Kd.C_below RG3.out hb)
  have RG5b := Aside0.mk (Kd.C_below RG5.out hb)
  have RA14b := Aside0.mk (Kd.C_below RA14.out hb)
  clear RF3 RF4 RF5 RG3 RG5 RA14 hb
  go_upto_region 12 with (fail)
  have H0 := Aside0.mk (blk_new w15 (.cells #[.int .i64 p, .int .i64 q, .int .i64 b0, .slice H3 (sp b1 b2 b3 b4).length h3_, .slice B vb.length cb, .slice H5 (regs b0 vb).length h5_] 51))
  have F2 := Aside0.mk (blk_alloc F1.out (.cells #[.int .i64 p, .int .i64 q, .int .i64 b0, .slice H3 (sp b1 b2 b3 b4).length h3_, .slice B vb.length cb, .slice H5 (regs b0 vb).length h5_] 51))
  have G2 := Aside0.mk (blk_alloc G1.out (.cells #[.int .i64 p, .int .i64 q, .int .i64 b0, .slice H3 (sp b1 b2 b3 b4).length h3_, .slice B vb.length cb, .slice H5 (regs b0 vb).length h5_] 51))
  have hba := below_alloc (Below.refl _ w15) (.cells #[.int .i64 p, .int .i64 q, .int .i64 b0, .slice H3 (sp b1 b2 b3 b4).length h3_, .slice B vb.length cb, .slice H5 (regs b0 vb).length h5_] 51)
  have HB16 := Aside0.mk (below_step HB15.out hba)
  have QRF3b := Aside0.mk (Kd.C_below RF3b.out hba)
  have QRF4b := Aside0.mk (Kd.C_below RF4b.out hba)
  have QRF5b := Aside0.mk (Kd.C_below RF5b.out hba)
  have QRG3b := Aside0.mk (Kd.C_below RG3b.out hba)
  have QRG5b := Aside0.mk (Kd.C_below RG5b.out hba)
  have QRA14b := Aside0.mk (Kd.C_below RA14b.out hba)
  have QRH3 := Aside0.mk (Kd.C_below RH3.out hba)
  have QRH5 := Aside0.mk (Kd.C_below RH5.out hba)
  have QRB15 := Aside0.mk (Kd.C_below RB15.out hba)
  clear hba F1 G1 HB15 RF3b RF4b RF5b RG3b RG5b RA14b RH3 RH5 RB15
  obtain ⟨g13, hg13⟩ : ∃ g, g = w15.heap.size := ⟨_, rfl⟩
  rw [← hg13] at H0 ⊢
  clear hg13
  generalize w15.alloc (.cells #[.int .i64 p, .int .i64 q, .int .i64 b0, .slice H3 (sp b1 b2 b3 b4).length h3_, .slice B vb.length cb, .slice H5 (regs b0 vb).length h5_] 51) = w16 at *
  have lF := blk_lt F2.out
  have lG := blk_lt G2.out
  have lH := blk_lt H0.out
  obtain ⟨y0, y1, y2, y3, y4, y5⟩ := hcells6 F2.out
  obtain ⟨z0, z1, z2, z3, z4, z5⟩ := hcells6 G2.out
  obtain ⟨v0, v1, v2, v3, v4, v5⟩ := hcells6 H0.out
  refine reg_start [0, 1, 2, 3, 4, 5, 6, 7, 8, 10, 11, 9, 12, 13, 14, 15] 16 (fun w' => Below w16.heap.size w16 w') (by kernel_rfl) rfl (below_drew1 (Below.refl _ _)) (fun hHeld => ?_)
  generalize w16.drew = w17 at hHeld ⊢
  have HS1 := Aside0.mk (sp_length HEA.out)
  have HS2 := Aside0.mk (sp_length HEB.out)
  have HS3 := Aside0.mk (regs_length a0 va)
  have HS4 := Aside0.mk (regs_length b0 vb)
  generalize sp a1 a2 a3 a4 = s at *
  generalize sp b1 b2 b3 b4 = s' at *
  generalize regs a0 va = rg at *
  generalize regs b0 vb = rg' at *
  have HM1 := Aside0.mk ((same14 p q a0 s va rg p q a0 s va rg 5000 (by omega) (by have := HS1.out; omega) (by omega) (by have := HS3.out; omega)).1)
  have HM2 := Aside0.mk (same14 p q a0 s va rg p q b0 s' vb rg' 5000 (by omega) (by have := HS1.out; omega) (by omega) (by have := HS3.out; omega))
  rw [sameFacts_self] at HM1
  generalize sameFacts p q a0 s va rg p q b0 s' vb rg' = rr at HM2
  repeat (first | (refine reg_pure (v := ?_) (a' := ?_) rfl rfl rfl (by kernel_rfl) (fun _ _ _ h => h) (by rfl) ?_ ?_ ?_; rotate_left; (solve | (intro w'; go_simp; with_reducible rfl)); rotate_left; (solve | (simp only [Act.put, List.setIfInBounds_toArray, List.set_cons_zero, List.set_cons_succ, i64_w, i32_w]; rfl))) | (refine reg_skip (a' := ?_) rfl rfl rfl (by rfl) (by kernel_rfl) (fun _ _ _ h => h) ?_ ?_; rotate_left; (solve | (simp only [Act.put, List.setIfInBounds_toArray, List.set_cons_zero, List.set_cons_succ, i64_w, i32_w]; rfl))) | (refine reg_load (v := ?_) (a' := ?_) rfl rfl rfl (by kernel_rfl) (fun _ _ _ h => h) (by rfl) ?_ hHeld ?_ ?_; rotate_left; (solve | (intro w' hb'; obtain ⟨hc', hf'⟩ := bcell hb'; clear hb'; go_simp; with_reducible rfl)); rotate_left; (solve | (simp only [Act.put, List.setIfInBounds_toArray, List.set_cons_zero, List.set_cons_succ, i64_w, i32_w]; rfl)); intro hHeld))
  refine reg_call rfl rfl rfl (by kernel_rfl) (by rfl) Try.func37 (by kernel_rfl) rfl #[] rfl (by (try simp only [List.map_toArray, List.map_cons, List.map_nil]); first | done | rfl) ?_
  refine (awake14 _).mono ?_
  rintro e w18 ⟨rfl, hb⟩
  have hN := below_step hHeld hb
  clear hHeld hb
  refine ⟨_, rfl, hN, fun hHeld => ?_⟩
  clear hN
  rintro a' ha'
  simp only [Act.put, List.setIfInBounds_toArray, List.set_cons_zero, List.set_cons_succ, i64_w, i32_w] at ha'
  subst ha'
  repeat (first | (refine reg_pure (v := ?_) (a' := ?_) rfl rfl rfl (by kernel_rfl) (fun _ _ _ h => h) (by rfl) ?_ ?_ ?_; rotate_left; (solve | (intro w'; go_simp; with_reducible rfl)); rotate_left; (solve | (simp only [Act.put, List.setIfInBounds_toArray, List.set_cons_zero, List.set_cons_succ, i64_w, i32_w]; rfl))) | (refine reg_skip (a' := ?_) rfl rfl rfl (by rfl) (by kernel_rfl) (fun _ _ _ h => h) ?_ ?_; rotate_left; (solve | (simp only [Act.put, List.setIfInBounds_toArray, List.set_cons_zero, List.set_cons_succ, i64_w, i32_w]; rfl))) | (refine reg_load (v := ?_) (a' := ?_) rfl rfl rfl (by kernel_rfl) (fun _ _ _ h => h) (by rfl) ?_ hHeld ?_ ?_; rotate_left; (solve | (intro w' hb'; obtain ⟨hc', hf'⟩ := bcell hb'; clear hb'; go_simp; with_reducible rfl)); rotate_left; (solve | (simp only [Act.put, List.setIfInBounds_toArray, List.set_cons_zero, List.set_cons_succ, i64_w, i32_w]; rfl)); intro hHeld))
  refine reg_call rfl rfl rfl (by kernel_rfl) (by rfl) Try.func44 (by kernel_rfl) rfl #[.agg #[.int .i64 p, .int .i64 q, .int .i64 a0, .slice F3 s.length f3, .slice F4 va.length f4, .slice F5 rg.length f5], .agg #[.int .i64 p, .int .i64 q, .int .i64 a0, .slice G3 s.length g3, .slice A va.length ca, .slice G5 rg.length g5]] rfl (by (try simp only [List.map_toArray, List.map_cons, List.map_nil]); first | done | rfl) ?_
  refine (gatewardenref14_Same.calls 5000 p q a0 F3 f3 s F4 f4 va F5 f5 rg p q a0 G3 g3 s A ca va G5 g5 rg true _ (Kd.C_below QRF3b.out hHeld) HCF.out.1 (Kd.C_below QRF4b.out hHeld) HCF.out.2.1 (Kd.C_below QRF5b.out hHeld) HCF.out.2.2 (Kd.C_below QRG3b.out hHeld) HCG.out.1 (Kd.C_below QRA14b.out hHeld) HCA.out (Kd.C_below QRG5b.out hHeld) HCG.out.2 HM1.out).mono ?_
  rintro e w18 ⟨rfl, hb⟩
  have hN := below_step hHeld hb
  clear hHeld hb
  refine ⟨_, rfl, hN, fun hHeld => ?_⟩
  clear hN
  rintro a' ha'
  simp only [Act.put, List.setIfInBounds_toArray, List.set_cons_zero, List.set_cons_succ, i64_w, i32_w] at ha'
  subst ha'
  repeat (first | (refine reg_pure (v := ?_) (a' := ?_) rfl rfl rfl (by kernel_rfl) (fun _ _ _ h => h) (by rfl) ?_ ?_ ?_; rotate_left; (solve | (intro w'; go_simp; with_reducible rfl)); rotate_left; (solve | (simp only [Act.put, List.setIfInBounds_toArray, List.set_cons_zero, List.set_cons_succ, i64_w, i32_w]; rfl))) | (refine reg_skip (a' := ?_) rfl rfl rfl (by rfl) (by kernel_rfl) (fun _ _ _ h => h) ?_ ?_; rotate_left; (solve | (simp only [Act.put, List.setIfInBounds_toArray, List.set_cons_zero, List.set_cons_succ, i64_w, i32_w]; rfl))) | (refine reg_load (v := ?_) (a' := ?_) rfl rfl rfl (by kernel_rfl) (fun _ _ _ h => h) (by rfl) ?_ hHeld ?_ ?_; rotate_left; (solve | (intro w' hb'; obtain ⟨hc', hf'⟩ := bcell hb'; clear hb'; go_simp; with_reducible rfl)); rotate_left; (solve | (simp only [Act.put, List.setIfInBounds_toArray, List.set_cons_zero, List.set_cons_succ, i64_w, i32_w]; rfl)); intro hHeld))
  refine reg_call rfl rfl rfl (by kernel_rfl) (by rfl) Try.func45 (by kernel_rfl) rfl #[.agg #[.int .i64 p, .int .i64 q, .int .i64 a0, .slice G3 s.length g3, .slice A va.length ca, .slice G5 rg.length g5], .agg #[.int .i64 p, .int .i64 q, .int .i64 b0, .slice H3 s'.length h3_, .slice B vb.length cb, .slice H5 rg'.length h5_]] rfl (by (try simp only [List.map_toArray, List.map_cons, List.map_nil]); first | done | rfl) ?_
  refine (facts_Same.calls 5000 p q a0 G3 g3 s A ca va G5 g5 rg p q b0 H3 h3_ s' B cb vb H5 h5_ rg' rr _ (Kd.C_below QRG3b.out hHeld) HCG.out.1 (Kd.C_below QRA14b.out hHeld) HCA.out (Kd.C_below QRG5b.out hHeld) HCG.out.2 (Kd.C_below QRH3.out hHeld) HCH.out.1 (Kd.C_below QRB15.out hHeld) HCB.out (Kd.C_below QRH5.out hHeld) HCH.out.2 HM2.out.2).mono ?_
  rintro e w18 ⟨rfl, hb⟩
  have hN := below_step hHeld hb
  clear hHeld hb
  refine ⟨_, rfl, hN, fun hHeld => ?_⟩
  clear hN
  rintro a' ha'
  simp only [Act.put, List.setIfInBounds_toArray, List.set_cons_zero, List.set_cons_succ, i64_w, i32_w] at ha'
  subst ha'
  repeat (first | (refine reg_pure (v := ?_) (a' := ?_) rfl rfl rfl (by kernel_rfl) (fun _ _ _ h => h) (by rfl) ?_ ?_ ?_; rotate_left; (solve | (intro w'; go_simp; with_reducible rfl)); rotate_left; (solve | (simp only [Act.put, List.setIfInBounds_toArray, List.set_cons_zero, List.set_cons_succ, i64_w, i32_w]; rfl))) | (refine reg_skip (a' := ?_) rfl rfl rfl (by rfl) (by kernel_rfl) (fun _ _ _ h => h) ?_ ?_; rotate_left; (solve | (simp only [Act.put, List.setIfInBounds_toArray, List.set_cons_zero, List.set_cons_succ, i64_w, i32_w]; rfl))) | (refine reg_load (v := ?_) (a' := ?_) rfl rfl rfl (by kernel_rfl) (fun _ _ _ h => h) (by rfl) ?_ hHeld ?_ ?_; rotate_left; (solve | (intro w' hb'; obtain ⟨hc', hf'⟩ := bcell hb'; clear hb'; go_simp; with_reducible rfl)); rotate_left; (solve | (simp only [Act.put, List.setIfInBounds_toArray, List.set_cons_zero, List.set_cons_succ, i64_w, i32_w]; rfl)); intro hHeld))
  refine reg_call rfl rfl rfl (by kernel_rfl) (by rfl) Try.func44 (by kernel_rfl) rfl #[.agg #[.int .i64 p, .int .i64 q, .int .i64 a0, .slice G3 s.length g3, .slice A va.length ca, .slice G5 rg.length g5], .agg #[.int .i64 p, .int .i64 q, .int .i64 b0, .slice H3 s'.length h3_, .slice B vb.length cb, .slice H5 rg'.length h5_]] rfl (by (try simp only [List.map_toArray, List.map_cons, List.map_nil]); first | done | rfl) ?_
  refine (gatewardenref14_Same.calls 5000 p q a0 G3 g3 s A ca va G5 g5 rg p q b0 H3 h3_ s' B cb vb H5 h5_ rg' rr _ (Kd.C_below QRG3b.out hHeld) HCG.out.1 (Kd.C_below QRA14b.out hHeld) HCA.out (Kd.C_below QRG5b.out hHeld) HCG.out.2 (Kd.C_below QRH3.out hHeld) HCH.out.1 (Kd.C_below QRB15.out hHeld) HCB.out (Kd.C_below QRH5.out hHeld) HCH.out.2 HM2.out.1).mono ?_
  rintro e w18 ⟨rfl, hb⟩
  have hN := below_step hHeld hb
  clear hHeld hb
  refine ⟨_, rfl, hN, fun hHeld => ?_⟩
  clear hN
  rintro a' ha'
  simp only [Act.put, List.setIfInBounds_toArray, List.set_cons_zero, List.set_cons_succ, i64_w, i32_w] at ha'
  subst ha'
  repeat (first | (refine reg_pure (v := ?_) (a' := ?_) rfl rfl rfl (by kernel_rfl) (fun _ _ _ h => h) (by rfl) ?_ ?_ ?_; rotate_left; (solve | (intro w'; go_simp; with_reducible rfl)); rotate_left; (solve | (simp only [Act.put, List.setIfInBounds_toArray, List.set_cons_zero, List.set_cons_succ, i64_w, i32_w]; rfl))) | (refine reg_skip (a' := ?_) rfl rfl rfl (by rfl) (by kernel_rfl) (fun _ _ _ h => h) ?_ ?_; rotate_left; (solve | (simp only [Act.put, List.setIfInBounds_toArray, List.set_cons_zero, List.set_cons_succ, i64_w, i32_w]; rfl))) | (refine reg_load (v := ?_) (a' := ?_) rfl rfl rfl (by kernel_rfl) (fun _ _ _ h => h) (by rfl) ?_ hHeld ?_ ?_; rotate_left; (solve | (intro w' hb'; obtain ⟨hc', hf'⟩ := bcell hb'; clear hb'; go_simp; with_reducible rfl)); rotate_left; (solve | (simp only [Act.put, List.setIfInBounds_toArray, List.set_cons_zero, List.set_cons_succ, i64_w, i32_w]; rfl)); intro hHeld))
  refine reg_done (by kernel_rfl) ?_
  have HB18 := Aside0.mk (below_step HB16.out hHeld)
  go_wp2
  rw [HT.out]
  exact ⟨rfl, HB18.out⟩
end Go.Proofs.Ytcoaehhoiaijoaa.Range
