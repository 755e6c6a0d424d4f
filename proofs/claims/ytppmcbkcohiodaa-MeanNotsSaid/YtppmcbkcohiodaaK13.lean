/- Texts of this claim, put together (wip/pack.py): MeanAtomWalk. -/
import Derived.Test.YtppmcbkcohiodaaK4
import Derived.Test.YtppmcbkcohiodaaK2
import Derived.Test.YtppmcbkcohiodaaK12
import Derived.Test.YtppmcbkcohiodaaK9
import Derived.Test.YtppmcbkcohiodaaK3
import Derived.WideLaws
namespace Go.Proofs.Ytppmcbkcohiodaa.PMeanTells
open Go Go.RowKit Go.Proofs.YtppmcbkcohiodaaW.PrintWords Go.Proofs.YtppmcbkcohiodaaW.PrintLast Go.Proofs.YtppmcbkcohiodaaW.PrintMore Go.Proofs.Ytppmcbkcohiodaa.Spans Go.Proofs.Ytppmcbkcohiodaa.Fl Go.Proofs.Ytppmcbkcohiodaa.Range
set_option maxHeartbeats 4000000
set_option maxRecDepth 100000
set_option linter.unusedVariables false
set_option linter.unusedSimpArgs false
theorem runA_store_func {P : Program} {w : World} (a : Addr) (m : Mode) (f : Fn) (n b : Array Value) : (store a (.func f n b) m).run P w = stored P w a (.func f n b) m := run_store P w a _ m rfl
attribute [local go_sem] runA_store_func
theorem atom1_calls (b0 : Nat) (a0_0 : Int) (a0_1 : Int) (A0_2 : Option Addr) (c0_2 : Nat) (l0_2 : List (S55)) (a0_3 : Nat) (a0_4 : Nat) (A0_5 : Option Addr) (c0_5 : Nat) (l0_5 : List (S26)) (n : Int) (w : World) (hr0_2 : Kd.C k55 w A0_2 l0_2.length l0_2) (hm : l0_2.length ≤ 1000000) (hB : w.heap[b0]? = some (.cells #[.int .i64 a0_0, .int .i64 a0_1, .slice A0_2 l0_2.length c0_2, .float .f64 a0_3, .float .f64 a0_4, .slice A0_5 l0_5.length c0_5] 26 (0, 0))) :
    Calls Try.prog 48 #[.int .i64 n, .pointer (some ⟨b0, 0, none⟩)] w fun e w' => e = .returned (.bool (hasB l0_2 n)) ∧ Below w.heap.size w w' := by
  obtain ⟨T, hT⟩ : ∃ T : Ending → World → Prop, T = fun e w' => e = .returned (.bool (hasB l0_2 n)) ∧ Below w.heap.size w w' := ⟨_, rfl⟩
  have HT := Aside0.mk hT
  rw [← hT]
  clear hT
  have HA := Aside0.mk (Below.refl w.heap.size w)
  have f2 : w.cell? ⟨b0, 2, none⟩ = some (.slice A0_2 l0_2.length c0_2) := blk_cell hB 2
  have f3 : w.cell? ⟨b0, 3, none⟩ = some (.float .f64 a0_3) := blk_cell hB 3
  have f4 : w.cell? ⟨b0, 4, none⟩ = some (.float .f64 a0_4) := blk_cell hB 4
  have hlt := blk_lt hB
  have hne : b0 ≠ w.heap.size := by omega
  have HC := Aside0.mk (span_Has_calls A0_2 c0_2 l0_2 n w hr0_2 (by omega))
  clear hr0_2 hB
  go_enter Try.func48, Try.ntmps48
  go_wp2_with fail
  refine HC.out.mono ?_
  rintro e w1 ⟨rfl, hb⟩
  have HB := Aside0.mk (below_step HA.out hb)
  clear hb
  go_wp2_with fail
  rw [HT.out]
  exact ⟨rfl, HB.out⟩
theorem atom2_calls (b0 : Nat) (a0_0 : Int) (a0_1 : Int) (A0_2 : Option Addr) (c0_2 : Nat) (l0_2 : List (S55)) (a0_3 : Nat) (a0_4 : Nat) (A0_5 : Option Addr) (c0_5 : Nat) (l0_5 : List (S26)) (r : S55) (w : World) (hr0_2 : Kd.C k55 w A0_2 l0_2.length l0_2) (hm : l0_2.length ≤ 1000000) (hf : Fit l0_2) (hB : w.heap[b0]? = some (.cells #[.int .i64 a0_0, .int .i64 a0_1, .slice A0_2 l0_2.length c0_2, .float .f64 a0_3, .float .f64 a0_4, .slice A0_5 l0_5.length c0_5] 26 (0, 0))) :
    Calls Try.prog 51 #[.agg #[.int .i64 r.f0, .int .i64 r.f1], .pointer (some ⟨b0, 0, none⟩)] w fun e w' => e = .returned (.bool (!covD l0_2 r)) ∧ Below w.heap.size w w' := by
  obtain ⟨T, hT⟩ : ∃ T : Ending → World → Prop, T = fun e w' => e = .returned (.bool (!covD l0_2 r)) ∧ Below w.heap.size w w' := ⟨_, rfl⟩
  have HT := Aside0.mk hT
  rw [← hT]
  clear hT
  have hA := below_alloc (Below.refl w.heap.size w) (.cells #[.int .i64 r.f0, .int .i64 r.f1] 55)
  have HA := Aside0.mk hA
  have f2 : w.cell? ⟨b0, 2, none⟩ = some (.slice A0_2 l0_2.length c0_2) := blk_cell hB 2
  have f3 : w.cell? ⟨b0, 3, none⟩ = some (.float .f64 a0_3) := blk_cell hB 3
  have f4 : w.cell? ⟨b0, 4, none⟩ = some (.float .f64 a0_4) := blk_cell hB 4
  have hlt := blk_lt hB
  have hne : b0 ≠ w.heap.size := by omega
  have HC := Aside0.mk (span_Covers_calls A0_2 c0_2 l0_2 r _ (Kd.C_below hr0_2 hA) hm hf)
  have HF := Aside0.mk hf
  clear hr0_2 hB hf hA
  go_enter Try.func51, Try.ntmps51
  go_wp2_with fail
  refine HC.out.mono ?_
  rintro e w1 ⟨b, rfl, hbb, hb⟩
  obtain rfl : b = covD l0_2 r := by
    have h1 := (covD_iff HF.out r)
    unfold AllIn at hbb
    rw [Bool.eq_iff_iff, hbb, h1]
  clear hbb
  have HB := Aside0.mk (below_step HA.out hb)
  clear hb
  go_wp2_with fail
  rw [HT.out]
  exact ⟨rfl, HB.out⟩
theorem atom4_calls (b0 : Nat) (a0_0 : Int) (a0_1 : Int) (A0_2 : Option Addr) (c0_2 : Nat) (l0_2 : List (S55)) (a0_3 : Nat) (a0_4 : Nat) (A0_5 : Option Addr) (c0_5 : Nat) (l0_5 : List (S26)) (x : Nat) (w : World) (hr0_2 : Kd.C k55 w A0_2 l0_2.length l0_2) (hB : w.heap[b0]? = some (.cells #[.int .i64 a0_0, .int .i64 a0_1, .slice A0_2 l0_2.length c0_2, .float .f64 a0_3, .float .f64 a0_4, .slice A0_5 l0_5.length c0_5] 26 (0, 0))) :
    Calls Try.prog 57 #[.float .f64 x, .pointer (some ⟨b0, 0, none⟩)] w fun e w' => e = .returned (.bool (!(leF a0_3 x && leF x a0_4))) ∧ Below w.heap.size w w' := by
  obtain ⟨T, hT⟩ : ∃ T : Ending → World → Prop, T = fun e w' => e = .returned (.bool (!(leF a0_3 x && leF x a0_4))) ∧ Below w.heap.size w w' := ⟨_, rfl⟩
  have HT := Aside0.mk hT
  rw [← hT]
  clear hT
  have HA := Aside0.mk (Below.refl w.heap.size w)
  have f2 : w.cell? ⟨b0, 2, none⟩ = some (.slice A0_2 l0_2.length c0_2) := blk_cell hB 2
  have f3 : w.cell? ⟨b0, 3, none⟩ = some (.float .f64 a0_3) := blk_cell hB 3
  have f4 : w.cell? ⟨b0, 4, none⟩ = some (.float .f64 a0_4) := blk_cell hB 4
  have hlt := blk_lt hB
  have hne : b0 ≠ w.heap.size := by omega
  have HC := Aside0.mk (within_calls x a0_3 a0_4 w)
  clear hr0_2 hB
  go_enter Try.func57, Try.ntmps57
  go_wp2_with fail
  refine HC.out.mono ?_
  rintro e w1 ⟨rfl, hb⟩
  have HB := Aside0.mk (below_step HA.out hb)
  clear hb
  go_wp2_with fail
  rw [HT.out]
  exact ⟨by rw [Bool.not_and]; rfl, HB.out⟩
theorem atom3_calls (b0 b2 : Nat) (a0_0 : Int) (a0_1 : Int) (A0_2 : Option Addr) (c0_2 : Nat) (l0_2 : List (S55)) (a0_3 : Nat) (a0_4 : Nat) (A0_5 : Option Addr) (c0_5 : Nat) (l0_5 : List (S26)) (n : Int) (w : World) (hr0_2 : Kd.C k55 w A0_2 l0_2.length l0_2) (hm : l0_2.length ≤ 1000000) (hB : w.heap[b0]? = some (.cells #[.int .i64 a0_0, .int .i64 a0_1, .slice A0_2 l0_2.length c0_2, .float .f64 a0_3, .float .f64 a0_4, .slice A0_5 l0_5.length c0_5] 26 (0, 0))) (hB2 : w.heap[b2]? = some (.cells #[.func (.func 48) #[] #[.pointer (some ⟨b0, 0, none⟩)]] 69 (0, 0))) :
    Calls Try.prog 54 #[.int .i64 n, .pointer (some ⟨b2, 0, none⟩)] w fun e w' => e = .returned (.bool (!hasB l0_2 n)) ∧ Below w.heap.size w w' := by
  obtain ⟨T, hT⟩ : ∃ T : Ending → World → Prop, T = fun e w' => e = .returned (.bool (!hasB l0_2 n)) ∧ Below w.heap.size w w' := ⟨_, rfl⟩
  have HT := Aside0.mk hT
  rw [← hT]
  clear hT
  have HC := Aside0.mk (atom1_calls b0 a0_0 a0_1 A0_2 c0_2 l0_2 a0_3 a0_4 A0_5 c0_5 l0_5 n w hr0_2 hm hB)
  have f0 : w.cell? ⟨b2, 0, none⟩ = some (.func (.func 48) #[] #[.pointer (some ⟨b0, 0, none⟩)]) := blk_cell hB2 0
  have hlt := blk_lt hB2
  have hne : b2 ≠ w.heap.size := by omega
  have eg : ∀ args w, (callFunc 48 args).run Try.prog w = .ok (.enter 48 args) w := fun args w => enters_ Try.func48 rfl rfl args w
  clear hr0_2 hB hB2
  go_enter Try.func54, Try.ntmps54
  go_wp2_with fail
  refine HC.out.mono ?_
  rintro e w1 ⟨rfl, hb⟩
  have HB := Aside0.mk hb
  clear hb
  go_wp2_with fail
  rw [HT.out]
  exact ⟨rfl, HB.out⟩
theorem realsD_iff (l : List Int) : realsD l = true ↔ realsB l := by
  unfold realsD realsB okUpto
  simp only [Bool.and_eq_true, decide_eq_true_eq, List.all_eq_true, List.mem_range]
theorem vals_length (l : List Int) (k : Nat) : (vals l k).length = k := by unfold vals; simp
theorem reals_row {w : World} {n0 : Nat} {v : Value} {l : List Int} {m : Nat} (h : w.ownsRow n0 23 1 v m (fls (vals l m))) : ∃ A c, v = .slice A m c ∧ Kd.C Kd.flt w A (vals l m).length (vals l m) := by
  have e : w.ownsRow n0 23 1 v (vals l m).length (encs (Value.float .f64) (vals l m)) := by rw [vals_length]; exact h
  obtain ⟨A, c, e1, _, e2⟩ := Kd.R_reads (Kd.R_of_own (h1 := fun _ => rfl) (ok := fun _ => True) e (fun _ _ => trivial))
  rw [vals_length] at e1
  exact ⟨A, c, e1, e2⟩
theorem newA_at (w : World) (o : Obj) : (w.alloc o).heap[w.heap.size]? = some o := by simp only [World.alloc, Array.getElem?_push_size]
theorem newA_size (w : World) (o : Obj) : (w.alloc o).heap.size = w.heap.size + 1 := by simp only [World.alloc, Array.size_push]
/-- A world behind atom's parameters' boxes. -/
def aW (w : World) (E F : Array Value) : World := (w.alloc (.cells E 26)).alloc (.cells F 30)
theorem aW_below (w : World) (E F : Array Value) : Below w.heap.size w (aW w E F) := below_alloc (below_alloc (Below.refl _ _) _) _
theorem aW_size (w : World) (E F : Array Value) : (aW w E F).heap.size = w.heap.size + 2 := by rw [aW, newA_size, newA_size]
theorem aW_b0 (w : World) (E F : Array Value) : (aW w E F).heap[w.heap.size]? = some (.cells E 26 (0, 0)) := blk_alloc (newA_at w _) _
theorem aW_b1 (w : World) (E F : Array Value) : (aW w E F).heap[w.heap.size + 1]? = some (.cells F 30 (0, 0)) := by
  have := newA_at (w.alloc (.cells E 26)) (.cells F 30)
  rw [show (w.alloc (.cells E 26)).heap.size = w.heap.size + 1 from newA_size _ _] at this
  exact this
theorem atom_one (a0_0 : Int) (A0_2 : Option Addr) (c0_2 : Nat) (l0_2 : List (S55)) (a0_3 : Nat) (a0_4 : Nat) (A0_5 : Option Addr) (c0_5 : Nat) (l0_5 : List (S26)) (a1_0 : Int) (a1_1 : Int) (a1_2 : Int) (A1_3 : Option Addr) (c1_3 : Nat) (l1_3 : List (S55)) (A1_4 : Option Addr) (c1_4 : Nat) (l1_4 : List Int) (A1_5 : Option Addr) (c1_5 : Nat) (l1_5 : List Int) (r : Bool) (w : World) (hr0_2 : Kd.C k55 w A0_2 l0_2.length l0_2) (hc0_2 : l0_2.length ≤ c0_2) (hr0_5 : Kd.C k26 w A0_5 l0_5.length l0_5) (hc0_5 : l0_5.length ≤ c0_5) (hF : FaC w A1_3 c1_3 l1_3 A1_4 c1_4 l1_4 A1_5 c1_5 l1_5) (h : AtomOk 1 l0_2 a0_3 a0_4 a1_0 a1_1 a1_2 l1_3 l1_4 l1_5 r) :
    Calls Try.prog 32 #[.agg #[.int .i64 a0_0, .int .i64 1, .slice A0_2 l0_2.length c0_2, .float .f64 a0_3, .float .f64 a0_4, .slice A0_5 l0_5.length c0_5], .agg #[.int .i64 a1_0, .int .i64 a1_1, .int .i64 a1_2, .slice A1_3 l1_3.length c1_3, .slice A1_4 l1_4.length c1_4, .slice A1_5 l1_5.length c1_5]] w fun e w' => e = .returned (.bool r) ∧ Below w.heap.size w w' := by
  obtain ⟨T, hT⟩ : ∃ T : Ending → World → Prop, T = fun e w' => e = .returned (.bool r) ∧ Below w.heap.size w w' := ⟨_, rfl⟩
  have HT := Aside0.mk hT
  rw [← hT]
  clear hT
  obtain ⟨W, hW0⟩ : ∃ W, aW w #[.int .i64 a0_0, .int .i64 1, .slice A0_2 l0_2.length c0_2, .float .f64 a0_3, .float .f64 a0_4, .slice A0_5 l0_5.length c0_5] #[.int .i64 a1_0, .int .i64 a1_1, .int .i64 a1_2, .slice A1_3 l1_3.length c1_3, .slice A1_4 l1_4.length c1_4, .slice A1_5 l1_5.length c1_5] = W := ⟨_, rfl⟩
  have hA := aW_below w #[.int .i64 a0_0, .int .i64 1, .slice A0_2 l0_2.length c0_2, .float .f64 a0_3, .float .f64 a0_4, .slice A0_5 l0_5.length c0_5] #[.int .i64 a1_0, .int .i64 a1_1, .int .i64 a1_2, .slice A1_3 l1_3.length c1_3, .slice A1_4 l1_4.length c1_4, .slice A1_5 l1_5.length c1_5]
  have hs := aW_size w #[.int .i64 a0_0, .int .i64 1, .slice A0_2 l0_2.length c0_2, .float .f64 a0_3, .float .f64 a0_4, .slice A0_5 l0_5.length c0_5] #[.int .i64 a1_0, .int .i64 a1_1, .int .i64 a1_2, .slice A1_3 l1_3.length c1_3, .slice A1_4 l1_4.length c1_4, .slice A1_5 l1_5.length c1_5]
  have g0 := aW_b0 w #[.int .i64 a0_0, .int .i64 1, .slice A0_2 l0_2.length c0_2, .float .f64 a0_3, .float .f64 a0_4, .slice A0_5 l0_5.length c0_5] #[.int .i64 a1_0, .int .i64 a1_1, .int .i64 a1_2, .slice A1_3 l1_3.length c1_3, .slice A1_4 l1_4.length c1_4, .slice A1_5 l1_5.length c1_5]
  have g1 := aW_b1 w #[.int .i64 a0_0, .int .i64 1, .slice A0_2 l0_2.length c0_2, .float .f64 a0_3, .float .f64 a0_4, .slice A0_5 l0_5.length c0_5] #[.int .i64 a1_0, .int .i64 a1_1, .int .i64 a1_2, .slice A1_3 l1_3.length c1_3, .slice A1_4 l1_4.length c1_4, .slice A1_5 l1_5.length c1_5]
  rw [hW0] at hA hs g0 g1
  have HE2 := Aside0.mk hr0_2
  have HE5 := Aside0.mk hr0_5
  have HF := Aside0.mk hF
  have HH := Aside0.mk h
  have HA := Aside0.mk hA
  have H2 := Aside0.mk hc0_2
  have H5 := Aside0.mk hc0_5
  have S0 := Aside0.mk hs
  have G0 := Aside0.mk g0
  have G1 := Aside0.mk g1
  clear hr0_2 hr0_5 hF h hA hc0_2 hc0_5 hs g0 g1
  go_enter Try.func32, Try.ntmps32
  go_upto_region 1 with (fail)
  unfold aW at hW0
  rw [hW0]
  clear hW0
  have fz := blk_frozen (newA_at W (.cells #[.nilFunc] 69))
  have k0 : (W.alloc (.cells #[.nilFunc] 69)).cell? ⟨W.heap.size, 0, none⟩ = some .nilFunc := blk_cell (newA_at W (.cells #[.nilFunc] 69)) 0
  go_upto_region 2 with (fail)
  clear fz k0
  have n0 := blk_alloc G0.out (.cells #[.func (.func 48) #[] #[.pointer (some ⟨w.heap.size, 0, none⟩)]] 69)
  have n1 := blk_alloc G1.out (.cells #[.func (.func 48) #[] #[.pointer (some ⟨w.heap.size, 0, none⟩)]] 69)
  have n2 := newA_at W (.cells #[.func (.func 48) #[] #[.pointer (some ⟨w.heap.size, 0, none⟩)]] 69)
  have nb := below_alloc HA.out (.cells #[.func (.func 48) #[] #[.pointer (some ⟨w.heap.size, 0, none⟩)]] 69)
  clear G0 G1 HA
  generalize W.alloc (.cells #[.func (.func 48) #[] #[.pointer (some ⟨w.heap.size, 0, none⟩)]] 69) = V at n0 n1 n2 nb ⊢
  rw [S0.out] at n2 ⊢
  clear S0
  have G0 := Aside0.mk n0
  have G1 := Aside0.mk n1
  have G2 := Aside0.mk n2
  have HB := Aside0.mk nb
  have e0 : V.cell? ⟨w.heap.size, 0, none⟩ = some (.int .i64 a0_0) := blk_cell n0 0
  have e1 : V.cell? ⟨w.heap.size, 1, none⟩ = some (.int .i64 1) := blk_cell n0 1
  have e2 : V.cell? ⟨w.heap.size, 2, none⟩ = some (.slice A0_2 l0_2.length c0_2) := blk_cell n0 2
  have e3 : V.cell? ⟨w.heap.size, 3, none⟩ = some (.float .f64 a0_3) := blk_cell n0 3
  have e4 : V.cell? ⟨w.heap.size, 4, none⟩ = some (.float .f64 a0_4) := blk_cell n0 4
  have e5 : V.cell? ⟨w.heap.size, 5, none⟩ = some (.slice A0_5 l0_5.length c0_5) := blk_cell n0 5
  have f0 : V.cell? ⟨w.heap.size + 1, 0, none⟩ = some (.int .i64 a1_0) := blk_cell n1 0
  have f1 : V.cell? ⟨w.heap.size + 1, 1, none⟩ = some (.int .i64 a1_1) := blk_cell n1 1
  have f2 : V.cell? ⟨w.heap.size + 1, 2, none⟩ = some (.int .i64 a1_2) := blk_cell n1 2
  have f3 : V.cell? ⟨w.heap.size + 1, 3, none⟩ = some (.slice A1_3 l1_3.length c1_3) := blk_cell n1 3
  have f4 : V.cell? ⟨w.heap.size + 1, 4, none⟩ = some (.slice A1_4 l1_4.length c1_4) := blk_cell n1 4
  have f5 : V.cell? ⟨w.heap.size + 1, 5, none⟩ = some (.slice A1_5 l1_5.length c1_5) := blk_cell n1 5
  have q0 : V.cell? ⟨w.heap.size + 2, 0, none⟩ = some (.func (.func 48) #[] #[.pointer (some ⟨w.heap.size, 0, none⟩)]) := blk_cell n2 0
  clear n0 n1 n2 nb
  have HC := Aside0.mk (atom1_calls w.heap.size a0_0 1 A0_2 c0_2 l0_2 a0_3 a0_4 A0_5 c0_5 l0_5 a1_0 V (Kd.C_below HE2.out HB.out) HH.out.lr G0.out)
  have HR := Aside0.mk (show r = hasB l0_2 a1_0 from HH.out.ans.symm)
  have eg : ∀ args w, (callFunc 48 args).run Try.prog w = .ok (.enter 48 args) w := fun args w => enters_ Try.func48 rfl rfl args w
  go_wp2_with fail
  refine HC.out.mono ?_
  rintro e w1 ⟨rfl, hb⟩
  have HB1 := Aside0.mk (below_step HB.out hb)
  clear hb
  go_wp2_with fail
  rw [HT.out, HR.out]
  exact ⟨rfl, HB1.out⟩
theorem atom_two (a0_0 : Int) (A0_2 : Option Addr) (c0_2 : Nat) (l0_2 : List (S55)) (a0_3 : Nat) (a0_4 : Nat) (A0_5 : Option Addr) (c0_5 : Nat) (l0_5 : List (S26)) (a1_0 : Int) (a1_1 : Int) (a1_2 : Int) (A1_3 : Option Addr) (c1_3 : Nat) (l1_3 : List (S55)) (A1_4 : Option Addr) (c1_4 : Nat) (l1_4 : List Int) (A1_5 : Option Addr) (c1_5 : Nat) (l1_5 : List Int) (r : Bool) (w : World) (hr0_2 : Kd.C k55 w A0_2 l0_2.length l0_2) (hc0_2 : l0_2.length ≤ c0_2) (hr0_5 : Kd.C k26 w A0_5 l0_5.length l0_5) (hc0_5 : l0_5.length ≤ c0_5) (hF : FaC w A1_3 c1_3 l1_3 A1_4 c1_4 l1_4 A1_5 c1_5 l1_5) (h : AtomOk 2 l0_2 a0_3 a0_4 a1_0 a1_1 a1_2 l1_3 l1_4 l1_5 r) :
    Calls Try.prog 32 #[.agg #[.int .i64 a0_0, .int .i64 2, .slice A0_2 l0_2.length c0_2, .float .f64 a0_3, .float .f64 a0_4, .slice A0_5 l0_5.length c0_5], .agg #[.int .i64 a1_0, .int .i64 a1_1, .int .i64 a1_2, .slice A1_3 l1_3.length c1_3, .slice A1_4 l1_4.length c1_4, .slice A1_5 l1_5.length c1_5]] w fun e w' => e = .returned (.bool r) ∧ Below w.heap.size w w' := by
  obtain ⟨T, hT⟩ : ∃ T : Ending → World → Prop, T = fun e w' => e = .returned (.bool r) ∧ Below w.heap.size w w' := ⟨_, rfl⟩
  have HT := Aside0.mk hT
  rw [← hT]
  clear hT
  obtain ⟨W, hW0⟩ : ∃ W, aW w #[.int .i64 a0_0, .int .i64 2, .slice A0_2 l0_2.length c0_2, .float .f64 a0_3, .float .f64 a0_4, .slice A0_5 l0_5.length c0_5] #[.int .i64 a1_0, .int .i64 a1_1, .int .i64 a1_2, .slice A1_3 l1_3.length c1_3, .slice A1_4 l1_4.length c1_4, .slice A1_5 l1_5.length c1_5] = W := ⟨_, rfl⟩
  have hA := aW_below w #[.int .i64 a0_0, .int .i64 2, .slice A0_2 l0_2.length c0_2, .float .f64 a0_3, .float .f64 a0_4, .slice A0_5 l0_5.length c0_5] #[.int .i64 a1_0, .int .i64 a1_1, .int .i64 a1_2, .slice A1_3 l1_3.length c1_3, .slice A1_4 l1_4.length c1_4, .slice A1_5 l1_5.length c1_5]
  have hs := aW_size w #[.int .i64 a0_0, .int .i64 2, .slice A0_2 l0_2.length c0_2, .float .f64 a0_3, .float .f64 a0_4, .slice A0_5 l0_5.length c0_5] #[.int .i64 a1_0, .int .i64 a1_1, .int .i64 a1_2, .slice A1_3 l1_3.length c1_3, .slice A1_4 l1_4.length c1_4, .slice A1_5 l1_5.length c1_5]
  have g0 := aW_b0 w #[.int .i64 a0_0, .int .i64 2, .slice A0_2 l0_2.length c0_2, .float .f64 a0_3, .float .f64 a0_4, .slice A0_5 l0_5.length c0_5] #[.int .i64 a1_0, .int .i64 a1_1, .int .i64 a1_2, .slice A1_3 l1_3.length c1_3, .slice A1_4 l1_4.length c1_4, .slice A1_5 l1_5.length c1_5]
  have g1 := aW_b1 w #[.int .i64 a0_0, .int .i64 2, .slice A0_2 l0_2.length c0_2, .float .f64 a0_3, .float .f64 a0_4, .slice A0_5 l0_5.length c0_5] #[.int .i64 a1_0, .int .i64 a1_1, .int .i64 a1_2, .slice A1_3 l1_3.length c1_3, .slice A1_4 l1_4.length c1_4, .slice A1_5 l1_5.length c1_5]
  rw [hW0] at hA hs g0 g1
  have HE2 := Aside0.mk hr0_2
  have HE5 := Aside0.mk hr0_5
  have HF := Aside0.mk hF
  have HH := Aside0.mk h
  have HA := Aside0.mk hA
  have H2 := Aside0.mk hc0_2
  have H5 := Aside0.mk hc0_5
  have S0 := Aside0.mk hs
  have G0 := Aside0.mk g0
  have G1 := Aside0.mk g1
  clear hr0_2 hr0_5 hF h hA hc0_2 hc0_5 hs g0 g1
  go_enter Try.func32, Try.ntmps32
  go_upto_region 1 with (fail)
  unfold aW at hW0
  rw [hW0]
  clear hW0
  have fz := blk_frozen (newA_at W (.cells #[.nilFunc] 69))
  have k0 : (W.alloc (.cells #[.nilFunc] 69)).cell? ⟨W.heap.size, 0, none⟩ = some .nilFunc := blk_cell (newA_at W (.cells #[.nilFunc] 69)) 0
  go_upto_region 2 with (fail)
  clear fz k0
  have n0 := blk_alloc G0.out (.cells #[.func (.func 48) #[] #[.pointer (some ⟨w.heap.size, 0, none⟩)]] 69)
  have n1 := blk_alloc G1.out (.cells #[.func (.func 48) #[] #[.pointer (some ⟨w.heap.size, 0, none⟩)]] 69)
  have n2 := newA_at W (.cells #[.func (.func 48) #[] #[.pointer (some ⟨w.heap.size, 0, none⟩)]] 69)
  have nb := below_alloc HA.out (.cells #[.func (.func 48) #[] #[.pointer (some ⟨w.heap.size, 0, none⟩)]] 69)
  clear G0 G1 HA
  generalize W.alloc (.cells #[.func (.func 48) #[] #[.pointer (some ⟨w.heap.size, 0, none⟩)]] 69) = V at n0 n1 n2 nb ⊢
  rw [S0.out] at n2 ⊢
  clear S0
  have G0 := Aside0.mk n0
  have G1 := Aside0.mk n1
  have G2 := Aside0.mk n2
  have HB := Aside0.mk nb
  have e0 : V.cell? ⟨w.heap.size, 0, none⟩ = some (.int .i64 a0_0) := blk_cell n0 0
  have e1 : V.cell? ⟨w.heap.size, 1, none⟩ = some (.int .i64 2) := blk_cell n0 1
  have e2 : V.cell? ⟨w.heap.size, 2, none⟩ = some (.slice A0_2 l0_2.length c0_2) := blk_cell n0 2
  have e3 : V.cell? ⟨w.heap.size, 3, none⟩ = some (.float .f64 a0_3) := blk_cell n0 3
  have e4 : V.cell? ⟨w.heap.size, 4, none⟩ = some (.float .f64 a0_4) := blk_cell n0 4
  have e5 : V.cell? ⟨w.heap.size, 5, none⟩ = some (.slice A0_5 l0_5.length c0_5) := blk_cell n0 5
  have f0 : V.cell? ⟨w.heap.size + 1, 0, none⟩ = some (.int .i64 a1_0) := blk_cell n1 0
  have f1 : V.cell? ⟨w.heap.size + 1, 1, none⟩ = some (.int .i64 a1_1) := blk_cell n1 1
  have f2 : V.cell? ⟨w.heap.size + 1, 2, none⟩ = some (.int .i64 a1_2) := blk_cell n1 2
  have f3 : V.cell? ⟨w.heap.size + 1, 3, none⟩ = some (.slice A1_3 l1_3.length c1_3) := blk_cell n1 3
  have f4 : V.cell? ⟨w.heap.size + 1, 4, none⟩ = some (.slice A1_4 l1_4.length c1_4) := blk_cell n1 4
  have f5 : V.cell? ⟨w.heap.size + 1, 5, none⟩ = some (.slice A1_5 l1_5.length c1_5) := blk_cell n1 5
  have q0 : V.cell? ⟨w.heap.size + 2, 0, none⟩ = some (.func (.func 48) #[] #[.pointer (some ⟨w.heap.size, 0, none⟩)]) := blk_cell n2 0
  clear n0 n1 n2 nb
  have HC := Aside0.mk (atom1_calls w.heap.size a0_0 2 A0_2 c0_2 l0_2 a0_3 a0_4 A0_5 c0_5 l0_5 a1_1 V (Kd.C_below HE2.out HB.out) HH.out.lr G0.out)
  have HR := Aside0.mk (show r = hasB l0_2 a1_1 from HH.out.ans.symm)
  have eg : ∀ args w, (callFunc 48 args).run Try.prog w = .ok (.enter 48 args) w := fun args w => enters_ Try.func48 rfl rfl args w
  go_wp2_with fail
  refine HC.out.mono ?_
  rintro e w1 ⟨rfl, hb⟩
  have HB1 := Aside0.mk (below_step HB.out hb)
  clear hb
  go_wp2_with fail
  rw [HT.out, HR.out]
  exact ⟨rfl, HB1.out⟩
theorem atom_three (a0_0 : Int) (A0_2 : Option Addr) (c0_2 : Nat) (l0_2 : List (S55)) (a0_3 : Nat) (a0_4 : Nat) (A0_5 : Option Addr) (c0_5 : Nat) (l0_5 : List (S26)) (a1_0 : Int) (a1_1 : Int) (a1_2 : Int) (A1_3 : Option Addr) (c1_3 : Nat) (l1_3 : List (S55)) (A1_4 : Option Addr) (c1_4 : Nat) (l1_4 : List Int) (A1_5 : Option Addr) (c1_5 : Nat) (l1_5 : List Int) (r : Bool) (w : World) (hr0_2 : Kd.C k55 w A0_2 l0_2.length l0_2) (hc0_2 : l0_2.length ≤ c0_2) (hr0_5 : Kd.C k26 w A0_5 l0_5.length l0_5) (hc0_5 : l0_5.length ≤ c0_5) (hF : FaC w A1_3 c1_3 l1_3 A1_4 c1_4 l1_4 A1_5 c1_5 l1_5) (h : AtomOk 3 l0_2 a0_3 a0_4 a1_0 a1_1 a1_2 l1_3 l1_4 l1_5 r) :
    Calls Try.prog 32 #[.agg #[.int .i64 a0_0, .int .i64 3, .slice A0_2 l0_2.length c0_2, .float .f64 a0_3, .float .f64 a0_4, .slice A0_5 l0_5.length c0_5], .agg #[.int .i64 a1_0, .int .i64 a1_1, .int .i64 a1_2, .slice A1_3 l1_3.length c1_3, .slice A1_4 l1_4.length c1_4, .slice A1_5 l1_5.length c1_5]] w fun e w' => e = .returned (.bool r) ∧ Below w.heap.size w w' := by
  obtain ⟨T, hT⟩ : ∃ T : Ending → World → Prop, T = fun e w' => e = .returned (.bool r) ∧ Below w.heap.size w w' := ⟨_, rfl⟩
  have HT := Aside0.mk hT
  rw [← hT]
  clear hT
  obtain ⟨W, hW0⟩ : ∃ W, aW w #[.int .i64 a0_0, .int .i64 3, .slice A0_2 l0_2.length c0_2, .float .f64 a0_3, .float .f64 a0_4, .slice A0_5 l0_5.length c0_5] #[.int .i64 a1_0, .int .i64 a1_1, .int .i64 a1_2, .slice A1_3 l1_3.length c1_3, .slice A1_4 l1_4.length c1_4, .slice A1_5 l1_5.length c1_5] = W := ⟨_, rfl⟩
  have hA := aW_below w #[.int .i64 a0_0, .int .i64 3, .slice A0_2 l0_2.length c0_2, .float .f64 a0_3, .float .f64 a0_4, .slice A0_5 l0_5.length c0_5] #[.int .i64 a1_0, .int .i64 a1_1, .int .i64 a1_2, .slice A1_3 l1_3.length c1_3, .slice A1_4 l1_4.length c1_4, .slice A1_5 l1_5.length c1_5]
  have hs := aW_size w #[.int .i64 a0_0, .int .i64 3, .slice A0_2 l0_2.length c0_2, .float .f64 a0_3, .float .f64 a0_4, .slice A0_5 l0_5.length c0_5] #[.int .i64 a1_0, .int .i64 a1_1, .int .i64 a1_2, .slice A1_3 l1_3.length c1_3, .slice A1_4 l1_4.length c1_4, .slice A1_5 l1_5.length c1_5]
  have g0 := aW_b0 w #[.int .i64 a0_0, .int .i64 3, .slice A0_2 l0_2.length c0_2, .float .f64 a0_3, .float .f64 a0_4, .slice A0_5 l0_5.length c0_5] #[.int .i64 a1_0, .int .i64 a1_1, .int .i64 a1_2, .slice A1_3 l1_3.length c1_3, .slice A1_4 l1_4.length c1_4, .slice A1_5 l1_5.length c1_5]
  have g1 := aW_b1 w #[.int .i64 a0_0, .int .i64 3, .slice A0_2 l0_2.length c0_2, .float .f64 a0_3, .float .f64 a0_4, .slice A0_5 l0_5.length c0_5] #[.int .i64 a1_0, .int .i64 a1_1, .int .i64 a1_2, .slice A1_3 l1_3.length c1_3, .slice A1_4 l1_4.length c1_4, .slice A1_5 l1_5.length c1_5]
  rw [hW0] at hA hs g0 g1
  have HE2 := Aside0.mk hr0_2
  have HE5 := Aside0.mk hr0_5
  have HF := Aside0.mk hF
  have HH := Aside0.mk h
  have HA := Aside0.mk hA
  have H2 := Aside0.mk hc0_2
  have H5 := Aside0.mk hc0_5
  have S0 := Aside0.mk hs
  have G0 := Aside0.mk g0
  have G1 := Aside0.mk g1
  clear hr0_2 hr0_5 hF h hA hc0_2 hc0_5 hs g0 g1
  go_enter Try.func32, Try.ntmps32
  go_upto_region 1 with (fail)
  unfold aW at hW0
  rw [hW0]
  clear hW0
  have fz := blk_frozen (newA_at W (.cells #[.nilFunc] 69))
  have k0 : (W.alloc (.cells #[.nilFunc] 69)).cell? ⟨W.heap.size, 0, none⟩ = some .nilFunc := blk_cell (newA_at W (.cells #[.nilFunc] 69)) 0
  go_upto_region 2 with (fail)
  clear fz k0
  have n0 := blk_alloc G0.out (.cells #[.func (.func 48) #[] #[.pointer (some ⟨w.heap.size, 0, none⟩)]] 69)
  have n1 := blk_alloc G1.out (.cells #[.func (.func 48) #[] #[.pointer (some ⟨w.heap.size, 0, none⟩)]] 69)
  have n2 := newA_at W (.cells #[.func (.func 48) #[] #[.pointer (some ⟨w.heap.size, 0, none⟩)]] 69)
  have nb := below_alloc HA.out (.cells #[.func (.func 48) #[] #[.pointer (some ⟨w.heap.size, 0, none⟩)]] 69)
  clear G0 G1 HA
  generalize W.alloc (.cells #[.func (.func 48) #[] #[.pointer (some ⟨w.heap.size, 0, none⟩)]] 69) = V at n0 n1 n2 nb ⊢
  rw [S0.out] at n2 ⊢
  clear S0
  have G0 := Aside0.mk n0
  have G1 := Aside0.mk n1
  have G2 := Aside0.mk n2
  have HB := Aside0.mk nb
  have e0 : V.cell? ⟨w.heap.size, 0, none⟩ = some (.int .i64 a0_0) := blk_cell n0 0
  have e1 : V.cell? ⟨w.heap.size, 1, none⟩ = some (.int .i64 3) := blk_cell n0 1
  have e2 : V.cell? ⟨w.heap.size, 2, none⟩ = some (.slice A0_2 l0_2.length c0_2) := blk_cell n0 2
  have e3 : V.cell? ⟨w.heap.size, 3, none⟩ = some (.float .f64 a0_3) := blk_cell n0 3
  have e4 : V.cell? ⟨w.heap.size, 4, none⟩ = some (.float .f64 a0_4) := blk_cell n0 4
  have e5 : V.cell? ⟨w.heap.size, 5, none⟩ = some (.slice A0_5 l0_5.length c0_5) := blk_cell n0 5
  have f0 : V.cell? ⟨w.heap.size + 1, 0, none⟩ = some (.int .i64 a1_0) := blk_cell n1 0
  have f1 : V.cell? ⟨w.heap.size + 1, 1, none⟩ = some (.int .i64 a1_1) := blk_cell n1 1
  have f2 : V.cell? ⟨w.heap.size + 1, 2, none⟩ = some (.int .i64 a1_2) := blk_cell n1 2
  have f3 : V.cell? ⟨w.heap.size + 1, 3, none⟩ = some (.slice A1_3 l1_3.length c1_3) := blk_cell n1 3
  have f4 : V.cell? ⟨w.heap.size + 1, 4, none⟩ = some (.slice A1_4 l1_4.length c1_4) := blk_cell n1 4
  have f5 : V.cell? ⟨w.heap.size + 1, 5, none⟩ = some (.slice A1_5 l1_5.length c1_5) := blk_cell n1 5
  have q0 : V.cell? ⟨w.heap.size + 2, 0, none⟩ = some (.func (.func 48) #[] #[.pointer (some ⟨w.heap.size, 0, none⟩)]) := blk_cell n2 0
  clear n0 n1 n2 nb
  have HC := Aside0.mk (atom1_calls w.heap.size a0_0 3 A0_2 c0_2 l0_2 a0_3 a0_4 A0_5 c0_5 l0_5 a1_2 V (Kd.C_below HE2.out HB.out) HH.out.lr G0.out)
  have HR := Aside0.mk (show r = hasB l0_2 a1_2 from HH.out.ans.symm)
  have eg : ∀ args w, (callFunc 48 args).run Try.prog w = .ok (.enter 48 args) w := fun args w => enters_ Try.func48 rfl rfl args w
  go_wp2_with fail
  refine HC.out.mono ?_
  rintro e w1 ⟨rfl, hb⟩
  have HB1 := Aside0.mk (below_step HB.out hb)
  clear hb
  go_wp2_with fail
  rw [HT.out, HR.out]
  exact ⟨rfl, HB1.out⟩
theorem atom_four (a0_0 : Int) (A0_2 : Option Addr) (c0_2 : Nat) (l0_2 : List (S55)) (a0_3 : Nat) (a0_4 : Nat) (A0_5 : Option Addr) (c0_5 : Nat) (l0_5 : List (S26)) (a1_0 : Int) (a1_1 : Int) (a1_2 : Int) (A1_3 : Option Addr) (c1_3 : Nat) (l1_3 : List (S55)) (A1_4 : Option Addr) (c1_4 : Nat) (l1_4 : List Int) (A1_5 : Option Addr) (c1_5 : Nat) (l1_5 : List Int) (r : Bool) (w : World) (hr0_2 : Kd.C k55 w A0_2 l0_2.length l0_2) (hc0_2 : l0_2.length ≤ c0_2) (hr0_5 : Kd.C k26 w A0_5 l0_5.length l0_5) (hc0_5 : l0_5.length ≤ c0_5) (hF : FaC w A1_3 c1_3 l1_3 A1_4 c1_4 l1_4 A1_5 c1_5 l1_5) (h : AtomOk 4 l0_2 a0_3 a0_4 a1_0 a1_1 a1_2 l1_3 l1_4 l1_5 r) :
    Calls Try.prog 32 #[.agg #[.int .i64 a0_0, .int .i64 4, .slice A0_2 l0_2.length c0_2, .float .f64 a0_3, .float .f64 a0_4, .slice A0_5 l0_5.length c0_5], .agg #[.int .i64 a1_0, .int .i64 a1_1, .int .i64 a1_2, .slice A1_3 l1_3.length c1_3, .slice A1_4 l1_4.length c1_4, .slice A1_5 l1_5.length c1_5]] w fun e w' => e = .returned (.bool r) ∧ Below w.heap.size w w' := by
  obtain ⟨T, hT⟩ : ∃ T : Ending → World → Prop, T = fun e w' => e = .returned (.bool r) ∧ Below w.heap.size w w' := ⟨_, rfl⟩
  have HT := Aside0.mk hT
  rw [← hT]
  clear hT
  obtain ⟨W, hW0⟩ : ∃ W, aW w #[.int .i64 a0_0, .int .i64 4, .slice A0_2 l0_2.length c0_2, .float .f64 a0_3, .float .f64 a0_4, .slice A0_5 l0_5.length c0_5] #[.int .i64 a1_0, .int .i64 a1_1, .int .i64 a1_2, .slice A1_3 l1_3.length c1_3, .slice A1_4 l1_4.length c1_4, .slice A1_5 l1_5.length c1_5] = W := ⟨_, rfl⟩
  have hA := aW_below w #[.int .i64 a0_0, .int .i64 4, .slice A0_2 l0_2.length c0_2, .float .f64 a0_3, .float .f64 a0_4, .slice A0_5 l0_5.length c0_5] #[.int .i64 a1_0, .int .i64 a1_1, .int .i64 a1_2, .slice A1_3 l1_3.length c1_3, .slice A1_4 l1_4.length c1_4, .slice A1_5 l1_5.length c1_5]
  have hs := aW_size w #[.int .i64 a0_0, .int .i64 4, .slice A0_2 l0_2.length c0_2, .float .f64 a0_3, .float .f64 a0_4, .slice A0_5 l0_5.length c0_5] #[.int .i64 a1_0, .int .i64 a1_1, .int .i64 a1_2, .slice A1_3 l1_3.length c1_3, .slice A1_4 l1_4.length c1_4, .slice A1_5 l1_5.length c1_5]
  have g0 := aW_b0 w #[.int .i64 a0_0, .int .i64 4, .slice A0_2 l0_2.length c0_2, .float .f64 a0_3, .float .f64 a0_4, .slice A0_5 l0_5.length c0_5] #[.int .i64 a1_0, .int .i64 a1_1, .int .i64 a1_2, .slice A1_3 l1_3.length c1_3, .slice A1_4 l1_4.length c1_4, .slice A1_5 l1_5.length c1_5]
  have g1 := aW_b1 w #[.int .i64 a0_0, .int .i64 4, .slice A0_2 l0_2.length c0_2, .float .f64 a0_3, .float .f64 a0_4, .slice A0_5 l0_5.length c0_5] #[.int .i64 a1_0, .int .i64 a1_1, .int .i64 a1_2, .slice A1_3 l1_3.length c1_3, .slice A1_4 l1_4.length c1_4, .slice A1_5 l1_5.length c1_5]
  rw [hW0] at hA hs g0 g1
  have HE2 := Aside0.mk hr0_2
  have HE5 := Aside0.mk hr0_5
  have HF := Aside0.mk hF
  have HH := Aside0.mk h
  have HA := Aside0.mk hA
  have H2 := Aside0.mk hc0_2
  have H5 := Aside0.mk hc0_5
  have S0 := Aside0.mk hs
  have G0 := Aside0.mk g0
  have G1 := Aside0.mk g1
  clear hr0_2 hr0_5 hF h hA hc0_2 hc0_5 hs g0 g1
  go_enter Try.func32, Try.ntmps32
  go_upto_region 1 with (fail)
  unfold aW at hW0
  rw [hW0]
  clear hW0
  have fz := blk_frozen (newA_at W (.cells #[.nilFunc] 69))
  have k0 : (W.alloc (.cells #[.nilFunc] 69)).cell? ⟨W.heap.size, 0, none⟩ = some .nilFunc := blk_cell (newA_at W (.cells #[.nilFunc] 69)) 0
  go_upto_region 2 with (fail)
  clear fz k0
  have n0 := blk_alloc G0.out (.cells #[.func (.func 48) #[] #[.pointer (some ⟨w.heap.size, 0, none⟩)]] 69)
  have n1 := blk_alloc G1.out (.cells #[.func (.func 48) #[] #[.pointer (some ⟨w.heap.size, 0, none⟩)]] 69)
  have n2 := newA_at W (.cells #[.func (.func 48) #[] #[.pointer (some ⟨w.heap.size, 0, none⟩)]] 69)
  have nb := below_alloc HA.out (.cells #[.func (.func 48) #[] #[.pointer (some ⟨w.heap.size, 0, none⟩)]] 69)
  clear G0 G1 HA
  generalize W.alloc (.cells #[.func (.func 48) #[] #[.pointer (some ⟨w.heap.size, 0, none⟩)]] 69) = V at n0 n1 n2 nb ⊢
  rw [S0.out] at n2 ⊢
  clear S0
  have G0 := Aside0.mk n0
  have G1 := Aside0.mk n1
  have G2 := Aside0.mk n2
  have HB := Aside0.mk nb
  have e0 : V.cell? ⟨w.heap.size, 0, none⟩ = some (.int .i64 a0_0) := blk_cell n0 0
  have e1 : V.cell? ⟨w.heap.size, 1, none⟩ = some (.int .i64 4) := blk_cell n0 1
  have e2 : V.cell? ⟨w.heap.size, 2, none⟩ = some (.slice A0_2 l0_2.length c0_2) := blk_cell n0 2
  have e3 : V.cell? ⟨w.heap.size, 3, none⟩ = some (.float .f64 a0_3) := blk_cell n0 3
  have e4 : V.cell? ⟨w.heap.size, 4, none⟩ = some (.float .f64 a0_4) := blk_cell n0 4
  have e5 : V.cell? ⟨w.heap.size, 5, none⟩ = some (.slice A0_5 l0_5.length c0_5) := blk_cell n0 5
  have f0 : V.cell? ⟨w.heap.size + 1, 0, none⟩ = some (.int .i64 a1_0) := blk_cell n1 0
  have f1 : V.cell? ⟨w.heap.size + 1, 1, none⟩ = some (.int .i64 a1_1) := blk_cell n1 1
  have f2 : V.cell? ⟨w.heap.size + 1, 2, none⟩ = some (.int .i64 a1_2) := blk_cell n1 2
  have f3 : V.cell? ⟨w.heap.size + 1, 3, none⟩ = some (.slice A1_3 l1_3.length c1_3) := blk_cell n1 3
  have f4 : V.cell? ⟨w.heap.size + 1, 4, none⟩ = some (.slice A1_4 l1_4.length c1_4) := blk_cell n1 4
  have f5 : V.cell? ⟨w.heap.size + 1, 5, none⟩ = some (.slice A1_5 l1_5.length c1_5) := blk_cell n1 5
  have q0 : V.cell? ⟨w.heap.size + 2, 0, none⟩ = some (.func (.func 48) #[] #[.pointer (some ⟨w.heap.size, 0, none⟩)]) := blk_cell n2 0
  clear n0 n1 n2 nb
  have hP : PredR 51 #[.pointer (some ⟨w.heap.size, 0, none⟩)] (fun x => !covD l0_2 x) V := fun W' x hbW => atom2_calls w.heap.size a0_0 4 A0_2 c0_2 l0_2 a0_3 a0_4 A0_5 c0_5 l0_5 x W' (Kd.C_below (Kd.C_below HE2.out HB.out) hbW) HH.out.lr HH.out.fit (blk_below G0.out hbW)
  have HC := Aside0.mk (ContainsFuncR A1_3 c1_3 l1_3 51 #[.pointer (some ⟨w.heap.size, 0, none⟩)] (fun x => !covD l0_2 x) V (HF.out.on HB.out).r3 (by have := HH.out.ls; omega) (fun args w => enters_ Try.func51 rfl rfl args w) hP)
  have HR := Aside0.mk (show r = !(l1_3.any fun x => !covD l0_2 x) from by rw [← all_any]; exact HH.out.ans.symm)
  clear hP HH
  generalize (l1_3.any fun x => !covD l0_2 x) = res at HC HR
  go_wp2_with fail
  refine HC.out.mono ?_
  rintro e w1 ⟨rfl, hb⟩
  have HB1 := Aside0.mk (below_step HB.out hb)
  clear hb
  go_wp2_with fail
  rw [HT.out, HR.out]
  exact ⟨rfl, HB1.out⟩
theorem atom_five (a0_0 : Int) (A0_2 : Option Addr) (c0_2 : Nat) (l0_2 : List (S55)) (a0_3 : Nat) (a0_4 : Nat) (A0_5 : Option Addr) (c0_5 : Nat) (l0_5 : List (S26)) (a1_0 : Int) (a1_1 : Int) (a1_2 : Int) (A1_3 : Option Addr) (c1_3 : Nat) (l1_3 : List (S55)) (A1_4 : Option Addr) (c1_4 : Nat) (l1_4 : List Int) (A1_5 : Option Addr) (c1_5 : Nat) (l1_5 : List Int) (r : Bool) (w : World) (hr0_2 : Kd.C k55 w A0_2 l0_2.length l0_2) (hc0_2 : l0_2.length ≤ c0_2) (hr0_5 : Kd.C k26 w A0_5 l0_5.length l0_5) (hc0_5 : l0_5.length ≤ c0_5) (hF : FaC w A1_3 c1_3 l1_3 A1_4 c1_4 l1_4 A1_5 c1_5 l1_5) (h : AtomOk 5 l0_2 a0_3 a0_4 a1_0 a1_1 a1_2 l1_3 l1_4 l1_5 r) :
    Calls Try.prog 32 #[.agg #[.int .i64 a0_0, .int .i64 5, .slice A0_2 l0_2.length c0_2, .float .f64 a0_3, .float .f64 a0_4, .slice A0_5 l0_5.length c0_5], .agg #[.int .i64 a1_0, .int .i64 a1_1, .int .i64 a1_2, .slice A1_3 l1_3.length c1_3, .slice A1_4 l1_4.length c1_4, .slice A1_5 l1_5.length c1_5]] w fun e w' => e = .returned (.bool r) ∧ Below w.heap.size w w' := by
  obtain ⟨T, hT⟩ : ∃ T : Ending → World → Prop, T = fun e w' => e = .returned (.bool r) ∧ Below w.heap.size w w' := ⟨_, rfl⟩
  have HT := Aside0.mk hT
  rw [← hT]
  clear hT
  obtain ⟨W, hW0⟩ : ∃ W, aW w #[.int .i64 a0_0, .int .i64 5, .slice A0_2 l0_2.length c0_2, .float .f64 a0_3, .float .f64 a0_4, .slice A0_5 l0_5.length c0_5] #[.int .i64 a1_0, .int .i64 a1_1, .int .i64 a1_2, .slice A1_3 l1_3.length c1_3, .slice A1_4 l1_4.length c1_4, .slice A1_5 l1_5.length c1_5] = W := ⟨_, rfl⟩
  have hA := aW_below w #[.int .i64 a0_0, .int .i64 5, .slice A0_2 l0_2.length c0_2, .float .f64 a0_3, .float .f64 a0_4, .slice A0_5 l0_5.length c0_5] #[.int .i64 a1_0, .int .i64 a1_1, .int .i64 a1_2, .slice A1_3 l1_3.length c1_3, .slice A1_4 l1_4.length c1_4, .slice A1_5 l1_5.length c1_5]
  have hs := aW_size w #[.int .i64 a0_0, .int .i64 5, .slice A0_2 l0_2.length c0_2, .float .f64 a0_3, .float .f64 a0_4, .slice A0_5 l0_5.length c0_5] #[.int .i64 a1_0, .int .i64 a1_1, .int .i64 a1_2, .slice A1_3 l1_3.length c1_3, .slice A1_4 l1_4.length c1_4, .slice A1_5 l1_5.length c1_5]
  have g0 := aW_b0 w #[.int .i64 a0_0, .int .i64 5, .slice A0_2 l0_2.length c0_2, .float .f64 a0_3, .float .f64 a0_4, .slice A0_5 l0_5.length c0_5] #[.int .i64 a1_0, .int .i64 a1_1, .int .i64 a1_2, .slice A1_3 l1_3.length c1_3, .slice A1_4 l1_4.length c1_4, .slice A1_5 l1_5.length c1_5]
  have g1 := aW_b1 w #[.int .i64 a0_0, .int .i64 5, .slice A0_2 l0_2.length c0_2, .float .f64 a0_3, .float .f64 a0_4, .slice A0_5 l0_5.length c0_5] #[.int .i64 a1_0, .int .i64 a1_1, .int .i64 a1_2, .slice A1_3 l1_3.length c1_3, .slice A1_4 l1_4.length c1_4, .slice A1_5 l1_5.length c1_5]
  rw [hW0] at hA hs g0 g1
  have HE2 := Aside0.mk hr0_2
  have HE5 := Aside0.mk hr0_5
  have HF := Aside0.mk hF
  have HH := Aside0.mk h
  have HA := Aside0.mk hA
  have H2 := Aside0.mk hc0_2
  have H5 := Aside0.mk hc0_5
  have S0 := Aside0.mk hs
  have G0 := Aside0.mk g0
  have G1 := Aside0.mk g1
  clear hr0_2 hr0_5 hF h hA hc0_2 hc0_5 hs g0 g1
  go_enter Try.func32, Try.ntmps32
  go_upto_region 1 with (fail)
  unfold aW at hW0
  rw [hW0]
  clear hW0
  have fz := blk_frozen (newA_at W (.cells #[.nilFunc] 69))
  have k0 : (W.alloc (.cells #[.nilFunc] 69)).cell? ⟨W.heap.size, 0, none⟩ = some .nilFunc := blk_cell (newA_at W (.cells #[.nilFunc] 69)) 0
  go_upto_region 2 with (fail)
  clear fz k0
  have n0 := blk_alloc G0.out (.cells #[.func (.func 48) #[] #[.pointer (some ⟨w.heap.size, 0, none⟩)]] 69)
  have n1 := blk_alloc G1.out (.cells #[.func (.func 48) #[] #[.pointer (some ⟨w.heap.size, 0, none⟩)]] 69)
  have n2 := newA_at W (.cells #[.func (.func 48) #[] #[.pointer (some ⟨w.heap.size, 0, none⟩)]] 69)
  have nb := below_alloc HA.out (.cells #[.func (.func 48) #[] #[.pointer (some ⟨w.heap.size, 0, none⟩)]] 69)
  clear G0 G1 HA
  generalize W.alloc (.cells #[.func (.func 48) #[] #[.pointer (some ⟨w.heap.size, 0, none⟩)]] 69) = V at n0 n1 n2 nb ⊢
  rw [S0.out] at n2 ⊢
  clear S0
  have G0 := Aside0.mk n0
  have G1 := Aside0.mk n1
  have G2 := Aside0.mk n2
  have HB := Aside0.mk nb
  have e0 : V.cell? ⟨w.heap.size, 0, none⟩ = some (.int .i64 a0_0) := blk_cell n0 0
  have e1 : V.cell? ⟨w.heap.size, 1, none⟩ = some (.int .i64 5) := blk_cell n0 1
  have e2 : V.cell? ⟨w.heap.size, 2, none⟩ = some (.slice A0_2 l0_2.length c0_2) := blk_cell n0 2
  have e3 : V.cell? ⟨w.heap.size, 3, none⟩ = some (.float .f64 a0_3) := blk_cell n0 3
  have e4 : V.cell? ⟨w.heap.size, 4, none⟩ = some (.float .f64 a0_4) := blk_cell n0 4
  have e5 : V.cell? ⟨w.heap.size, 5, none⟩ = some (.slice A0_5 l0_5.length c0_5) := blk_cell n0 5
  have f0 : V.cell? ⟨w.heap.size + 1, 0, none⟩ = some (.int .i64 a1_0) := blk_cell n1 0
  have f1 : V.cell? ⟨w.heap.size + 1, 1, none⟩ = some (.int .i64 a1_1) := blk_cell n1 1
  have f2 : V.cell? ⟨w.heap.size + 1, 2, none⟩ = some (.int .i64 a1_2) := blk_cell n1 2
  have f3 : V.cell? ⟨w.heap.size + 1, 3, none⟩ = some (.slice A1_3 l1_3.length c1_3) := blk_cell n1 3
  have f4 : V.cell? ⟨w.heap.size + 1, 4, none⟩ = some (.slice A1_4 l1_4.length c1_4) := blk_cell n1 4
  have f5 : V.cell? ⟨w.heap.size + 1, 5, none⟩ = some (.slice A1_5 l1_5.length c1_5) := blk_cell n1 5
  have q0 : V.cell? ⟨w.heap.size + 2, 0, none⟩ = some (.func (.func 48) #[] #[.pointer (some ⟨w.heap.size, 0, none⟩)]) := blk_cell n2 0
  clear n0 n1 n2 nb
  have hP : PredI 54 #[.pointer (some ⟨w.heap.size + 2, 0, none⟩)] (fun x => some (!hasB l0_2 x)) V := by
    intro W' x b hbW hx
    cases hx
    exact atom3_calls w.heap.size (w.heap.size + 2) a0_0 5 A0_2 c0_2 l0_2 a0_3 a0_4 A0_5 c0_5 l0_5 x W' (Kd.C_below (Kd.C_below HE2.out HB.out) hbW) HH.out.lr (blk_below G0.out hbW) (blk_below G2.out hbW)
  have HC := Aside0.mk (ContainsFuncI A1_4 c1_4 l1_4 54 #[.pointer (some ⟨w.heap.size + 2, 0, none⟩)] (fun x => some (!hasB l0_2 x)) _ V (HF.out.on HB.out).r4 (by have := HH.out.lv; omega) (fun args w => enters_ Try.func54 rfl rfl args w) hP (idxO_some (fun x => !hasB l0_2 x) l1_4 0))
  have HR := Aside0.mk (show r = !(decide (0 ≤ idxR (fun x => !hasB l0_2 x) l1_4 0)) from by
    have := idxR_any (fun x => !hasB l0_2 x) l1_4 0
    simp only [ge_iff_le] at this
    rw [this, ← all_any]; exact HH.out.ans.symm)
  clear hP HH
  generalize decide (0 ≤ idxR (fun x => !hasB l0_2 x) l1_4 0) = res at HC HR
  go_wp2_with fail
  refine HC.out.mono ?_
  rintro e w1 ⟨rfl, hb⟩
  have HB1 := Aside0.mk (below_step HB.out hb)
  clear hb
  go_wp2_with fail
  rw [HT.out, HR.out]
  exact ⟨rfl, HB1.out⟩
theorem atom_else (a0_0 : Int) (a0_1 : Int) (A0_2 : Option Addr) (c0_2 : Nat) (l0_2 : List (S55)) (a0_3 : Nat) (a0_4 : Nat) (A0_5 : Option Addr) (c0_5 : Nat) (l0_5 : List (S26)) (a1_0 : Int) (a1_1 : Int) (a1_2 : Int) (A1_3 : Option Addr) (c1_3 : Nat) (l1_3 : List (S55)) (A1_4 : Option Addr) (c1_4 : Nat) (l1_4 : List Int) (A1_5 : Option Addr) (c1_5 : Nat) (l1_5 : List Int) (r : Bool) (w : World) (hr0_2 : Kd.C k55 w A0_2 l0_2.length l0_2) (hc0_2 : l0_2.length ≤ c0_2) (hr0_5 : Kd.C k26 w A0_5 l0_5.length l0_5) (hc0_5 : l0_5.length ≤ c0_5) (hF : FaC w A1_3 c1_3 l1_3 A1_4 c1_4 l1_4 A1_5 c1_5 l1_5) (h : AtomOk a0_1 l0_2 a0_3 a0_4 a1_0 a1_1 a1_2 l1_3 l1_4 l1_5 r ∧ ¬ a0_1 = 1 ∧ ¬ a0_1 = 2 ∧ ¬ a0_1 = 3 ∧ ¬ a0_1 = 4 ∧ ¬ a0_1 = 5) :
    Calls Try.prog 32 #[.agg #[.int .i64 a0_0, .int .i64 a0_1, .slice A0_2 l0_2.length c0_2, .float .f64 a0_3, .float .f64 a0_4, .slice A0_5 l0_5.length c0_5], .agg #[.int .i64 a1_0, .int .i64 a1_1, .int .i64 a1_2, .slice A1_3 l1_3.length c1_3, .slice A1_4 l1_4.length c1_4, .slice A1_5 l1_5.length c1_5]] w fun e w' => e = .returned (.bool r) ∧ Below w.heap.size w w' := by
  obtain ⟨T, hT⟩ : ∃ T : Ending → World → Prop, T = fun e w' => e = .returned (.bool r) ∧ Below w.heap.size w w' := ⟨_, rfl⟩
  have HT := Aside0.mk hT
  rw [← hT]
  clear hT
  obtain ⟨W, hW0⟩ : ∃ W, aW w #[.int .i64 a0_0, .int .i64 a0_1, .slice A0_2 l0_2.length c0_2, .float .f64 a0_3, .float .f64 a0_4, .slice A0_5 l0_5.length c0_5] #[.int .i64 a1_0, .int .i64 a1_1, .int .i64 a1_2, .slice A1_3 l1_3.length c1_3, .slice A1_4 l1_4.length c1_4, .slice A1_5 l1_5.length c1_5] = W := ⟨_, rfl⟩
  have hA := aW_below w #[.int .i64 a0_0, .int .i64 a0_1, .slice A0_2 l0_2.length c0_2, .float .f64 a0_3, .float .f64 a0_4, .slice A0_5 l0_5.length c0_5] #[.int .i64 a1_0, .int .i64 a1_1, .int .i64 a1_2, .slice A1_3 l1_3.length c1_3, .slice A1_4 l1_4.length c1_4, .slice A1_5 l1_5.length c1_5]
  have hs := aW_size w #[.int .i64 a0_0, .int .i64 a0_1, .slice A0_2 l0_2.length c0_2, .float .f64 a0_3, .float .f64 a0_4, .slice A0_5 l0_5.length c0_5] #[.int .i64 a1_0, .int .i64 a1_1, .int .i64 a1_2, .slice A1_3 l1_3.length c1_3, .slice A1_4 l1_4.length c1_4, .slice A1_5 l1_5.length c1_5]
  have g0 := aW_b0 w #[.int .i64 a0_0, .int .i64 a0_1, .slice A0_2 l0_2.length c0_2, .float .f64 a0_3, .float .f64 a0_4, .slice A0_5 l0_5.length c0_5] #[.int .i64 a1_0, .int .i64 a1_1, .int .i64 a1_2, .slice A1_3 l1_3.length c1_3, .slice A1_4 l1_4.length c1_4, .slice A1_5 l1_5.length c1_5]
  have g1 := aW_b1 w #[.int .i64 a0_0, .int .i64 a0_1, .slice A0_2 l0_2.length c0_2, .float .f64 a0_3, .float .f64 a0_4, .slice A0_5 l0_5.length c0_5] #[.int .i64 a1_0, .int .i64 a1_1, .int .i64 a1_2, .slice A1_3 l1_3.length c1_3, .slice A1_4 l1_4.length c1_4, .slice A1_5 l1_5.length c1_5]
  rw [hW0] at hA hs g0 g1
  have HE2 := Aside0.mk hr0_2
  have HE5 := Aside0.mk hr0_5
  have HF := Aside0.mk hF
  have HH := Aside0.mk h
  have HA := Aside0.mk hA
  have H2 := Aside0.mk hc0_2
  have H5 := Aside0.mk hc0_5
  have S0 := Aside0.mk hs
  have G0 := Aside0.mk g0
  have G1 := Aside0.mk g1
  clear hr0_2 hr0_5 hF h hA hc0_2 hc0_5 hs g0 g1
  go_enter Try.func32, Try.ntmps32
  go_upto_region 1 with (fail)
  unfold aW at hW0
  rw [hW0]
  clear hW0
  have fz := blk_frozen (newA_at W (.cells #[.nilFunc] 69))
  have k0 : (W.alloc (.cells #[.nilFunc] 69)).cell? ⟨W.heap.size, 0, none⟩ = some .nilFunc := blk_cell (newA_at W (.cells #[.nilFunc] 69)) 0
  go_upto_region 2 with (fail)
  clear fz k0
  have n0 := blk_alloc G0.out (.cells #[.func (.func 48) #[] #[.pointer (some ⟨w.heap.size, 0, none⟩)]] 69)
  have n1 := blk_alloc G1.out (.cells #[.func (.func 48) #[] #[.pointer (some ⟨w.heap.size, 0, none⟩)]] 69)
  have n2 := newA_at W (.cells #[.func (.func 48) #[] #[.pointer (some ⟨w.heap.size, 0, none⟩)]] 69)
  have nb := below_alloc HA.out (.cells #[.func (.func 48) #[] #[.pointer (some ⟨w.heap.size, 0, none⟩)]] 69)
  clear G0 G1 HA
  generalize W.alloc (.cells #[.func (.func 48) #[] #[.pointer (some ⟨w.heap.size, 0, none⟩)]] 69) = V at n0 n1 n2 nb ⊢
  rw [S0.out] at n2 ⊢
  clear S0
  have G0 := Aside0.mk n0
  have G1 := Aside0.mk n1
  have G2 := Aside0.mk n2
  have HB := Aside0.mk nb
  have e0 : V.cell? ⟨w.heap.size, 0, none⟩ = some (.int .i64 a0_0) := blk_cell n0 0
  have e1 : V.cell? ⟨w.heap.size, 1, none⟩ = some (.int .i64 a0_1) := blk_cell n0 1
  have e2 : V.cell? ⟨w.heap.size, 2, none⟩ = some (.slice A0_2 l0_2.length c0_2) := blk_cell n0 2
  have e3 : V.cell? ⟨w.heap.size, 3, none⟩ = some (.float .f64 a0_3) := blk_cell n0 3
  have e4 : V.cell? ⟨w.heap.size, 4, none⟩ = some (.float .f64 a0_4) := blk_cell n0 4
  have e5 : V.cell? ⟨w.heap.size, 5, none⟩ = some (.slice A0_5 l0_5.length c0_5) := blk_cell n0 5
  have f0 : V.cell? ⟨w.heap.size + 1, 0, none⟩ = some (.int .i64 a1_0) := blk_cell n1 0
  have f1 : V.cell? ⟨w.heap.size + 1, 1, none⟩ = some (.int .i64 a1_1) := blk_cell n1 1
  have f2 : V.cell? ⟨w.heap.size + 1, 2, none⟩ = some (.int .i64 a1_2) := blk_cell n1 2
  have f3 : V.cell? ⟨w.heap.size + 1, 3, none⟩ = some (.slice A1_3 l1_3.length c1_3) := blk_cell n1 3
  have f4 : V.cell? ⟨w.heap.size + 1, 4, none⟩ = some (.slice A1_4 l1_4.length c1_4) := blk_cell n1 4
  have f5 : V.cell? ⟨w.heap.size + 1, 5, none⟩ = some (.slice A1_5 l1_5.length c1_5) := blk_cell n1 5
  have q0 : V.cell? ⟨w.heap.size + 2, 0, none⟩ = some (.func (.func 48) #[] #[.pointer (some ⟨w.heap.size, 0, none⟩)]) := blk_cell n2 0
  clear n0 n1 n2 nb
  obtain ⟨h0, n1, n2, n3, n4, n5⟩ := HH.out
  have b1 : (a0_1 == 1) = false := beq_eq_false_iff_ne.mpr n1
  have b2 : (a0_1 == 2) = false := beq_eq_false_iff_ne.mpr n2
  have b3 : (a0_1 == 3) = false := beq_eq_false_iff_ne.mpr n3
  have b4 : (a0_1 == 4) = false := beq_eq_false_iff_ne.mpr n4
  have b5 : (a0_1 == 5) = false := beq_eq_false_iff_ne.mpr n5
  have HR := Aside0.mk (show r = (realsD l1_5 && (vals l1_5 (l1_5.length / 4)).all fun x => leF a0_3 x && leF x a0_4) from by
    have h := h0.ans
    unfold atomB at h
    rw [if_neg n1, if_neg n2, if_neg n3, if_neg n4, if_neg n5] at h
    exact h.symm)
  have HC := Aside0.mk (reals_calls A1_5 c1_5 l1_5 V (HF.out.on HB.out).r5 HF.out.h5 h0.lg)
  have HL := Aside0.mk h0.lg
  clear n1 n2 n3 n4 n5 HH h0
  go_wp2_with fail
  refine HC.out.mono ?_
  rintro e w1 ⟨h | ⟨hn, rfl⟩, hb⟩
  · obtain ⟨hB, v, rfl, ho⟩ := h
    obtain ⟨Av, cv, rfl, hv⟩ := reals_row ho
    have HV := Aside0.mk hv
    clear hv
    have HB1 := Aside0.mk (below_step HB.out hb)
    have G0' := Aside0.mk (blk_below G0.out hb)
    have HD := Aside0.mk ((realsD_iff l1_5).2 hB)
    rw [HD.out, Bool.true_and, all_any] at HR
    have hP : PredF 57 #[.pointer (some ⟨w.heap.size, 0, none⟩)] (fun x => some (!(leF a0_3 x && leF x a0_4))) w1 := by
      intro W' x b hbW hx
      cases hx
      exact atom4_calls w.heap.size a0_0 a0_1 A0_2 c0_2 l0_2 a0_3 a0_4 A0_5 c0_5 l0_5 x W' (Kd.C_below (Kd.C_below HE2.out HB1.out) hbW) (blk_below G0'.out hbW)
    have HC2 := Aside0.mk (ContainsFuncF Av cv (vals l1_5 (l1_5.length / 4)) 57 #[.pointer (some ⟨w.heap.size, 0, none⟩)] (fun x => some (!(leF a0_3 x && leF x a0_4))) _ w1 HV.out (by rw [vals_length]; have := HL.out; omega) (fun args w => enters_ Try.func57 rfl rfl args w) hP (idxO_some (fun x => !(leF a0_3 x && leF x a0_4)) _ 0))
    rw [vals_length] at HC2
    have hany := idxR_any (fun x => !(leF a0_3 x && leF x a0_4)) (vals l1_5 (l1_5.length / 4)) 0
    simp only [ge_iff_le] at hany
    rw [← hany] at HR
    clear hb hP ho hB hany
    generalize decide (0 ≤ idxR (fun x => !(leF a0_3 x && leF x a0_4)) (vals l1_5 (l1_5.length / 4)) 0) = res at HC2 HR
    go_wp2_with fail
    refine HC2.out.mono ?_
    rintro e w2 ⟨rfl, hb⟩
    have HB2 := Aside0.mk (below_step HB1.out hb)
    clear hb
    go_wp2_with fail
    rw [HT.out, HR.out]
    exact ⟨rfl, HB2.out⟩
  · have HB1 := Aside0.mk (below_step HB.out hb)
    have HD := Aside0.mk (show realsD l1_5 = false from by
      cases h : realsD l1_5 with
      | false => rfl
      | true => exact absurd ((realsD_iff l1_5).1 h) hn)
    rw [HD.out, Bool.false_and] at HR
    clear hb hn
    go_wp2_with fail
    rw [HT.out, HR.out]
    exact ⟨rfl, HB1.out⟩
theorem matom_calls (a0_0 : Int) (a0_1 : Int) (A0_2 : Option Addr) (c0_2 : Nat) (l0_2 : List (S55)) (a0_3 : Nat) (a0_4 : Nat) (A0_5 : Option Addr) (c0_5 : Nat) (l0_5 : List (S26)) (a1_0 : Int) (a1_1 : Int) (a1_2 : Int) (A1_3 : Option Addr) (c1_3 : Nat) (l1_3 : List (S55)) (A1_4 : Option Addr) (c1_4 : Nat) (l1_4 : List Int) (A1_5 : Option Addr) (c1_5 : Nat) (l1_5 : List Int) (r : Bool) (w : World) (hr0_2 : Kd.C k55 w A0_2 l0_2.length l0_2) (hc0_2 : l0_2.length ≤ c0_2) (hr0_5 : Kd.C k26 w A0_5 l0_5.length l0_5) (hc0_5 : l0_5.length ≤ c0_5) (hr1_3 : Kd.C k55 w A1_3 l1_3.length l1_3) (hc1_3 : l1_3.length ≤ c1_3) (hr1_4 : Kd.C (Kd.int .i64) w A1_4 l1_4.length l1_4) (hc1_4 : l1_4.length ≤ c1_4) (hr1_5 : Kd.C (Kd.int .i64) w A1_5 l1_5.length l1_5) (hc1_5 : l1_5.length ≤ c1_5) (h : atomP a0_0 a0_1 l0_2 a0_3 a0_4 l0_5 a1_0 a1_1 a1_2 l1_3 l1_4 l1_5 = some r) :
    Calls Try.prog 32 #[.agg #[.int .i64 a0_0, .int .i64 a0_1, .slice A0_2 l0_2.length c0_2, .float .f64 a0_3, .float .f64 a0_4, .slice A0_5 l0_5.length c0_5], .agg #[.int .i64 a1_0, .int .i64 a1_1, .int .i64 a1_2, .slice A1_3 l1_3.length c1_3, .slice A1_4 l1_4.length c1_4, .slice A1_5 l1_5.length c1_5]] w fun e w' => e = .returned (.bool r) ∧ Below w.heap.size w w' := by
  have hF : FaC w A1_3 c1_3 l1_3 A1_4 c1_4 l1_4 A1_5 c1_5 l1_5 := ⟨hr1_3, hc1_3, hr1_4, hc1_4, hr1_5, hc1_5⟩
  have ho := atomP_ok h
  by_cases h1 : a0_1 = 1
  · subst h1
    exact atom_one a0_0 A0_2 c0_2 l0_2 a0_3 a0_4 A0_5 c0_5 l0_5 a1_0 a1_1 a1_2 A1_3 c1_3 l1_3 A1_4 c1_4 l1_4 A1_5 c1_5 l1_5 r w hr0_2 hc0_2 hr0_5 hc0_5 hF ho
  by_cases h2 : a0_1 = 2
  · subst h2
    exact atom_two a0_0 A0_2 c0_2 l0_2 a0_3 a0_4 A0_5 c0_5 l0_5 a1_0 a1_1 a1_2 A1_3 c1_3 l1_3 A1_4 c1_4 l1_4 A1_5 c1_5 l1_5 r w hr0_2 hc0_2 hr0_5 hc0_5 hF ho
  by_cases h3 : a0_1 = 3
  · subst h3
    exact atom_three a0_0 A0_2 c0_2 l0_2 a0_3 a0_4 A0_5 c0_5 l0_5 a1_0 a1_1 a1_2 A1_3 c1_3 l1_3 A1_4 c1_4 l1_4 A1_5 c1_5 l1_5 r w hr0_2 hc0_2 hr0_5 hc0_5 hF ho
  by_cases h4 : a0_1 = 4
  · subst h4
    exact atom_four a0_0 A0_2 c0_2 l0_2 a0_3 a0_4 A0_5 c0_5 l0_5 a1_0 a1_1 a1_2 A1_3 c1_3 l1_3 A1_4 c1_4 l1_4 A1_5 c1_5 l1_5 r w hr0_2 hc0_2 hr0_5 hc0_5 hF ho
  by_cases h5 : a0_1 = 5
  · subst h5
    exact atom_five a0_0 A0_2 c0_2 l0_2 a0_3 a0_4 A0_5 c0_5 l0_5 a1_0 a1_1 a1_2 A1_3 c1_3 l1_3 A1_4 c1_4 l1_4 A1_5 c1_5 l1_5 r w hr0_2 hc0_2 hr0_5 hc0_5 hF ho
  exact atom_else a0_0 a0_1 A0_2 c0_2 l0_2 a0_3 a0_4 A0_5 c0_5 l0_5 a1_0 a1_1 a1_2 A1_3 c1_3 l1_3 A1_4 c1_4 l1_4 A1_5 c1_5 l1_5 r w hr0_2 hc0_2 hr0_5 hc0_5 hF ⟨ho, h1, h2, h3, h4, h5⟩
end Go.Proofs.Ytppmcbkcohiodaa.PMeanTells
