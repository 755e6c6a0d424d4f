/- Texts of this claim, put together (wip/pack.py): MeanHolds. -/
import Derived.Test.YtppmcbkcohiodaaK2
import Derived.WideLaws
import Derived.Test.YtppmcbkcohiodaaK16
namespace Go.Proofs.Ytppmcbkcohiodaa.PMeanTells
open Go Go.RowKit Go.Proofs.YtppmcbkcohiodaaW.PrintWords Go.Proofs.YtppmcbkcohiodaaW.PrintLast Go.Proofs.YtppmcbkcohiodaaW.PrintMore
set_option maxHeartbeats 4000000
set_option maxRecDepth 100000
set_option linter.unusedVariables false
set_option linter.unusedSimpArgs false
/-- mean.Holds at k rounds of the document's. -/
def HoldsAt (k : Nat) : Prop := ∀ (a0_0 : Int) (a0_1 : Int) (A0_2 : Option Addr) (c0_2 : Nat) (l0_2 : List (S55)) (a0_3 : Nat) (a0_4 : Nat) (A0_5 : Option Addr) (c0_5 : Nat) (l0_5 : List (S26)) (a1_0 : Int) (a1_1 : Int) (a1_2 : Int) (A1_3 : Option Addr) (c1_3 : Nat) (l1_3 : List (S55)) (A1_4 : Option Addr) (c1_4 : Nat) (l1_4 : List Int) (A1_5 : Option Addr) (c1_5 : Nat) (l1_5 : List Int) (r : Bool) (w : World) (hr0_2 : Kd.C k55 w A0_2 l0_2.length l0_2) (hc0_2 : l0_2.length ≤ c0_2) (hr0_5 : Kd.C k26 w A0_5 l0_5.length l0_5) (hc0_5 : l0_5.length ≤ c0_5) (hF : FaC w A1_3 c1_3 l1_3 A1_4 c1_4 l1_4 A1_5 c1_5 l1_5) (h : gatewardenref15_Holds.f k a0_0 a0_1 l0_2 a0_3 a0_4 l0_5 a1_0 a1_1 a1_2 l1_3 l1_4 l1_5 = some r),
  Calls Try.prog 14 #[.agg #[.int .i64 a0_0, .int .i64 a0_1, .slice A0_2 l0_2.length c0_2, .float .f64 a0_3, .float .f64 a0_4, .slice A0_5 l0_5.length c0_5], .agg #[.int .i64 a1_0, .int .i64 a1_1, .int .i64 a1_2, .slice A1_3 l1_3.length c1_3, .slice A1_4 l1_4.length c1_4, .slice A1_5 l1_5.length c1_5]] w fun e w' => e = .returned (.bool r) ∧ Below w.heap.size w w'
/-- Holds' first closure: it captures the facts. -/
theorem holds1_calls (k : Nat) (hk : HoldsAt k) (b1 : Nat) (a0_0 : Int) (a0_1 : Int) (A0_2 : Option Addr) (c0_2 : Nat) (l0_2 : List (S55)) (a0_3 : Nat) (a0_4 : Nat) (A0_5 : Option Addr) (c0_5 : Nat) (l0_5 : List (S26)) (a1_0 : Int) (a1_1 : Int) (a1_2 : Int) (A1_3 : Option Addr) (c1_3 : Nat) (l1_3 : List (S55)) (A1_4 : Option Addr) (c1_4 : Nat) (l1_4 : List Int) (A1_5 : Option Addr) (c1_5 : Nat) (l1_5 : List Int) (r : Bool) (w : World) (hr0_2 : Kd.C k55 w A0_2 l0_2.length l0_2) (hc0_2 : l0_2.length ≤ c0_2) (hr0_5 : Kd.C k26 w A0_5 l0_5.length l0_5) (hc0_5 : l0_5.length ≤ c0_5) (hF : FaC w A1_3 c1_3 l1_3 A1_4 c1_4 l1_4 A1_5 c1_5 l1_5) (hB : w.heap[b1]? = some (.cells #[.int .i64 a1_0, .int .i64 a1_1, .int .i64 a1_2, .slice A1_3 l1_3.length c1_3, .slice A1_4 l1_4.length c1_4, .slice A1_5 l1_5.length c1_5] 30 (0, 0))) (h : gatewardenref15_Holds.f k a0_0 a0_1 l0_2 a0_3 a0_4 l0_5 a1_0 a1_1 a1_2 l1_3 l1_4 l1_5 = some r) :
    Calls Try.prog 31 #[.agg #[.int .i64 a0_0, .int .i64 a0_1, .slice A0_2 l0_2.length c0_2, .float .f64 a0_3, .float .f64 a0_4, .slice A0_5 l0_5.length c0_5], .pointer (some ⟨b1, 0, none⟩)] w fun e w' => e = .returned (.bool r) ∧ Below w.heap.size w w' := by
  obtain ⟨T, hT⟩ : ∃ T : Ending → World → Prop, T = fun e w' => e = .returned (.bool r) ∧ Below w.heap.size w w' := ⟨_, rfl⟩
  have HT := Aside0.mk hT
  rw [← hT]
  clear hT
  have hA := below_alloc (Below.refl w.heap.size w) (.cells #[.int .i64 a0_0, .int .i64 a0_1, .slice A0_2 l0_2.length c0_2, .float .f64 a0_3, .float .f64 a0_4, .slice A0_5 l0_5.length c0_5] 26)
  have HA := Aside0.mk hA
  have HC := Aside0.mk (hk a0_0 a0_1 A0_2 c0_2 l0_2 a0_3 a0_4 A0_5 c0_5 l0_5 a1_0 a1_1 a1_2 A1_3 c1_3 l1_3 A1_4 c1_4 l1_4 A1_5 c1_5 l1_5 r (w.alloc (.cells #[.int .i64 a0_0, .int .i64 a0_1, .slice A0_2 l0_2.length c0_2, .float .f64 a0_3, .float .f64 a0_4, .slice A0_5 l0_5.length c0_5] 26)) (Kd.C_below hr0_2 hA) hc0_2 (Kd.C_below hr0_5 hA) hc0_5 (hF.on hA) h)
  have f0 : w.cell? ⟨b1, 0, none⟩ = some (.int .i64 a1_0) := blk_cell hB 0
  have f1 : w.cell? ⟨b1, 1, none⟩ = some (.int .i64 a1_1) := blk_cell hB 1
  have f2 : w.cell? ⟨b1, 2, none⟩ = some (.int .i64 a1_2) := blk_cell hB 2
  have f3 : w.cell? ⟨b1, 3, none⟩ = some (.slice A1_3 l1_3.length c1_3) := blk_cell hB 3
  have f4 : w.cell? ⟨b1, 4, none⟩ = some (.slice A1_4 l1_4.length c1_4) := blk_cell hB 4
  have f5 : w.cell? ⟨b1, 5, none⟩ = some (.slice A1_5 l1_5.length c1_5) := blk_cell hB 5
  have hlt := blk_lt hB
  have hne : b1 ≠ w.heap.size := by omega
  clear hr0_2 hr0_5 hF hB hk h hA hc0_2 hc0_5
  go_enter Try.func31, Try.ntmps31
  go_wp2_with fail
  refine HC.out.mono ?_
  rintro e w1 ⟨rfl, hb⟩
  have HB := Aside0.mk (below_step HA.out hb)
  clear hb
  go_wp2_with fail
  rw [HT.out]
  exact ⟨rfl, HB.out⟩
theorem run_store_func {P : Program} {w : World} (a : Addr) (m : Mode) (f : Fn) (n b : Array Value) : (store a (.func f n b) m).run P w = stored P w a (.func f n b) m := run_store P w a _ m rfl
attribute [local go_sem] run_store_func
theorem new_at (w : World) (o : Obj) : (w.alloc o).heap[w.heap.size]? = some o := by simp only [World.alloc, Array.getElem?_push_size]
theorem new_size (w : World) (o : Obj) : (w.alloc o).heap.size = w.heap.size + 1 := by simp only [World.alloc, Array.size_push]
/-- A world behind Holds' parameters' boxes. -/
def hW (w : World) (E F : Array Value) : World := (w.alloc (.cells E 26)).alloc (.cells F 30)
theorem hW_below (w : World) (E F : Array Value) : Below w.heap.size w (hW w E F) := below_alloc (below_alloc (Below.refl _ _) _) _
theorem hW_size (w : World) (E F : Array Value) : (hW w E F).heap.size = w.heap.size + 2 := by rw [hW, new_size, new_size]
theorem hW_b0 (w : World) (E F : Array Value) : (hW w E F).heap[w.heap.size]? = some (.cells E 26 (0, 0)) := blk_alloc (new_at w _) _
theorem hW_b1 (w : World) (E F : Array Value) : (hW w E F).heap[w.heap.size + 1]? = some (.cells F 30 (0, 0)) := by
  have := new_at (w.alloc (.cells E 26)) (.cells F 30)
  rw [show (w.alloc (.cells E 26)).heap.size = w.heap.size + 1 from new_size _ _] at this
  exact this
theorem holds_one (a0_1 : Int) (A0_2 : Option Addr) (c0_2 : Nat) (l0_2 : List (S55)) (a0_3 : Nat) (a0_4 : Nat) (A0_5 : Option Addr) (c0_5 : Nat) (l0_5 : List (S26)) (a1_0 : Int) (a1_1 : Int) (a1_2 : Int) (A1_3 : Option Addr) (c1_3 : Nat) (l1_3 : List (S55)) (A1_4 : Option Addr) (c1_4 : Nat) (l1_4 : List Int) (A1_5 : Option Addr) (c1_5 : Nat) (l1_5 : List Int) (r : Bool) (w : World) (hr0_2 : Kd.C k55 w A0_2 l0_2.length l0_2) (hc0_2 : l0_2.length ≤ c0_2) (hr0_5 : Kd.C k26 w A0_5 l0_5.length l0_5) (hc0_5 : l0_5.length ≤ c0_5) (hF : FaC w A1_3 c1_3 l1_3 A1_4 c1_4 l1_4 A1_5 c1_5 l1_5) (h : gatewardenref15_atom.f 1 a0_1 l0_2 a0_3 a0_4 l0_5 a1_0 a1_1 a1_2 l1_3 l1_4 l1_5 = some r) :
    Calls Try.prog 14 #[.agg #[.int .i64 1, .int .i64 a0_1, .slice A0_2 l0_2.length c0_2, .float .f64 a0_3, .float .f64 a0_4, .slice A0_5 l0_5.length c0_5], .agg #[.int .i64 a1_0, .int .i64 a1_1, .int .i64 a1_2, .slice A1_3 l1_3.length c1_3, .slice A1_4 l1_4.length c1_4, .slice A1_5 l1_5.length c1_5]] w fun e w' => e = .returned (.bool r) ∧ Below w.heap.size w w' := by
  obtain ⟨T, hT⟩ : ∃ T : Ending → World → Prop, T = fun e w' => e = .returned (.bool r) ∧ Below w.heap.size w w' := ⟨_, rfl⟩
  have HT := Aside0.mk hT
  rw [← hT]
  clear hT
  obtain ⟨W, hW0⟩ : ∃ W, hW w #[.int .i64 1, .int .i64 a0_1, .slice A0_2 l0_2.length c0_2, .float .f64 a0_3, .float .f64 a0_4, .slice A0_5 l0_5.length c0_5] #[.int .i64 a1_0, .int .i64 a1_1, .int .i64 a1_2, .slice A1_3 l1_3.length c1_3, .slice A1_4 l1_4.length c1_4, .slice A1_5 l1_5.length c1_5] = W := ⟨_, rfl⟩
  have hA := hW_below w #[.int .i64 1, .int .i64 a0_1, .slice A0_2 l0_2.length c0_2, .float .f64 a0_3, .float .f64 a0_4, .slice A0_5 l0_5.length c0_5] #[.int .i64 a1_0, .int .i64 a1_1, .int .i64 a1_2, .slice A1_3 l1_3.length c1_3, .slice A1_4 l1_4.length c1_4, .slice A1_5 l1_5.length c1_5]
  have hs := hW_size w #[.int .i64 1, .int .i64 a0_1, .slice A0_2 l0_2.length c0_2, .float .f64 a0_3, .float .f64 a0_4, .slice A0_5 l0_5.length c0_5] #[.int .i64 a1_0, .int .i64 a1_1, .int .i64 a1_2, .slice A1_3 l1_3.length c1_3, .slice A1_4 l1_4.length c1_4, .slice A1_5 l1_5.length c1_5]
  have g0 := hW_b0 w #[.int .i64 1, .int .i64 a0_1, .slice A0_2 l0_2.length c0_2, .float .f64 a0_3, .float .f64 a0_4, .slice A0_5 l0_5.length c0_5] #[.int .i64 a1_0, .int .i64 a1_1, .int .i64 a1_2, .slice A1_3 l1_3.length c1_3, .slice A1_4 l1_4.length c1_4, .slice A1_5 l1_5.length c1_5]
  have g1 := hW_b1 w #[.int .i64 1, .int .i64 a0_1, .slice A0_2 l0_2.length c0_2, .float .f64 a0_3, .float .f64 a0_4, .slice A0_5 l0_5.length c0_5] #[.int .i64 a1_0, .int .i64 a1_1, .int .i64 a1_2, .slice A1_3 l1_3.length c1_3, .slice A1_4 l1_4.length c1_4, .slice A1_5 l1_5.length c1_5]
  rw [hW0] at hA hs g0 g1
  have HE2 := Aside0.mk hr0_2
  have HE5 := Aside0.mk hr0_5
  have HF := Aside0.mk hF
  have HH := Aside0.mk h
  have HA := Aside0.mk hA
  have H2 := Aside0.mk hc0_2
  have H5 := Aside0.mk hc0_5
  have S0 := Aside0.mk hs
  have G0 := Aside0.mk g0
  have G1 := Aside0.mk g1
  clear hr0_2 hr0_5 hF h hA hc0_2 hc0_5 hs g0 g1
  go_enter Try.func14, Try.ntmps14
  go_upto_region 1 with (fail)
  unfold hW at hW0
  rw [hW0]
  clear hW0
  have fz := blk_frozen (new_at W (.cells #[.nilFunc] 32))
  have k0 : (W.alloc (.cells #[.nilFunc] 32)).cell? ⟨W.heap.size, 0, none⟩ = some .nilFunc := blk_cell (new_at W (.cells #[.nilFunc] 32)) 0
  go_upto_region 2 with (fail)
  clear fz k0
  have n0 := blk_alloc G0.out (.cells #[.func (.func 31) #[] #[.pointer (some ⟨w.heap.size + 1, 0, none⟩)]] 32)
  have n1 := blk_alloc G1.out (.cells #[.func (.func 31) #[] #[.pointer (some ⟨w.heap.size + 1, 0, none⟩)]] 32)
  have n2 := new_at W (.cells #[.func (.func 31) #[] #[.pointer (some ⟨w.heap.size + 1, 0, none⟩)]] 32)
  have nb := below_alloc HA.out (.cells #[.func (.func 31) #[] #[.pointer (some ⟨w.heap.size + 1, 0, none⟩)]] 32)
  clear G0 G1 HA
  generalize W.alloc (.cells #[.func (.func 31) #[] #[.pointer (some ⟨w.heap.size + 1, 0, none⟩)]] 32) = V at n0 n1 n2 nb ⊢
  rw [S0.out] at n2 ⊢
  clear S0
  have G0 := Aside0.mk n0
  have G1 := Aside0.mk n1
  have G2 := Aside0.mk n2
  have HB := Aside0.mk nb
  have e0 : V.cell? ⟨w.heap.size, 0, none⟩ = some (.int .i64 1) := blk_cell n0 0
  have e1 : V.cell? ⟨w.heap.size, 1, none⟩ = some (.int .i64 a0_1) := blk_cell n0 1
  have e2 : V.cell? ⟨w.heap.size, 2, none⟩ = some (.slice A0_2 l0_2.length c0_2) := blk_cell n0 2
  have e3 : V.cell? ⟨w.heap.size, 3, none⟩ = some (.float .f64 a0_3) := blk_cell n0 3
  have e4 : V.cell? ⟨w.heap.size, 4, none⟩ = some (.float .f64 a0_4) := blk_cell n0 4
  have e5 : V.cell? ⟨w.heap.size, 5, none⟩ = some (.slice A0_5 l0_5.length c0_5) := blk_cell n0 5
  have f0 : V.cell? ⟨w.heap.size + 1, 0, none⟩ = some (.int .i64 a1_0) := blk_cell n1 0
  have f1 : V.cell? ⟨w.heap.size + 1, 1, none⟩ = some (.int .i64 a1_1) := blk_cell n1 1
  have f2 : V.cell? ⟨w.heap.size + 1, 2, none⟩ = some (.int .i64 a1_2) := blk_cell n1 2
  have f3 : V.cell? ⟨w.heap.size + 1, 3, none⟩ = some (.slice A1_3 l1_3.length c1_3) := blk_cell n1 3
  have f4 : V.cell? ⟨w.heap.size + 1, 4, none⟩ = some (.slice A1_4 l1_4.length c1_4) := blk_cell n1 4
  have f5 : V.cell? ⟨w.heap.size + 1, 5, none⟩ = some (.slice A1_5 l1_5.length c1_5) := blk_cell n1 5
  have q0 : V.cell? ⟨w.heap.size + 2, 0, none⟩ = some (.func (.func 31) #[] #[.pointer (some ⟨w.heap.size + 1, 0, none⟩)]) := blk_cell n2 0
  clear n0 n1 n2 nb
  have HC := Aside0.mk (matom_calls 1 a0_1 A0_2 c0_2 l0_2 a0_3 a0_4 A0_5 c0_5 l0_5 a1_0 a1_1 a1_2 A1_3 c1_3 l1_3 A1_4 c1_4 l1_4 A1_5 c1_5 l1_5 r V (Kd.C_below HE2.out HB.out) H2.out (Kd.C_below HE5.out HB.out) H5.out (HF.out.on HB.out).r3 HF.out.h3 (HF.out.on HB.out).r4 HF.out.h4 (HF.out.on HB.out).r5 HF.out.h5 HH.out)
  go_wp2_with fail
  refine HC.out.mono ?_
  rintro e w1 ⟨rfl, hb⟩
  have HB1 := Aside0.mk (below_step HB.out hb)
  clear hb
  go_wp2_with fail
  rw [HT.out]
  exact ⟨rfl, HB1.out⟩
theorem holds_else (a0_0 : Int) (a0_1 : Int) (A0_2 : Option Addr) (c0_2 : Nat) (l0_2 : List (S55)) (a0_3 : Nat) (a0_4 : Nat) (A0_5 : Option Addr) (c0_5 : Nat) (l0_5 : List (S26)) (a1_0 : Int) (a1_1 : Int) (a1_2 : Int) (A1_3 : Option Addr) (c1_3 : Nat) (l1_3 : List (S55)) (A1_4 : Option Addr) (c1_4 : Nat) (l1_4 : List Int) (A1_5 : Option Addr) (c1_5 : Nat) (l1_5 : List Int) (r : Bool) (w : World) (hr0_2 : Kd.C k55 w A0_2 l0_2.length l0_2) (hc0_2 : l0_2.length ≤ c0_2) (hr0_5 : Kd.C k26 w A0_5 l0_5.length l0_5) (hc0_5 : l0_5.length ≤ c0_5) (hF : FaC w A1_3 c1_3 l1_3 A1_4 c1_4 l1_4 A1_5 c1_5 l1_5) (h : r = true ∧ ¬ a0_0 = 1 ∧ ¬ a0_0 = 2 ∧ ¬ a0_0 = 3 ∧ ¬ a0_0 = 4) :
    Calls Try.prog 14 #[.agg #[.int .i64 a0_0, .int .i64 a0_1, .slice A0_2 l0_2.length c0_2, .float .f64 a0_3, .float .f64 a0_4, .slice A0_5 l0_5.length c0_5], .agg #[.int .i64 a1_0, .int .i64 a1_1, .int .i64 a1_2, .slice A1_3 l1_3.length c1_3, .slice A1_4 l1_4.length c1_4, .slice A1_5 l1_5.length c1_5]] w fun e w' => e = .returned (.bool r) ∧ Below w.heap.size w w' := by
  obtain ⟨T, hT⟩ : ∃ T : Ending → World → Prop, T = fun e w' => e = .returned (.bool r) ∧ Below w.heap.size w w' := ⟨_, rfl⟩
  have HT := Aside0.mk hT
  rw [← hT]
  clear hT
  obtain ⟨W, hW0⟩ : ∃ W, hW w #[.int .i64 a0_0, .int .i64 a0_1, .slice A0_2 l0_2.length c0_2, .float .f64 a0_3, .float .f64 a0_4, .slice A0_5 l0_5.length c0_5] #[.int .i64 a1_0, .int .i64 a1_1, .int .i64 a1_2, .slice A1_3 l1_3.length c1_3, .slice A1_4 l1_4.length c1_4, .slice A1_5 l1_5.length c1_5] = W := ⟨_, rfl⟩
  have hA := hW_below w #[.int .i64 a0_0, .int .i64 a0_1, .slice A0_2 l0_2.length c0_2, .float .f64 a0_3, .float .f64 a0_4, .slice A0_5 l0_5.length c0_5] #[.int .i64 a1_0, .int .i64 a1_1, .int .i64 a1_2, .slice A1_3 l1_3.length c1_3, .slice A1_4 l1_4.length c1_4, .slice A1_5 l1_5.length c1_5]
  have hs := hW_size w #[.int .i64 a0_0, .int .i64 a0_1, .slice A0_2 l0_2.length c0_2, .float .f64 a0_3, .float .f64 a0_4, .slice A0_5 l0_5.length c0_5] #[.int .i64 a1_0, .int .i64 a1_1, .int .i64 a1_2, .slice A1_3 l1_3.length c1_3, .slice A1_4 l1_4.length c1_4, .slice A1_5 l1_5.length c1_5]
  have g0 := hW_b0 w #[.int .i64 a0_0, .int .i64 a0_1, .slice A0_2 l0_2.length c0_2, .float .f64 a0_3, .float .f64 a0_4, .slice A0_5 l0_5.length c0_5] #[.int .i64 a1_0, .int .i64 a1_1, .int .i64 a1_2, .slice A1_3 l1_3.length c1_3, .slice A1_4 l1_4.length c1_4, .slice A1_5 l1_5.length c1_5]
  have g1 := hW_b1 w #[.int .i64 a0_0, .int .i64 a0_1, .slice A0_2 l0_2.length c0_2, .float .f64 a0_3, .float .f64 a0_4, .slice A0_5 l0_5.length c0_5] #[.int .i64 a1_0, .int .i64 a1_1, .int .i64 a1_2, .slice A1_3 l1_3.length c1_3, .slice A1_4 l1_4.length c1_4, .slice A1_5 l1_5.length c1_5]
  rw [hW0] at hA hs g0 g1
  have HE2 := Aside0.mk hr0_2
  have HE5 := Aside0.mk hr0_5
  have HF := Aside0.mk hF
  have HH := Aside0.mk h
  have HA := Aside0.mk hA
  have H2 := Aside0.mk hc0_2
  have H5 := Aside0.mk hc0_5
  have S0 := Aside0.mk hs
  have G0 := Aside0.mk g0
  have G1 := Aside0.mk g1
  clear hr0_2 hr0_5 hF h hA hc0_2 hc0_5 hs g0 g1
  go_enter Try.func14, Try.ntmps14
  go_upto_region 1 with (fail)
  unfold hW at hW0
  rw [hW0]
  clear hW0
  have fz := blk_frozen (new_at W (.cells #[.nilFunc] 32))
  have k0 : (W.alloc (.cells #[.nilFunc] 32)).cell? ⟨W.heap.size, 0, none⟩ = some .nilFunc := blk_cell (new_at W (.cells #[.nilFunc] 32)) 0
  go_upto_region 2 with (fail)
  clear fz k0
  have n0 := blk_alloc G0.out (.cells #[.func (.func 31) #[] #[.pointer (some ⟨w.heap.size + 1, 0, none⟩)]] 32)
  have n1 := blk_alloc G1.out (.cells #[.func (.func 31) #[] #[.pointer (some ⟨w.heap.size + 1, 0, none⟩)]] 32)
  have n2 := new_at W (.cells #[.func (.func 31) #[] #[.pointer (some ⟨w.heap.size + 1, 0, none⟩)]] 32)
  have nb := below_alloc HA.out (.cells #[.func (.func 31) #[] #[.pointer (some ⟨w.heap.size + 1, 0, none⟩)]] 32)
  clear G0 G1 HA
  generalize W.alloc (.cells #[.func (.func 31) #[] #[.pointer (some ⟨w.heap.size + 1, 0, none⟩)]] 32) = V at n0 n1 n2 nb ⊢
  rw [S0.out] at n2 ⊢
  clear S0
  have G0 := Aside0.mk n0
  have G1 := Aside0.mk n1
  have G2 := Aside0.mk n2
  have HB := Aside0.mk nb
  have e0 : V.cell? ⟨w.heap.size, 0, none⟩ = some (.int .i64 a0_0) := blk_cell n0 0
  have e1 : V.cell? ⟨w.heap.size, 1, none⟩ = some (.int .i64 a0_1) := blk_cell n0 1
  have e2 : V.cell? ⟨w.heap.size, 2, none⟩ = some (.slice A0_2 l0_2.length c0_2) := blk_cell n0 2
  have e3 : V.cell? ⟨w.heap.size, 3, none⟩ = some (.float .f64 a0_3) := blk_cell n0 3
  have e4 : V.cell? ⟨w.heap.size, 4, none⟩ = some (.float .f64 a0_4) := blk_cell n0 4
  have e5 : V.cell? ⟨w.heap.size, 5, none⟩ = some (.slice A0_5 l0_5.length c0_5) := blk_cell n0 5
  have f0 : V.cell? ⟨w.heap.size + 1, 0, none⟩ = some (.int .i64 a1_0) := blk_cell n1 0
  have f1 : V.cell? ⟨w.heap.size + 1, 1, none⟩ = some (.int .i64 a1_1) := blk_cell n1 1
  have f2 : V.cell? ⟨w.heap.size + 1, 2, none⟩ = some (.int .i64 a1_2) := blk_cell n1 2
  have f3 : V.cell? ⟨w.heap.size + 1, 3, none⟩ = some (.slice A1_3 l1_3.length c1_3) := blk_cell n1 3
  have f4 : V.cell? ⟨w.heap.size + 1, 4, none⟩ = some (.slice A1_4 l1_4.length c1_4) := blk_cell n1 4
  have f5 : V.cell? ⟨w.heap.size + 1, 5, none⟩ = some (.slice A1_5 l1_5.length c1_5) := blk_cell n1 5
  have q0 : V.cell? ⟨w.heap.size + 2, 0, none⟩ = some (.func (.func 31) #[] #[.pointer (some ⟨w.heap.size + 1, 0, none⟩)]) := blk_cell n2 0
  clear n0 n1 n2 nb
  obtain ⟨h0, n1, n2, n3, n4⟩ := HH.out
  have b1 : (a0_0 == 1) = false := beq_eq_false_iff_ne.mpr n1
  have b2 : (a0_0 == 2) = false := beq_eq_false_iff_ne.mpr n2
  have b3 : (a0_0 == 3) = false := beq_eq_false_iff_ne.mpr n3
  have b4 : (a0_0 == 4) = false := beq_eq_false_iff_ne.mpr n4
  clear n1 n2 n3 n4 HH
  go_wp2_with fail
  rw [HT.out, h0]
  exact ⟨rfl, HB.out⟩
theorem holds_four (K : Nat) (hk : HoldsAt K) (a0_1 : Int) (A0_2 : Option Addr) (c0_2 : Nat) (l0_2 : List (S55)) (a0_3 : Nat) (a0_4 : Nat) (A0_5 : Option Addr) (c0_5 : Nat) (l0_5 : List (S26)) (a1_0 : Int) (a1_1 : Int) (a1_2 : Int) (A1_3 : Option Addr) (c1_3 : Nat) (l1_3 : List (S55)) (A1_4 : Option Addr) (c1_4 : Nat) (l1_4 : List Int) (A1_5 : Option Addr) (c1_5 : Nat) (l1_5 : List Int) (r : Bool) (w : World) (hr0_2 : Kd.C k55 w A0_2 l0_2.length l0_2) (hc0_2 : l0_2.length ≤ c0_2) (hr0_5 : Kd.C k26 w A0_5 l0_5.length l0_5) (hc0_5 : l0_5.length ≤ c0_5) (hF : FaC w A1_3 c1_3 l1_3 A1_4 c1_4 l1_4 A1_5 c1_5 l1_5) (h : gatewardenref15_Holds.l1 K 0 4 a0_1 l0_2 a0_3 a0_4 l0_5 a1_0 a1_1 a1_2 l1_3 l1_4 l1_5 = some r) :
    Calls Try.prog 14 #[.agg #[.int .i64 4, .int .i64 a0_1, .slice A0_2 l0_2.length c0_2, .float .f64 a0_3, .float .f64 a0_4, .slice A0_5 l0_5.length c0_5], .agg #[.int .i64 a1_0, .int .i64 a1_1, .int .i64 a1_2, .slice A1_3 l1_3.length c1_3, .slice A1_4 l1_4.length c1_4, .slice A1_5 l1_5.length c1_5]] w fun e w' => e = .returned (.bool r) ∧ Below w.heap.size w w' := by
  obtain ⟨T, hT⟩ : ∃ T : Ending → World → Prop, T = fun e w' => e = .returned (.bool r) ∧ Below w.heap.size w w' := ⟨_, rfl⟩
  have HT := Aside0.mk hT
  rw [← hT]
  clear hT
  obtain ⟨W, hW0⟩ : ∃ W, hW w #[.int .i64 4, .int .i64 a0_1, .slice A0_2 l0_2.length c0_2, .float .f64 a0_3, .float .f64 a0_4, .slice A0_5 l0_5.length c0_5] #[.int .i64 a1_0, .int .i64 a1_1, .int .i64 a1_2, .slice A1_3 l1_3.length c1_3, .slice A1_4 l1_4.length c1_4, .slice A1_5 l1_5.length c1_5] = W := ⟨_, rfl⟩
  have hA := hW_below w #[.int .i64 4, .int .i64 a0_1, .slice A0_2 l0_2.length c0_2, .float .f64 a0_3, .float .f64 a0_4, .slice A0_5 l0_5.length c0_5] #[.int .i64 a1_0, .int .i64 a1_1, .int .i64 a1_2, .slice A1_3 l1_3.length c1_3, .slice A1_4 l1_4.length c1_4, .slice A1_5 l1_5.length c1_5]
  have hs := hW_size w #[.int .i64 4, .int .i64 a0_1, .slice A0_2 l0_2.length c0_2, .float .f64 a0_3, .float .f64 a0_4, .slice A0_5 l0_5.length c0_5] #[.int .i64 a1_0, .int .i64 a1_1, .int .i64 a1_2, .slice A1_3 l1_3.length c1_3, .slice A1_4 l1_4.length c1_4, .slice A1_5 l1_5.length c1_5]
  have g0 := hW_b0 w #[.int .i64 4, .int .i64 a0_1, .slice A0_2 l0_2.length c0_2, .float .f64 a0_3, .float .f64 a0_4, .slice A0_5 l0_5.length c0_5] #[.int .i64 a1_0, .int .i64 a1_1, .int .i64 a1_2, .slice A1_3 l1_3.length c1_3, .slice A1_4 l1_4.length c1_4, .slice A1_5 l1_5.length c1_5]
  have g1 := hW_b1 w #[.int .i64 4, .int .i64 a0_1, .slice A0_2 l0_2.length c0_2, .float .f64 a0_3, .float .f64 a0_4, .slice A0_5 l0_5.length c0_5] #[.int .i64 a1_0, .int .i64 a1_1, .int .i64 a1_2, .slice A1_3 l1_3.length c1_3, .slice A1_4 l1_4.length c1_4, .slice A1_5 l1_5.length c1_5]
  rw [hW0] at hA hs g0 g1
  have HE2 := Aside0.mk hr0_2
  have HE5 := Aside0.mk hr0_5
  have HF := Aside0.mk hF
  have HH := Aside0.mk h
  have HA := Aside0.mk hA
  have H2 := Aside0.mk hc0_2
  have H5 := Aside0.mk hc0_5
  have S0 := Aside0.mk hs
  have G0 := Aside0.mk g0
  have G1 := Aside0.mk g1
  clear hr0_2 hr0_5 hF h hA hc0_2 hc0_5 hs g0 g1
  go_enter Try.func14, Try.ntmps14
  go_upto_region 1 with (fail)
  unfold hW at hW0
  rw [hW0]
  clear hW0
  have fz := blk_frozen (new_at W (.cells #[.nilFunc] 32))
  have k0 : (W.alloc (.cells #[.nilFunc] 32)).cell? ⟨W.heap.size, 0, none⟩ = some .nilFunc := blk_cell (new_at W (.cells #[.nilFunc] 32)) 0
  go_upto_region 2 with (fail)
  clear fz k0
  have n0 := blk_alloc G0.out (.cells #[.func (.func 31) #[] #[.pointer (some ⟨w.heap.size + 1, 0, none⟩)]] 32)
  have n1 := blk_alloc G1.out (.cells #[.func (.func 31) #[] #[.pointer (some ⟨w.heap.size + 1, 0, none⟩)]] 32)
  have n2 := new_at W (.cells #[.func (.func 31) #[] #[.pointer (some ⟨w.heap.size + 1, 0, none⟩)]] 32)
  have nb := below_alloc HA.out (.cells #[.func (.func 31) #[] #[.pointer (some ⟨w.heap.size + 1, 0, none⟩)]] 32)
  clear G0 G1 HA
  generalize W.alloc (.cells #[.func (.func 31) #[] #[.pointer (some ⟨w.heap.size + 1, 0, none⟩)]] 32) = V at n0 n1 n2 nb ⊢
  rw [S0.out] at n2 ⊢
  clear S0
  have G0 := Aside0.mk n0
  have G1 := Aside0.mk n1
  have G2 := Aside0.mk n2
  have HB := Aside0.mk nb
  have e0 : V.cell? ⟨w.heap.size, 0, none⟩ = some (.int .i64 4) := blk_cell n0 0
  have e1 : V.cell? ⟨w.heap.size, 1, none⟩ = some (.int .i64 a0_1) := blk_cell n0 1
  have e2 : V.cell? ⟨w.heap.size, 2, none⟩ = some (.slice A0_2 l0_2.length c0_2) := blk_cell n0 2
  have e3 : V.cell? ⟨w.heap.size, 3, none⟩ = some (.float .f64 a0_3) := blk_cell n0 3
  have e4 : V.cell? ⟨w.heap.size, 4, none⟩ = some (.float .f64 a0_4) := blk_cell n0 4
  have e5 : V.cell? ⟨w.heap.size, 5, none⟩ = some (.slice A0_5 l0_5.length c0_5) := blk_cell n0 5
  have f0 : V.cell? ⟨w.heap.size + 1, 0, none⟩ = some (.int .i64 a1_0) := blk_cell n1 0
  have f1 : V.cell? ⟨w.heap.size + 1, 1, none⟩ = some (.int .i64 a1_1) := blk_cell n1 1
  have f2 : V.cell? ⟨w.heap.size + 1, 2, none⟩ = some (.int .i64 a1_2) := blk_cell n1 2
  have f3 : V.cell? ⟨w.heap.size + 1, 3, none⟩ = some (.slice A1_3 l1_3.length c1_3) := blk_cell n1 3
  have f4 : V.cell? ⟨w.heap.size + 1, 4, none⟩ = some (.slice A1_4 l1_4.length c1_4) := blk_cell n1 4
  have f5 : V.cell? ⟨w.heap.size + 1, 5, none⟩ = some (.slice A1_5 l1_5.length c1_5) := blk_cell n1 5
  have q0 : V.cell? ⟨w.heap.size + 2, 0, none⟩ = some (.func (.func 31) #[] #[.pointer (some ⟨w.heap.size + 1, 0, none⟩)]) := blk_cell n2 0
  clear n0 n1 n2 nb
  obtain ⟨q, hq, hr⟩ := l1_idx K a1_0 a1_1 a1_2 l1_3 l1_4 l1_5 _ _ _ _ _ l0_5 K 0 (Nat.le_refl _) r HH.out
  have hP1 : PredE 31 #[.pointer (some ⟨w.heap.size + 1, 0, none⟩)] (hP K a1_0 a1_1 a1_2 l1_3 l1_4 l1_5) V := fun W' x A2 c2 A5 c5 b hbW hl2 g2 hl5 g5 hx => holds1_calls K hk (w.heap.size + 1) x.f0 x.f1 A2 c2 x.f2 x.f3 x.f4 A5 c5 x.f5 a1_0 a1_1 a1_2 A1_3 c1_3 l1_3 A1_4 c1_4 l1_4 A1_5 c1_5 l1_5 b W' g2 hl2 g5 hl5 ((HF.out.on HB.out).on hbW) (blk_below G1.out hbW) hx
  have HC := Aside0.mk (ContainsFuncWE A0_5 c0_5 l0_5 31 #[.pointer (some ⟨w.heap.size + 1, 0, none⟩)] (hP K a1_0 a1_1 a1_2 l1_3 l1_4 l1_5) q K V (Kd.C_below HE5.out HB.out) (fun args w => enters_ Try.func31 rfl rfl args w) hP1 hq)
  have HR := Aside0.mk hr
  clear hP1 hq hr hk HH
  go_wp2_with fail
  refine HC.out.mono ?_
  rintro e w1 ⟨rfl, hb⟩
  have HB1 := Aside0.mk (below_step HB.out hb)
  clear hb
  go_wp2_with fail
  rw [HT.out, HR.out]
  exact ⟨rfl, HB1.out⟩
/-- Holds' second closure: it captures the cell of the first. -/
theorem holds2_calls (k : Nat) (hk : HoldsAt k) (b1 b2 : Nat) (a0_0 : Int) (a0_1 : Int) (A0_2 : Option Addr) (c0_2 : Nat) (l0_2 : List (S55)) (a0_3 : Nat) (a0_4 : Nat) (A0_5 : Option Addr) (c0_5 : Nat) (l0_5 : List (S26)) (a1_0 : Int) (a1_1 : Int) (a1_2 : Int) (A1_3 : Option Addr) (c1_3 : Nat) (l1_3 : List (S55)) (A1_4 : Option Addr) (c1_4 : Nat) (l1_4 : List Int) (A1_5 : Option Addr) (c1_5 : Nat) (l1_5 : List Int) (r : Bool) (w : World) (hr0_2 : Kd.C k55 w A0_2 l0_2.length l0_2) (hc0_2 : l0_2.length ≤ c0_2) (hr0_5 : Kd.C k26 w A0_5 l0_5.length l0_5) (hc0_5 : l0_5.length ≤ c0_5) (hF : FaC w A1_3 c1_3 l1_3 A1_4 c1_4 l1_4 A1_5 c1_5 l1_5) (hB : w.heap[b1]? = some (.cells #[.int .i64 a1_0, .int .i64 a1_1, .int .i64 a1_2, .slice A1_3 l1_3.length c1_3, .slice A1_4 l1_4.length c1_4, .slice A1_5 l1_5.length c1_5] 30 (0, 0))) (hB2 : w.heap[b2]? = some (.cells #[.func (.func 31) #[] #[.pointer (some ⟨b1, 0, none⟩)]] 32 (0, 0))) (h : gatewardenref15_Holds.f k a0_0 a0_1 l0_2 a0_3 a0_4 l0_5 a1_0 a1_1 a1_2 l1_3 l1_4 l1_5 = some r) :
    Calls Try.prog 34 #[.agg #[.int .i64 a0_0, .int .i64 a0_1, .slice A0_2 l0_2.length c0_2, .float .f64 a0_3, .float .f64 a0_4, .slice A0_5 l0_5.length c0_5], .pointer (some ⟨b2, 0, none⟩)] w fun e w' => e = .returned (.bool (!r)) ∧ Below w.heap.size w w' := by
  obtain ⟨T, hT⟩ : ∃ T : Ending → World → Prop, T = fun e w' => e = .returned (.bool (!r)) ∧ Below w.heap.size w w' := ⟨_, rfl⟩
  have HT := Aside0.mk hT
  rw [← hT]
  clear hT
  have hA := below_alloc (Below.refl w.heap.size w) (.cells #[.int .i64 a0_0, .int .i64 a0_1, .slice A0_2 l0_2.length c0_2, .float .f64 a0_3, .float .f64 a0_4, .slice A0_5 l0_5.length c0_5] 26)
  have HA := Aside0.mk hA
  have HC := Aside0.mk (holds1_calls k hk b1 a0_0 a0_1 A0_2 c0_2 l0_2 a0_3 a0_4 A0_5 c0_5 l0_5 a1_0 a1_1 a1_2 A1_3 c1_3 l1_3 A1_4 c1_4 l1_4 A1_5 c1_5 l1_5 r (w.alloc (.cells #[.int .i64 a0_0, .int .i64 a0_1, .slice A0_2 l0_2.length c0_2, .float .f64 a0_3, .float .f64 a0_4, .slice A0_5 l0_5.length c0_5] 26)) (Kd.C_below hr0_2 hA) hc0_2 (Kd.C_below hr0_5 hA) hc0_5 (hF.on hA) (blk_below hB hA) h)
  have f0 : w.cell? ⟨b2, 0, none⟩ = some (.func (.func 31) #[] #[.pointer (some ⟨b1, 0, none⟩)]) := blk_cell hB2 0
  have hlt := blk_lt hB2
  have hne : b2 ≠ w.heap.size := by omega
  have eg : ∀ args w, (callFunc 31 args).run Try.prog w = .ok (.enter 31 args) w := fun args w => enters_ Try.func31 rfl rfl args w
  clear hr0_2 hr0_5 hF hB hB2 hk h hA hc0_2 hc0_5
  go_enter Try.func34, Try.ntmps34
  go_wp2_with fail
  refine HC.out.mono ?_
  rintro e w1 ⟨rfl, hb⟩
  have HB := Aside0.mk (below_step HA.out hb)
  clear hb
  go_wp2_with fail
  rw [HT.out]
  exact ⟨rfl, HB.out⟩
theorem holds_three (K : Nat) (hk : HoldsAt K) (a0_1 : Int) (A0_2 : Option Addr) (c0_2 : Nat) (l0_2 : List (S55)) (a0_3 : Nat) (a0_4 : Nat) (A0_5 : Option Addr) (c0_5 : Nat) (l0_5 : List (S26)) (a1_0 : Int) (a1_1 : Int) (a1_2 : Int) (A1_3 : Option Addr) (c1_3 : Nat) (l1_3 : List (S55)) (A1_4 : Option Addr) (c1_4 : Nat) (l1_4 : List Int) (A1_5 : Option Addr) (c1_5 : Nat) (l1_5 : List Int) (r : Bool) (w : World) (hr0_2 : Kd.C k55 w A0_2 l0_2.length l0_2) (hc0_2 : l0_2.length ≤ c0_2) (hr0_5 : Kd.C k26 w A0_5 l0_5.length l0_5) (hc0_5 : l0_5.length ≤ c0_5) (hF : FaC w A1_3 c1_3 l1_3 A1_4 c1_4 l1_4 A1_5 c1_5 l1_5) (h : gatewardenref15_Holds.l0 K 0 3 a0_1 l0_2 a0_3 a0_4 l0_5 a1_0 a1_1 a1_2 l1_3 l1_4 l1_5 = some r) :
    Calls Try.prog 14 #[.agg #[.int .i64 3, .int .i64 a0_1, .slice A0_2 l0_2.length c0_2, .float .f64 a0_3, .float .f64 a0_4, .slice A0_5 l0_5.length c0_5], .agg #[.int .i64 a1_0, .int .i64 a1_1, .int .i64 a1_2, .slice A1_3 l1_3.length c1_3, .slice A1_4 l1_4.length c1_4, .slice A1_5 l1_5.length c1_5]] w fun e w' => e = .returned (.bool r) ∧ Below w.heap.size w w' := by
  obtain ⟨T, hT⟩ : ∃ T : Ending → World → Prop, T = fun e w' => e = .returned (.bool r) ∧ Below w.heap.size w w' := ⟨_, rfl⟩
  have HT := Aside0.mk hT
  rw [← hT]
  clear hT
  obtain ⟨W, hW0⟩ : ∃ W, hW w #[.int .i64 3, .int .i64 a0_1, .slice A0_2 l0_2.length c0_2, .float .f64 a0_3, .float .f64 a0_4, .slice A0_5 l0_5.length c0_5] #[.int .i64 a1_0, .int .i64 a1_1, .int .i64 a1_2, .slice A1_3 l1_3.length c1_3, .slice A1_4 l1_4.length c1_4, .slice A1_5 l1_5.length c1_5] = W := ⟨_, rfl⟩
  have hA := hW_below w #[.int .i64 3, .int .i64 a0_1, .slice A0_2 l0_2.length c0_2, .float .f64 a0_3, .float .f64 a0_4, .slice A0_5 l0_5.length c0_5] #[.int .i64 a1_0, .int .i64 a1_1, .int .i64 a1_2, .slice A1_3 l1_3.length c1_3, .slice A1_4 l1_4.length c1_4, .slice A1_5 l1_5.length c1_5]
  have hs := hW_size w #[.int .i64 3, .int .i64 a0_1, .slice A0_2 l0_2.length c0_2, .float .f64 a0_3, .float .f64 a0_4, .slice A0_5 l0_5.length c0_5] #[.int .i64 a1_0, .int .i64 a1_1, .int .i64 a1_2, .slice A1_3 l1_3.length c1_3, .slice A1_4 l1_4.length c1_4, .slice A1_5 l1_5.length c1_5]
  have g0 := hW_b0 w #[.int .i64 3, .int .i64 a0_1, .slice A0_2 l0_2.length c0_2, .float .f64 a0_3, .float .f64 a0_4, .slice A0_5 l0_5.length c0_5] #[.int .i64 a1_0, .int .i64 a1_1, .int .i64 a1_2, .slice A1_3 l1_3.length c1_3, .slice A1_4 l1_4.length c1_4, .slice A1_5 l1_5.length c1_5]
  have g1 := hW_b1 w #[.int .i64 3, .int .i64 a0_1, .slice A0_2 l0_2.length c0_2, .float .f64 a0_3, .float .f64 a0_4, .slice A0_5 l0_5.length c0_5] #[.int .i64 a1_0, .int .i64 a1_1, .int .i64 a1_2, .slice A1_3 l1_3.length c1_3, .slice A1_4 l1_4.length c1_4, .slice A1_5 l1_5.length c1_5]
  rw [hW0] at hA hs g0 g1
  have HE2 := Aside0.mk hr0_2
  have HE5 := Aside0.mk hr0_5
  have HF := Aside0.mk hF
  have HH := Aside0.mk h
  have HA := Aside0.mk hA
  have H2 := Aside0.mk hc0_2
  have H5 := Aside0.mk hc0_5
  have S0 := Aside0.mk hs
  have G0 := Aside0.mk g0
  have G1 := Aside0.mk g1
  clear hr0_2 hr0_5 hF h hA hc0_2 hc0_5 hs g0 g1
  go_enter Try.func14, Try.ntmps14
  go_upto_region 1 with (fail)
  unfold hW at hW0
  rw [hW0]
  clear hW0
  have fz := blk_frozen (new_at W (.cells #[.nilFunc] 32))
  have k0 : (W.alloc (.cells #[.nilFunc] 32)).cell? ⟨W.heap.size, 0, none⟩ = some .nilFunc := blk_cell (new_at W (.cells #[.nilFunc] 32)) 0
  go_upto_region 2 with (fail)
  clear fz k0
  have n0 := blk_alloc G0.out (.cells #[.func (.func 31) #[] #[.pointer (some ⟨w.heap.size + 1, 0, none⟩)]] 32)
  have n1 := blk_alloc G1.out (.cells #[.func (.func 31) #[] #[.pointer (some ⟨w.heap.size + 1, 0, none⟩)]] 32)
  have n2 := new_at W (.cells #[.func (.func 31) #[] #[.pointer (some ⟨w.heap.size + 1, 0, none⟩)]] 32)
  have nb := below_alloc HA.out (.cells #[.func (.func 31) #[] #[.pointer (some ⟨w.heap.size + 1, 0, none⟩)]] 32)
  clear G0 G1 HA
  generalize W.alloc (.cells #[.func (.func 31) #[] #[.pointer (some ⟨w.heap.size + 1, 0, none⟩)]] 32) = V at n0 n1 n2 nb ⊢
  rw [S0.out] at n2 ⊢
  clear S0
  have G0 := Aside0.mk n0
  have G1 := Aside0.mk n1
  have G2 := Aside0.mk n2
  have HB := Aside0.mk nb
  have e0 : V.cell? ⟨w.heap.size, 0, none⟩ = some (.int .i64 3) := blk_cell n0 0
  have e1 : V.cell? ⟨w.heap.size, 1, none⟩ = some (.int .i64 a0_1) := blk_cell n0 1
  have e2 : V.cell? ⟨w.heap.size, 2, none⟩ = some (.slice A0_2 l0_2.length c0_2) := blk_cell n0 2
  have e3 : V.cell? ⟨w.heap.size, 3, none⟩ = some (.float .f64 a0_3) := blk_cell n0 3
  have e4 : V.cell? ⟨w.heap.size, 4, none⟩ = some (.float .f64 a0_4) := blk_cell n0 4
  have e5 : V.cell? ⟨w.heap.size, 5, none⟩ = some (.slice A0_5 l0_5.length c0_5) := blk_cell n0 5
  have f0 : V.cell? ⟨w.heap.size + 1, 0, none⟩ = some (.int .i64 a1_0) := blk_cell n1 0
  have f1 : V.cell? ⟨w.heap.size + 1, 1, none⟩ = some (.int .i64 a1_1) := blk_cell n1 1
  have f2 : V.cell? ⟨w.heap.size + 1, 2, none⟩ = some (.int .i64 a1_2) := blk_cell n1 2
  have f3 : V.cell? ⟨w.heap.size + 1, 3, none⟩ = some (.slice A1_3 l1_3.length c1_3) := blk_cell n1 3
  have f4 : V.cell? ⟨w.heap.size + 1, 4, none⟩ = some (.slice A1_4 l1_4.length c1_4) := blk_cell n1 4
  have f5 : V.cell? ⟨w.heap.size + 1, 5, none⟩ = some (.slice A1_5 l1_5.length c1_5) := blk_cell n1 5
  have q0 : V.cell? ⟨w.heap.size + 2, 0, none⟩ = some (.func (.func 31) #[] #[.pointer (some ⟨w.heap.size + 1, 0, none⟩)]) := blk_cell n2 0
  clear n0 n1 n2 nb
  obtain ⟨q, hq, hr⟩ := l0_idx K a1_0 a1_1 a1_2 l1_3 l1_4 l1_5 _ _ _ _ _ l0_5 K 0 (Nat.le_refl _) r HH.out
  have hP1 : PredE 34 #[.pointer (some ⟨w.heap.size + 2, 0, none⟩)] (fun x => (hP K a1_0 a1_1 a1_2 l1_3 l1_4 l1_5 x).map not) V := by
    intro W' x A2 c2 A5 c5 b hbW hl2 g2 hl5 g5 hx
    obtain ⟨c, hc, rfl⟩ := Option.map_eq_some_iff.1 hx
    exact holds2_calls K hk (w.heap.size + 1) (w.heap.size + 2) x.f0 x.f1 A2 c2 x.f2 x.f3 x.f4 A5 c5 x.f5 a1_0 a1_1 a1_2 A1_3 c1_3 l1_3 A1_4 c1_4 l1_4 A1_5 c1_5 l1_5 c W' g2 hl2 g5 hl5 ((HF.out.on HB.out).on hbW) (blk_below G1.out hbW) (blk_below G2.out hbW) hc
  have HC := Aside0.mk (ContainsFuncWE A0_5 c0_5 l0_5 34 #[.pointer (some ⟨w.heap.size + 2, 0, none⟩)] (fun x => (hP K a1_0 a1_1 a1_2 l1_3 l1_4 l1_5 x).map not) q K V (Kd.C_below HE5.out HB.out) (fun args w => enters_ Try.func34 rfl rfl args w) hP1 hq)
  have HR := Aside0.mk hr
  clear hP1 hq hr hk HH
  go_wp2_with fail
  refine HC.out.mono ?_
  rintro e w1 ⟨rfl, hb⟩
  have HB1 := Aside0.mk (below_step HB.out hb)
  clear hb
  go_wp2_with fail
  rw [HT.out, HR.out]
  exact ⟨rfl, HB1.out⟩
theorem holds_two (K : Nat) (hk : HoldsAt K) (a0_1 : Int) (A0_2 : Option Addr) (c0_2 : Nat) (l0_2 : List (S55)) (a0_3 : Nat) (a0_4 : Nat) (A0_5 : Option Addr) (c0_5 : Nat) (l0_5 : List (S26)) (a1_0 : Int) (a1_1 : Int) (a1_2 : Int) (A1_3 : Option Addr) (c1_3 : Nat) (l1_3 : List (S55)) (A1_4 : Option Addr) (c1_4 : Nat) (l1_4 : List Int) (A1_5 : Option Addr) (c1_5 : Nat) (l1_5 : List Int) (r : Bool) (w : World) (hr0_2 : Kd.C k55 w A0_2 l0_2.length l0_2) (hc0_2 : l0_2.length ≤ c0_2) (hr0_5 : Kd.C k26 w A0_5 l0_5.length l0_5) (hc0_5 : l0_5.length ≤ c0_5) (hF : FaC w A1_3 c1_3 l1_3 A1_4 c1_4 l1_4 A1_5 c1_5 l1_5) (h : 0 < (l0_5.length : Int) ∧ hP K a1_0 a1_1 a1_2 l1_3 l1_4 l1_5 (rd_T26 l0_5 0) = some (!r)) :
    Calls Try.prog 14 #[.agg #[.int .i64 2, .int .i64 a0_1, .slice A0_2 l0_2.length c0_2, .float .f64 a0_3, .float .f64 a0_4, .slice A0_5 l0_5.length c0_5], .agg #[.int .i64 a1_0, .int .i64 a1_1, .int .i64 a1_2, .slice A1_3 l1_3.length c1_3, .slice A1_4 l1_4.length c1_4, .slice A1_5 l1_5.length c1_5]] w fun e w' => e = .returned (.bool r) ∧ Below w.heap.size w w' := by
  obtain ⟨T, hT⟩ : ∃ T : Ending → World → Prop, T = fun e w' => e = .returned (.bool r) ∧ Below w.heap.size w w' := ⟨_, rfl⟩
  have HT := Aside0.mk hT
  rw [← hT]
  clear hT
  obtain ⟨W, hW0⟩ : ∃ W, hW w #[.int .i64 2, .int .i64 a0_1, .slice A0_2 l0_2.length c0_2, .float .f64 a0_3, .float .f64 a0_4, .slice A0_5 l0_5.length c0_5] #[.int .i64 a1_0, .int .i64 a1_1, .int .i64 a1_2, .slice A1_3 l1_3.length c1_3, .slice A1_4 l1_4.length c1_4, .slice A1_5 l1_5.length c1_5] = W := ⟨_, rfl⟩
  have hA := hW_below w #[.int .i64 2, .int .i64 a0_1, .slice A0_2 l0_2.length c0_2, .float .f64 a0_3, .float .f64 a0_4, .slice A0_5 l0_5.length c0_5] #[.int .i64 a1_0, .int .i64 a1_1, .int .i64 a1_2, .slice A1_3 l1_3.length c1_3, .slice A1_4 l1_4.length c1_4, .slice A1_5 l1_5.length c1_5]
  have hs := hW_size w #[.int .i64 2, .int .i64 a0_1, .slice A0_2 l0_2.length c0_2, .float .f64 a0_3, .float .f64 a0_4, .slice A0_5 l0_5.length c0_5] #[.int .i64 a1_0, .int .i64 a1_1, .int .i64 a1_2, .slice A1_3 l1_3.length c1_3, .slice A1_4 l1_4.length c1_4, .slice A1_5 l1_5.length c1_5]
  have g0 := hW_b0 w #[.int .i64 2, .int .i64 a0_1, .slice A0_2 l0_2.length c0_2, .float .f64 a0_3, .float .f64 a0_4, .slice A0_5 l0_5.length c0_5] #[.int .i64 a1_0, .int .i64 a1_1, .int .i64 a1_2, .slice A1_3 l1_3.length c1_3, .slice A1_4 l1_4.length c1_4, .slice A1_5 l1_5.length c1_5]
  have g1 := hW_b1 w #[.int .i64 2, .int .i64 a0_1, .slice A0_2 l0_2.length c0_2, .float .f64 a0_3, .float .f64 a0_4, .slice A0_5 l0_5.length c0_5] #[.int .i64 a1_0, .int .i64 a1_1, .int .i64 a1_2, .slice A1_3 l1_3.length c1_3, .slice A1_4 l1_4.length c1_4, .slice A1_5 l1_5.length c1_5]
  rw [hW0] at hA hs g0 g1
  have HE2 := Aside0.mk hr0_2
  have HE5 := Aside0.mk hr0_5
  have HF := Aside0.mk hF
  have HH := Aside0.mk h
  have HA := Aside0.mk hA
  have H2 := Aside0.mk hc0_2
  have H5 := Aside0.mk hc0_5
  have S0 := Aside0.mk hs
  have G0 := Aside0.mk g0
  have G1 := Aside0.mk g1
  clear hr0_2 hr0_5 hF h hA hc0_2 hc0_5 hs g0 g1
  go_enter Try.func14, Try.ntmps14
  go_upto_region 1 with (fail)
  unfold hW at hW0
  rw [hW0]
  clear hW0
  have fz := blk_frozen (new_at W (.cells #[.nilFunc] 32))
  have k0 : (W.alloc (.cells #[.nilFunc] 32)).cell? ⟨W.heap.size, 0, none⟩ = some .nilFunc := blk_cell (new_at W (.cells #[.nilFunc] 32)) 0
  go_upto_region 2 with (fail)
  clear fz k0
  have n0 := blk_alloc G0.out (.cells #[.func (.func 31) #[] #[.pointer (some ⟨w.heap.size + 1, 0, none⟩)]] 32)
  have n1 := blk_alloc G1.out (.cells #[.func (.func 31) #[] #[.pointer (some ⟨w.heap.size + 1, 0, none⟩)]] 32)
  have n2 := new_at W (.cells #[.func (.func 31) #[] #[.pointer (some ⟨w.heap.size + 1, 0, none⟩)]] 32)
  have nb := below_alloc HA.out (.cells #[.func (.func 31) #[] #[.pointer (some ⟨w.heap.size + 1, 0, none⟩)]] 32)
  clear G0 G1 HA
  generalize W.alloc (.cells #[.func (.func 31) #[] #[.pointer (some ⟨w.heap.size + 1, 0, none⟩)]] 32) = V at n0 n1 n2 nb ⊢
  rw [S0.out] at n2 ⊢
  clear S0
  have G0 := Aside0.mk n0
  have G1 := Aside0.mk n1
  have G2 := Aside0.mk n2
  have HB := Aside0.mk nb
  have e0 : V.cell? ⟨w.heap.size, 0, none⟩ = some (.int .i64 2) := blk_cell n0 0
  have e1 : V.cell? ⟨w.heap.size, 1, none⟩ = some (.int .i64 a0_1) := blk_cell n0 1
  have e2 : V.cell? ⟨w.heap.size, 2, none⟩ = some (.slice A0_2 l0_2.length c0_2) := blk_cell n0 2
  have e3 : V.cell? ⟨w.heap.size, 3, none⟩ = some (.float .f64 a0_3) := blk_cell n0 3
  have e4 : V.cell? ⟨w.heap.size, 4, none⟩ = some (.float .f64 a0_4) := blk_cell n0 4
  have e5 : V.cell? ⟨w.heap.size, 5, none⟩ = some (.slice A0_5 l0_5.length c0_5) := blk_cell n0 5
  have f0 : V.cell? ⟨w.heap.size + 1, 0, none⟩ = some (.int .i64 a1_0) := blk_cell n1 0
  have f1 : V.cell? ⟨w.heap.size + 1, 1, none⟩ = some (.int .i64 a1_1) := blk_cell n1 1
  have f2 : V.cell? ⟨w.heap.size + 1, 2, none⟩ = some (.int .i64 a1_2) := blk_cell n1 2
  have f3 : V.cell? ⟨w.heap.size + 1, 3, none⟩ = some (.slice A1_3 l1_3.length c1_3) := blk_cell n1 3
  have f4 : V.cell? ⟨w.heap.size + 1, 4, none⟩ = some (.slice A1_4 l1_4.length c1_4) := blk_cell n1 4
  have f5 : V.cell? ⟨w.heap.size + 1, 5, none⟩ = some (.slice A1_5 l1_5.length c1_5) := blk_cell n1 5
  have q0 : V.cell? ⟨w.heap.size + 2, 0, none⟩ = some (.func (.func 31) #[] #[.pointer (some ⟨w.heap.size + 1, 0, none⟩)]) := blk_cell n2 0
  clear n0 n1 n2 nb
  obtain ⟨hlen, hh⟩ := HH.out
  obtain ⟨ad, A2, c2, A5, c5, hA, y0, y1, y2, y3, y4, y5, l2, g2, l5, g5⟩ := at_T26 (Kd.C_below HE5.out HB.out) 0 (Int.le_refl 0) hlen
  subst hA
  obtain ⟨y, hy⟩ : ∃ y, y = rd_T26 l0_5 0 := ⟨_, rfl⟩
  rw [← hy] at y0 y1 y2 y3 y4 y5 l2 g2 l5 g5 hh
  simp only [show ((0 : Int)).toNat = 0 from rfl, Nat.zero_mul, Addr.add_zero'] at y0 y1 y2 y3 y4 y5
  have HC : Aside0 (∀ W', Below V.heap.size V W' → Calls Try.prog 31 (#[.agg #[.int .i64 y.f0, .int .i64 y.f1, .slice A2 y.f2.length c2, .float .f64 y.f3, .float .f64 y.f4, .slice A5 y.f5.length c5]] ++ #[.pointer (some ⟨w.heap.size + 1, 0, none⟩)]) W' fun e w' => e = .returned (.bool (!r)) ∧ Below W'.heap.size W' w') := Aside0.mk (fun W' hbW => holds1_calls K hk (w.heap.size + 1) y.f0 y.f1 A2 c2 y.f2 y.f3 y.f4 A5 c5 y.f5 a1_0 a1_1 a1_2 A1_3 c1_3 l1_3 A1_4 c1_4 l1_4 A1_5 c1_5 l1_5 (!r) W' (Kd.C_below g2 hbW) l2 (Kd.C_below g5 hbW) l5 ((HF.out.on HB.out).on hbW) (blk_below G1.out hbW) hh)
  clear hy hh l2 g2 l5 g5 hk HH
  have hl1 : (0 < (l0_5.length : Int)) = True := eq_true hlen
  have hl2 : (0 < l0_5.length) = True := eq_true (by omega)
  have t0 := blk_lt G0.out
  have t1 := blk_lt G1.out
  have t2 := blk_lt G2.out
  have t3 : ad.block < V.heap.size := World.block_lt_of_cell? V _ y0
  go_upto_region 6 with (fail)
  refine reg_start (List.range 8) 8 (fun w' => Below V.heap.size V w') (by kernel_rfl) rfl (below_drew1 (Below.refl _ _)) (fun hHeld => ?_)
  generalize V.drew = V1 at hHeld ⊢
  repeat (first | (refine reg_pure (v := ?_) (a' := ?_) rfl rfl rfl (by kernel_rfl) (fun _ _ _ h => h) (by rfl) ?_ ?_ ?_; rotate_left; (solve | (intro w'; go_simp; with_reducible rfl)); rotate_left; (solve | (simp only [Act.put, List.setIfInBounds_toArray, List.set_cons_zero, List.set_cons_succ, i64_w, i32_w]; rfl))) | (refine reg_skip (a' := ?_) rfl rfl rfl (by rfl) (by kernel_rfl) (fun _ _ _ h => h) ?_ ?_; rotate_left; (solve | (simp only [Act.put, List.setIfInBounds_toArray, List.set_cons_zero, List.set_cons_succ, i64_w, i32_w]; rfl))) | (refine reg_load (v := ?_) (a' := ?_) rfl rfl rfl (by kernel_rfl) (fun _ _ _ h => h) (by rfl) ?_ hHeld ?_ ?_; rotate_left; (solve | (intro w' hb'; obtain ⟨hc', hf'⟩ := bcellA hb'; clear hb'; go_simp; with_reducible rfl)); rotate_left; (solve | (simp only [Act.put, List.setIfInBounds_toArray, List.set_cons_zero, List.set_cons_succ, i64_w, i32_w]; rfl)); intro hHeld))
  refine reg_callv #[.pointer (some ⟨w.heap.size + 1, 0, none⟩)] rfl rfl rfl (by kernel_rfl) (by rfl) Try.func31 (by kernel_rfl) rfl #[.agg #[.int .i64 y.f0, .int .i64 y.f1, .slice A2 y.f2.length c2, .float .f64 y.f3, .float .f64 y.f4, .slice A5 y.f5.length c5]] rfl (by rfl) (by (try simp only [List.map_toArray, List.map_cons, List.map_nil]); first | done | rfl) ?_
  refine (HC.out V1 hHeld).mono ?_
  rintro e w5 ⟨rfl, hb⟩
  refine ⟨_, rfl, below_step hHeld hb, fun hHeld => ?_⟩
  rintro a' ha'
  simp only [Act.put, List.setIfInBounds_toArray, List.set_cons_zero, List.set_cons_succ, i64_w, i32_w] at ha'
  subst ha'
  repeat (first | (refine reg_pure (v := ?_) (a' := ?_) rfl rfl rfl (by kernel_rfl) (fun _ _ _ h => h) (by rfl) ?_ ?_ ?_; rotate_left; (solve | (intro w'; go_simp; with_reducible rfl)); rotate_left; (solve | (simp only [Act.put, List.setIfInBounds_toArray, List.set_cons_zero, List.set_cons_succ, i64_w, i32_w]; rfl))) | (refine reg_skip (a' := ?_) rfl rfl rfl (by rfl) (by kernel_rfl) (fun _ _ _ h => h) ?_ ?_; rotate_left; (solve | (simp only [Act.put, List.setIfInBounds_toArray, List.set_cons_zero, List.set_cons_succ, i64_w, i32_w]; rfl))) | (refine reg_load (v := ?_) (a' := ?_) rfl rfl rfl (by kernel_rfl) (fun _ _ _ h => h) (by rfl) ?_ hHeld ?_ ?_; rotate_left; (solve | (intro w' hb'; obtain ⟨hc', hf'⟩ := bcellA hb'; clear hb'; go_simp; with_reducible rfl)); rotate_left; (solve | (simp only [Act.put, List.setIfInBounds_toArray, List.set_cons_zero, List.set_cons_succ, i64_w, i32_w]; rfl)); intro hHeld))
  refine reg_done (by kernel_rfl) ?_
  go_wp2_with fail
  rw [HT.out]
  exact ⟨by simp, below_step HB.out hHeld⟩
theorem holds_at : ∀ k, HoldsAt k
  | 0 => fun a0_0 a0_1 A0_2 c0_2 l0_2 a0_3 a0_4 A0_5 c0_5 l0_5 a1_0 a1_1 a1_2 A1_3 c1_3 l1_3 A1_4 c1_4 l1_4 A1_5 c1_5 l1_5 r w hr0_2 hc0_2 hr0_5 hc0_5 hF h => by simp [gatewardenref15_Holds.f] at h
  | k + 1 => fun a0_0 a0_1 A0_2 c0_2 l0_2 a0_3 a0_4 A0_5 c0_5 l0_5 a1_0 a1_1 a1_2 A1_3 c1_3 l1_3 A1_4 c1_4 l1_4 A1_5 c1_5 l1_5 r w hr0_2 hc0_2 hr0_5 hc0_5 hF h => by
    have hk := holds_at k
    rw [gatewardenref15_Holds.f] at h
    by_cases h1 : a0_0 = 1
    · rw [if_pos h1] at h; subst h1
      obtain ⟨t, ht, h⟩ := Option.bind_eq_some_iff.1 h
      cases h
      exact holds_one a0_1 A0_2 c0_2 l0_2 a0_3 a0_4 A0_5 c0_5 l0_5 a1_0 a1_1 a1_2 A1_3 c1_3 l1_3 A1_4 c1_4 l1_4 A1_5 c1_5 l1_5 _ w hr0_2 hc0_2 hr0_5 hc0_5 hF ht
    rw [if_neg h1] at h
    by_cases h2 : a0_0 = 2
    · rw [if_pos h2] at h; subst h2
      by_cases hl : 0 < (l0_5.length : Int)
      · rw [if_pos hl] at h
        obtain ⟨t, ht, h⟩ := Option.bind_eq_some_iff.1 h
        cases h
        exact holds_two k hk a0_1 A0_2 c0_2 l0_2 a0_3 a0_4 A0_5 c0_5 l0_5 a1_0 a1_1 a1_2 A1_3 c1_3 l1_3 A1_4 c1_4 l1_4 A1_5 c1_5 l1_5 _ w hr0_2 hc0_2 hr0_5 hc0_5 hF ⟨hl, by rw [Bool.not_not]; exact ht⟩
      · rw [if_neg hl] at h; exact absurd h (by simp)
    rw [if_neg h2] at h
    by_cases h3 : a0_0 = 3
    · rw [if_pos h3] at h; subst h3
      exact holds_three k hk a0_1 A0_2 c0_2 l0_2 a0_3 a0_4 A0_5 c0_5 l0_5 a1_0 a1_1 a1_2 A1_3 c1_3 l1_3 A1_4 c1_4 l1_4 A1_5 c1_5 l1_5 _ w hr0_2 hc0_2 hr0_5 hc0_5 hF h
    rw [if_neg h3] at h
    by_cases h4 : a0_0 = 4
    · rw [if_pos h4] at h; subst h4
      exact holds_four k hk a0_1 A0_2 c0_2 l0_2 a0_3 a0_4 A0_5 c0_5 l0_5 a1_0 a1_1 a1_2 A1_3 c1_3 l1_3 A1_4 c1_4 l1_4 A1_5 c1_5 l1_5 _ w hr0_2 hc0_2 hr0_5 hc0_5 hF h
    rw [if_neg h4] at h
    exact holds_else a0_0 a0_1 A0_2 c0_2 l0_2 a0_3 a0_4 A0_5 c0_5 l0_5 a1_0 a1_1 a1_2 A1_3 c1_3 l1_3 A1_4 c1_4 l1_4 A1_5 c1_5 l1_5 r w hr0_2 hc0_2 hr0_5 hc0_5 hF ⟨(Option.some.inj h).symm, h1, h2, h3, h4⟩
end Go.Proofs.Ytppmcbkcohiodaa.PMeanTells
