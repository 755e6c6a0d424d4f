/- Texts of this claim, put together (wip/pack.py): MeanNotsW. -/
import Derived.Test.YtppmcbkcohiodaaK26
import Derived.Test.YtppmcbkcohiodaaK2
import Derived.Test.YtppmcbkcohiodaaK27
import Derived.Test.YtppmcbkcohiodaaK28
namespace Go.Proofs.Ytppmcbkcohiodaa.PMeanTells
open Go Go.RowKit Go.Proofs.YtppmcbkcohiodaaW.PrintWords Go.Proofs.YtppmcbkcohiodaaW.PrintLast Go.Proofs.YtppmcbkcohiodaaW.PrintMore
set_option maxHeartbeats 4000000
set_option maxRecDepth 100000
set_option linter.unusedVariables false
set_option linter.unusedSimpArgs false
def nW (w : World) (E E' F : Array Value) : World := ((w.alloc (.cells E 26)).alloc (.cells E' 26)).alloc (.cells F 30)
theorem addN (g i : Nat) : ((⟨g, 0, none⟩ : Addr).add i) = ⟨g, i, none⟩ := by
  unfold Addr.add; split <;> simp_all
theorem rowN1 {w : World} {g : Nat} {x : S26} {cs : List Value} (h : w.heap[g]? = some (.cells cs.toArray 26 (0, 0))) (hx : k26.K w x cs) : Kd.C k26 w (some ⟨g, 0, none⟩) 1 [x] := by
  refine ⟨rfl, by decide, fun _ => ⟨_, rfl, fun j p hp => ?_⟩⟩
  match j, hp with
  | 0, hp =>
    cases hp
    refine ⟨cs, k26.K_len hx, hx, fun i u hu => ?_⟩
    rw [Nat.zero_mul, Nat.zero_add, addN, blk_cell h i]
    simpa using hu
theorem rowN2 {w : World} {g : Nat} {x y : S26} {cs ds : List Value} (h : w.heap[g]? = some (.cells (cs ++ ds).toArray 26 (0, 0))) (hx : k26.K w x cs) (hy : k26.K w y ds) : Kd.C k26 w (some ⟨g, 0, none⟩) 2 [x, y] := by
  have lx := k26.K_len hx
  have ly := k26.K_len hy
  refine ⟨rfl, by decide, fun _ => ⟨_, rfl, fun j p hp => ?_⟩⟩
  match j, hp with
  | 0, hp =>
    cases hp
    refine ⟨cs, lx, hx, fun i u hu => ?_⟩
    have hi : i < cs.length := (List.getElem?_eq_some_iff.1 hu).1
    rw [Nat.zero_mul, Nat.zero_add, addN, blk_cell h i]
    simpa [List.getElem?_append_left hi] using hu
  | 1, hp =>
    cases hp
    refine ⟨ds, ly, hy, fun i u hu => ?_⟩
    rw [Nat.one_mul, addN, blk_cell h _, ← lx]
    simpa [List.getElem?_append_right] using hu
theorem val_eq {c u f : Int} {sp : List S55} {vs rs : List Int} {x : S26} {b : Bool} (h : Told c u f sp vs rs x b) : val c u f sp vs rs x = b := Told.det (val_told ⟨b, h⟩) h
theorem told_and2 {c u f : Int} {sp : List S55} {vs rs : List Int} {x y : S26} {p q : Bool} (hx : Told c u f sp vs rs x p) (hy : Told c u f sp vs rs y q) : Told c u f sp vs rs ⟨3, 0, [], 0, 0, [x, y]⟩ (p && q) := by
  have := told_and (x := ⟨3, 0, [], 0, 0, [x, y]⟩) (v := val c u f sp vs rs) rfl (by show 2 ≤ _; omega) (fun z hz => by
    have hz : z ∈ [x, y] := hz
    simp only [List.mem_cons, List.not_mem_nil, or_false] at hz
    rcases hz with rfl | rfl
    · exact val_told ⟨_, hx⟩
    · exact val_told ⟨_, hy⟩)
  have e : (⟨3, 0, [], 0, 0, [x, y]⟩ : S26).f5.all (val c u f sp vs rs) = (p && q) := by
    show (val c u f sp vs rs x && (val c u f sp vs rs y && true)) = (p && q)
    rw [val_eq hx, val_eq hy, Bool.and_true]
  rwa [e] at this
theorem told_or2 {c u f : Int} {sp : List S55} {vs rs : List Int} {x y : S26} {p q : Bool} (hx : Told c u f sp vs rs x p) (hy : Told c u f sp vs rs y q) : Told c u f sp vs rs ⟨4, 0, [], 0, 0, [x, y]⟩ (p || q) := by
  have := told_or (x := ⟨4, 0, [], 0, 0, [x, y]⟩) (v := val c u f sp vs rs) rfl (by show 2 ≤ _; omega) (fun z hz => by
    have hz : z ∈ [x, y] := hz
    simp only [List.mem_cons, List.not_mem_nil, or_false] at hz
    rcases hz with rfl | rfl
    · exact val_told ⟨_, hx⟩
    · exact val_told ⟨_, hy⟩)
  have e : (⟨4, 0, [], 0, 0, [x, y]⟩ : S26).f5.any (val c u f sp vs rs) = (p || q) := by
    show (val c u f sp vs rs x || (val c u f sp vs rs y || false)) = (p || q)
    rw [val_eq hx, val_eq hy, Bool.or_false]
  rwa [e] at this
theorem exec_load26 (a' : Act) (d : Option Tmp) (ty : TypeId) (p : String) (af : Array Edge) (gd : Option (Nat × Bool)) (t g : Nat) (c0 c1 c2 c3 c4 c5 : Value) (w' : World) (hx : a'.eval (.tmp t) = .pointer (some ⟨g, 0, none⟩)) (h : w'.heap[g]? = some (.cells #[c0, c1, c2, c3, c4, c5] 26 (0, 0))) :
    (execOp a'.eval { dst := d, op := .load 26 (.tmp t), type := ty, pos := p, after := af, guard := gd }).run Try.prog w' = .ok (.value (.agg #[c0, c1, c2, c3, c4, c5])) w' := by
  have i_ : (a'.tmps[t]?).getD undef = .pointer (some ⟨g, 0, none⟩) := by rw [← Array.getD_eq_getD_getElem?]; exact hx
  have z0 : w'.cell? ⟨g, 0, none⟩ = some c0 := blk_cell h 0
  have z1 : w'.cell? ⟨g, 1, none⟩ = some c1 := blk_cell h 1
  have z2 : w'.cell? ⟨g, 2, none⟩ = some c2 := blk_cell h 2
  have z3 : w'.cell? ⟨g, 3, none⟩ = some c3 := blk_cell h 3
  have z4 : w'.cell? ⟨g, 4, none⟩ = some c4 := blk_cell h 4
  have z5 : w'.cell? ⟨g, 5, none⟩ = some c5 := blk_cell h 5
  clear h hx
  go_simp
theorem exec_load30 (a' : Act) (d : Option Tmp) (ty : TypeId) (p : String) (af : Array Edge) (gd : Option (Nat × Bool)) (t g : Nat) (c0 c1 c2 c3 c4 c5 : Value) (w' : World) (hx : a'.eval (.tmp t) = .pointer (some ⟨g, 0, none⟩)) (h : w'.heap[g]? = some (.cells #[c0, c1, c2, c3, c4, c5] 30 (0, 0))) :
    (execOp a'.eval { dst := d, op := .load 30 (.tmp t), type := ty, pos := p, after := af, guard := gd }).run Try.prog w' = .ok (.value (.agg #[c0, c1, c2, c3, c4, c5])) w' := by
  have i_ : (a'.tmps[t]?).getD undef = .pointer (some ⟨g, 0, none⟩) := by rw [← Array.getD_eq_getD_getElem?]; exact hx
  have z0 : w'.cell? ⟨g, 0, none⟩ = some c0 := blk_cell h 0
  have z1 : w'.cell? ⟨g, 1, none⟩ = some c1 := blk_cell h 1
  have z2 : w'.cell? ⟨g, 2, none⟩ = some c2 := blk_cell h 2
  have z3 : w'.cell? ⟨g, 3, none⟩ = some c3 := blk_cell h 3
  have z4 : w'.cell? ⟨g, 4, none⟩ = some c4 := blk_cell h 4
  have z5 : w'.cell? ⟨g, 5, none⟩ = some c5 := blk_cell h 5
  clear h hx
  go_simp
theorem exec_ld26 {a' : Act} {oi : Oper} {t g : Nat} {c0 c1 c2 c3 c4 c5 : Value} {w' : World} (hop : oi.op = .load 26 (.tmp t)) (hx : a'.eval (.tmp t) = .pointer (some ⟨g, 0, none⟩)) (h : w'.heap[g]? = some (.cells #[c0, c1, c2, c3, c4, c5] 26 (0, 0))) :
    (execOp a'.eval oi).run Try.prog w' = .ok (.value (.agg #[c0, c1, c2, c3, c4, c5])) w' := by
  cases oi with
  | mk d op ty p af gd =>
    have hop : op = .load 26 (.tmp t) := hop
    subst hop
    exact exec_load26 a' d ty p af gd t g c0 c1 c2 c3 c4 c5 w' hx h
theorem exec_ld30 {a' : Act} {oi : Oper} {t g : Nat} {c0 c1 c2 c3 c4 c5 : Value} {w' : World} (hop : oi.op = .load 30 (.tmp t)) (hx : a'.eval (.tmp t) = .pointer (some ⟨g, 0, none⟩)) (h : w'.heap[g]? = some (.cells #[c0, c1, c2, c3, c4, c5] 30 (0, 0))) :
    (execOp a'.eval oi).run Try.prog w' = .ok (.value (.agg #[c0, c1, c2, c3, c4, c5])) w' := by
  cases oi with
  | mk d op ty p af gd =>
    have hop : op = .load 30 (.tmp t) := hop
    subst hop
    exact exec_load30 a' d ty p af gd t g c0 c1 c2 c3 c4 c5 w' hx h
theorem runN_store_float {P : Program} {w : World} (a : Addr) (m : Mode) (k : FloatKind) (n : Nat) : (store a (.float k n) m).run P w = stored P w a (.float k n) m := run_store P w a _ m rfl
attribute [local go_sem] runN_store_float
theorem nW_below (w : World) (E E' F : Array Value) : Below w.heap.size w (nW w E E' F) := below_alloc (below_alloc (below_alloc (Below.refl _ _) _) _) _
theorem nW_b0 (w : World) (E E' F : Array Value) : (nW w E E' F).heap[w.heap.size]? = some (.cells E 26 (0, 0)) := blk_alloc (blk_alloc (new_at w _) _) _
theorem nW_b1 (w : World) (E E' F : Array Value) : (nW w E E' F).heap[w.heap.size + 1]? = some (.cells E' 26 (0, 0)) := by
  have := new_at (w.alloc (.cells E 26)) (.cells E' 26)
  rw [new_size] at this
  exact blk_alloc this _
theorem nW_b2 (w : World) (E E' F : Array Value) : (nW w E E' F).heap[w.heap.size + 1 + 1]? = some (.cells F 30 (0, 0)) := by
  have := new_at ((w.alloc (.cells E 26)).alloc (.cells E' 26)) (.cells F 30)
  rw [new_size, new_size] at this
  exact this
theorem MeanNots_calls (a0_0 : Int) (a0_1 : Int) (A0_2 : Option Addr) (c0_2 : Nat) (l0_2 : List (S55)) (a0_3 : Nat) (a0_4 : Nat) (A0_5 : Option Addr) (c0_5 : Nat) (l0_5 : List (S26)) (b0_0 : Int) (b0_1 : Int) (B0_2 : Option Addr) (d0_2 : Nat) (m0_2 : List (S55)) (b0_3 : Nat) (b0_4 : Nat) (B0_5 : Option Addr) (d0_5 : Nat) (m0_5 : List (S26)) (a1_0 : Int) (a1_1 : Int) (a1_2 : Int) (A1_3 : Option Addr) (c1_3 : Nat) (l1_3 : List (S55)) (A1_4 : Option Addr) (c1_4 : Nat) (l1_4 : List Int) (A1_5 : Option Addr) (c1_5 : Nat) (l1_5 : List Int) (w : World) (hr0_2 : Kd.C k55 w A0_2 l0_2.length l0_2) (hc0_2 : l0_2.length ≤ c0_2) (hr0_5 : Kd.C k26 w A0_5 l0_5.length l0_5) (hc0_5 : l0_5.length ≤ c0_5) (gr0_2 : Kd.C k55 w B0_2 m0_2.length m0_2) (gd0_2 : m0_2.length ≤ d0_2) (gr0_5 : Kd.C k26 w B0_5 m0_5.length m0_5) (gd0_5 : m0_5.length ≤ d0_5) (hF : FaC w A1_3 c1_3 l1_3 A1_4 c1_4 l1_4 A1_5 c1_5 l1_5) (hgE : G26 ⟨a0_0, a0_1, l0_2, a0_3, a0_4, l0_5⟩) (hgB : G26 ⟨b0_0, b0_1, m0_2, b0_3, b0_4, m0_5⟩) :
    Calls Try.prog 4 #[.agg #[.int .i64 a0_0, .int .i64 a0_1, .slice A0_2 l0_2.length c0_2, .float .f64 a0_3, .float .f64 a0_4, .slice A0_5 l0_5.length c0_5], .agg #[.int .i64 b0_0, .int .i64 b0_1, .slice B0_2 m0_2.length d0_2, .float .f64 b0_3, .float .f64 b0_4, .slice B0_5 m0_5.length d0_5], .agg #[.int .i64 a1_0, .int .i64 a1_1, .int .i64 a1_2, .slice A1_3 l1_3.length c1_3, .slice A1_4 l1_4.length c1_4, .slice A1_5 l1_5.length c1_5]] w fun e w' => e = .returned (.bool true) ∧ Below w.heap.size w w' := by
  obtain ⟨T, hT⟩ : ∃ T : Ending → World → Prop, T = fun e w' => e = .returned (.bool true) ∧ Below w.heap.size w w' := ⟨_, rfl⟩
  have HT := Aside0.mk hT
  rw [← hT]
  clear hT
  have hA := nW_below w #[.int .i64 a0_0, .int .i64 a0_1, .slice A0_2 l0_2.length c0_2, .float .f64 a0_3, .float .f64 a0_4, .slice A0_5 l0_5.length c0_5] #[.int .i64 b0_0, .int .i64 b0_1, .slice B0_2 m0_2.length d0_2, .float .f64 b0_3, .float .f64 b0_4, .slice B0_5 m0_5.length d0_5] #[.int .i64 a1_0, .int .i64 a1_1, .int .i64 a1_2, .slice A1_3 l1_3.length c1_3, .slice A1_4 l1_4.length c1_4, .slice A1_5 l1_5.length c1_5]
  have g0 := nW_b0 w #[.int .i64 a0_0, .int .i64 a0_1, .slice A0_2 l0_2.length c0_2, .float .f64 a0_3, .float .f64 a0_4, .slice A0_5 l0_5.length c0_5] #[.int .i64 b0_0, .int .i64 b0_1, .slice B0_2 m0_2.length d0_2, .float .f64 b0_3, .float .f64 b0_4, .slice B0_5 m0_5.length d0_5] #[.int .i64 a1_0, .int .i64 a1_1, .int .i64 a1_2, .slice A1_3 l1_3.length c1_3, .slice A1_4 l1_4.length c1_4, .slice A1_5 l1_5.length c1_5]
  have g1 := nW_b1 w #[.int .i64 a0_0, .int .i64 a0_1, .slice A0_2 l0_2.length c0_2, .float .f64 a0_3, .float .f64 a0_4, .slice A0_5 l0_5.length c0_5] #[.int .i64 b0_0, .int .i64 b0_1, .slice B0_2 m0_2.length d0_2, .float .f64 b0_3, .float .f64 b0_4, .slice B0_5 m0_5.length d0_5] #[.int .i64 a1_0, .int .i64 a1_1, .int .i64 a1_2, .slice A1_3 l1_3.length c1_3, .slice A1_4 l1_4.length c1_4, .slice A1_5 l1_5.length c1_5]
  have g2 := nW_b2 w #[.int .i64 a0_0, .int .i64 a0_1, .slice A0_2 l0_2.length c0_2, .float .f64 a0_3, .float .f64 a0_4, .slice A0_5 l0_5.length c0_5] #[.int .i64 b0_0, .int .i64 b0_1, .slice B0_2 m0_2.length d0_2, .float .f64 b0_3, .float .f64 b0_4, .slice B0_5 m0_5.length d0_5] #[.int .i64 a1_0, .int .i64 a1_1, .int .i64 a1_2, .slice A1_3 l1_3.length c1_3, .slice A1_4 l1_4.length c1_4, .slice A1_5 l1_5.length c1_5]
  obtain ⟨W, hW0⟩ : ∃ W, nW w #[.int .i64 a0_0, .int .i64 a0_1, .slice A0_2 l0_2.length c0_2, .float .f64 a0_3, .float .f64 a0_4, .slice A0_5 l0_5.length c0_5] #[.int .i64 b0_0, .int .i64 b0_1, .slice B0_2 m0_2.length d0_2, .float .f64 b0_3, .float .f64 b0_4, .slice B0_5 m0_5.length d0_5] #[.int .i64 a1_0, .int .i64 a1_1, .int .i64 a1_2, .slice A1_3 l1_3.length c1_3, .slice A1_4 l1_4.length c1_4, .slice A1_5 l1_5.length c1_5] = W := ⟨_, rfl⟩
  rw [hW0] at hA g0 g1 g2
  have HE2 := Aside0.mk hr0_2
  have HE5 := Aside0.mk hr0_5
  have H2 := Aside0.mk hc0_2
  have H5 := Aside0.mk hc0_5
  have KE2 := Aside0.mk gr0_2
  have KE5 := Aside0.mk gr0_5
  have K2 := Aside0.mk gd0_2
  have K5 := Aside0.mk gd0_5
  have HF := Aside0.mk hF
  have HA := Aside0.mk hA
  have G0 := Aside0.mk g0
  have G1 := Aside0.mk g1
  have G2 := Aside0.mk g2
  have HGE := Aside0.mk hgE
  have HGB := Aside0.mk hgB
  have H0 := Aside0.mk (Below.refl W.heap.size W)
  clear hr0_2 hr0_5 hc0_2 hc0_5 gr0_2 gr0_5 gd0_2 gd0_5 hF hA g0 g1 g2 hgE hgB
  go_enter Try.func4, Try.ntmps4
  go_upto_region 1 with (fail)
  unfold nW at hW0
  rw [hW0]
  clear hW0
  have e0 : W.cell? ⟨w.heap.size, 0, none⟩ = some (.int .i64 a0_0) := blk_cell (blk_below G0.out H0.out) 0
  have e1 : W.cell? ⟨w.heap.size, 1, none⟩ = some (.int .i64 a0_1) := blk_cell (blk_below G0.out H0.out) 1
  have e2 : W.cell? ⟨w.heap.size, 2, none⟩ = some (.slice A0_2 l0_2.length c0_2) := blk_cell (blk_below G0.out H0.out) 2
  have e3 : W.cell? ⟨w.heap.size, 3, none⟩ = some (.float .f64 a0_3) := blk_cell (blk_below G0.out H0.out) 3
  have e4 : W.cell? ⟨w.heap.size, 4, none⟩ = some (.float .f64 a0_4) := blk_cell (blk_below G0.out H0.out) 4
  have e5 : W.cell? ⟨w.heap.size, 5, none⟩ = some (.slice A0_5 l0_5.length c0_5) := blk_cell (blk_below G0.out H0.out) 5
  have h0 : W.cell? ⟨w.heap.size + 1, 0, none⟩ = some (.int .i64 b0_0) := blk_cell (blk_below G1.out H0.out) 0
  have h1 : W.cell? ⟨w.heap.size + 1, 1, none⟩ = some (.int .i64 b0_1) := blk_cell (blk_below G1.out H0.out) 1
  have h2 : W.cell? ⟨w.heap.size + 1, 2, none⟩ = some (.slice B0_2 m0_2.length d0_2) := blk_cell (blk_below G1.out H0.out) 2
  have h3 : W.cell? ⟨w.heap.size + 1, 3, none⟩ = some (.float .f64 b0_3) := blk_cell (blk_below G1.out H0.out) 3
  have h4 : W.cell? ⟨w.heap.size + 1, 4, none⟩ = some (.float .f64 b0_4) := blk_cell (blk_below G1.out H0.out) 4
  have h5 : W.cell? ⟨w.heap.size + 1, 5, none⟩ = some (.slice B0_5 m0_5.length d0_5) := blk_cell (blk_below G1.out H0.out) 5
  have f0 : W.cell? ⟨w.heap.size + 1 + 1, 0, none⟩ = some (.int .i64 a1_0) := blk_cell (blk_below G2.out H0.out) 0
  have f1 : W.cell? ⟨w.heap.size + 1 + 1, 1, none⟩ = some (.int .i64 a1_1) := blk_cell (blk_below G2.out H0.out) 1
  have f2 : W.cell? ⟨w.heap.size + 1 + 1, 2, none⟩ = some (.int .i64 a1_2) := blk_cell (blk_below G2.out H0.out) 2
  have f3 : W.cell? ⟨w.heap.size + 1 + 1, 3, none⟩ = some (.slice A1_3 l1_3.length c1_3) := blk_cell (blk_below G2.out H0.out) 3
  have f4 : W.cell? ⟨w.heap.size + 1 + 1, 4, none⟩ = some (.slice A1_4 l1_4.length c1_4) := blk_cell (blk_below G2.out H0.out) 4
  have f5 : W.cell? ⟨w.heap.size + 1 + 1, 5, none⟩ = some (.slice A1_5 l1_5.length c1_5) := blk_cell (blk_below G2.out H0.out) 5
  obtain ⟨k1, b1, hb1, q1⟩ := small_told ⟨a0_0, a0_1, l0_2, a0_3, a0_4, l0_5⟩ 4 (by decide) (by decide)
  have HB1 := Aside0.mk hb1
  have Q1 := Aside0.mk q1
  clear hb1 q1
  go_wp2_with fail
  refine (gatewardenref11_Small.calls k1 a0_0 a0_1 A0_2 c0_2 l0_2 a0_3 a0_4 A0_5 c0_5 l0_5 4 b1 W (Kd.C_below HE2.out (below_step HA.out H0.out)) H2.out (Kd.C_below HE5.out (below_step HA.out H0.out)) H5.out HB1.out).mono ?_
  rintro e w1 ⟨rfl, hb⟩
  have H1 := Aside0.mk (below_step H0.out hb)
  clear hb
  clear e0 h0 f0 e1 h1 f1 e2 h2 f2 e3 h3 f3 e4 h4 f4 e5 h5 f5
  cases b1 with
  | false =>
    go_wp2_with fail
    refine (awake15 _).mono ?_
    rintro e w9 ⟨rfl, hb⟩
    have HZ := Aside0.mk (below_step (below_step HA.out H1.out) hb)
    clear hb
    go_wp2_with fail
    rw [HT.out]
    exact ⟨rfl, HZ.out⟩
  | true =>
  have e0 : w1.cell? ⟨w.heap.size, 0, none⟩ = some (.int .i64 a0_0) := blk_cell (blk_below G0.out H1.out) 0
  have e1 : w1.cell? ⟨w.heap.size, 1, none⟩ = some (.int .i64 a0_1) := blk_cell (blk_below G0.out H1.out) 1
  have e2 : w1.cell? ⟨w.heap.size, 2, none⟩ = some (.slice A0_2 l0_2.length c0_2) := blk_cell (blk_below G0.out H1.out) 2
  have e3 : w1.cell? ⟨w.heap.size, 3, none⟩ = some (.float .f64 a0_3) := blk_cell (blk_below G0.out H1.out) 3
  have e4 : w1.cell? ⟨w.heap.size, 4, none⟩ = some (.float .f64 a0_4) := blk_cell (blk_below G0.out H1.out) 4
  have e5 : w1.cell? ⟨w.heap.size, 5, none⟩ = some (.slice A0_5 l0_5.length c0_5) := blk_cell (blk_below G0.out H1.out) 5
  have h0 : w1.cell? ⟨w.heap.size + 1, 0, none⟩ = some (.int .i64 b0_0) := blk_cell (blk_below G1.out H1.out) 0
  have h1 : w1.cell? ⟨w.heap.size + 1, 1, none⟩ = some (.int .i64 b0_1) := blk_cell (blk_below G1.out H1.out) 1
  have h2 : w1.cell? ⟨w.heap.size + 1, 2, none⟩ = some (.slice B0_2 m0_2.length d0_2) := blk_cell (blk_below G1.out H1.out) 2
  have h3 : w1.cell? ⟨w.heap.size + 1, 3, none⟩ = some (.float .f64 b0_3) := blk_cell (blk_below G1.out H1.out) 3
  have h4 : w1.cell? ⟨w.heap.size + 1, 4, none⟩ = some (.float .f64 b0_4) := blk_cell (blk_below G1.out H1.out) 4
  have h5 : w1.cell? ⟨w.heap.size + 1, 5, none⟩ = some (.slice B0_5 m0_5.length d0_5) := blk_cell (blk_below G1.out H1.out) 5
  have f0 : w1.cell? ⟨w.heap.size + 1 + 1, 0, none⟩ = some (.int .i64 a1_0) := blk_cell (blk_below G2.out H1.out) 0
  have f1 : w1.cell? ⟨w.heap.size + 1 + 1, 1, none⟩ = some (.int .i64 a1_1) := blk_cell (blk_below G2.out H1.out) 1
  have f2 : w1.cell? ⟨w.heap.size + 1 + 1, 2, none⟩ = some (.int .i64 a1_2) := blk_cell (blk_below G2.out H1.out) 2
  have f3 : w1.cell? ⟨w.heap.size + 1 + 1, 3, none⟩ = some (.slice A1_3 l1_3.length c1_3) := blk_cell (blk_below G2.out H1.out) 3
  have f4 : w1.cell? ⟨w.heap.size + 1 + 1, 4, none⟩ = some (.slice A1_4 l1_4.length c1_4) := blk_cell (blk_below G2.out H1.out) 4
  have f5 : w1.cell? ⟨w.heap.size + 1 + 1, 5, none⟩ = some (.slice A1_5 l1_5.length c1_5) := blk_cell (blk_below G2.out H1.out) 5
  have SA := Aside0.mk (Q1.out (by trivial))
  obtain ⟨k2, b2, hb2, q2⟩ := small_told ⟨b0_0, b0_1, m0_2, b0_3, b0_4, m0_5⟩ 4 (by decide) (by decide)
  have HB2 := Aside0.mk hb2
  have Q2 := Aside0.mk q2
  clear hb2 q2 Q1 HB1
  go_wp2_with fail
  refine (gatewardenref11_Small.calls k2 b0_0 b0_1 B0_2 d0_2 m0_2 b0_3 b0_4 B0_5 d0_5 m0_5 4 b2 w1 (Kd.C_below KE2.out (below_step HA.out H1.out)) K2.out (Kd.C_below KE5.out (below_step HA.out H1.out)) K5.out HB2.out).mono ?_
  rintro e w2 ⟨rfl, hb⟩
  have H2w := Aside0.mk (below_step H1.out hb)
  clear hb
  clear e0 h0 f0 e1 h1 f1 e2 h2 f2 e3 h3 f3 e4 h4 f4 e5 h5 f5
  cases b2 with
  | false =>
    go_wp2_with fail
    refine (awake15 _).mono ?_
    rintro e w9 ⟨rfl, hb⟩
    have HZ := Aside0.mk (below_step (below_step HA.out H2w.out) hb)
    clear hb
    go_wp2_with fail
    rw [HT.out]
    exact ⟨rfl, HZ.out⟩
  | true =>
  have e0 : w2.cell? ⟨w.heap.size, 0, none⟩ = some (.int .i64 a0_0) := blk_cell (blk_below G0.out H2w.out) 0
  have e1 : w2.cell? ⟨w.heap.size, 1, none⟩ = some (.int .i64 a0_1) := blk_cell (blk_below G0.out H2w.out) 1
  have e2 : w2.cell? ⟨w.heap.size, 2, none⟩ = some (.slice A0_2 l0_2.length c0_2) := blk_cell (blk_below G0.out H2w.out) 2
  have e3 : w2.cell? ⟨w.heap.size, 3, none⟩ = some (.float .f64 a0_3) := blk_cell (blk_below G0.out H2w.out) 3
  have e4 : w2.cell? ⟨w.heap.size, 4, none⟩ = some (.float .f64 a0_4) := blk_cell (blk_below G0.out H2w.out) 4
  have e5 : w2.cell? ⟨w.heap.size, 5, none⟩ = some (.slice A0_5 l0_5.length c0_5) := blk_cell (blk_below G0.out H2w.out) 5
  have h0 : w2.cell? ⟨w.heap.size + 1, 0, none⟩ = some (.int .i64 b0_0) := blk_cell (blk_below G1.out H2w.out) 0
  have h1 : w2.cell? ⟨w.heap.size + 1, 1, none⟩ = some (.int .i64 b0_1) := blk_cell (blk_below G1.out H2w.out) 1
  have h2 : w2.cell? ⟨w.heap.size + 1, 2, none⟩ = some (.slice B0_2 m0_2.length d0_2) := blk_cell (blk_below G1.out H2w.out) 2
  have h3 : w2.cell? ⟨w.heap.size + 1, 3, none⟩ = some (.float .f64 b0_3) := blk_cell (blk_below G1.out H2w.out) 3
  have h4 : w2.cell? ⟨w.heap.size + 1, 4, none⟩ = some (.float .f64 b0_4) := blk_cell (blk_below G1.out H2w.out) 4
  have h5 : w2.cell? ⟨w.heap.size + 1, 5, none⟩ = some (.slice B0_5 m0_5.length d0_5) := blk_cell (blk_below G1.out H2w.out) 5
  have f0 : w2.cell? ⟨w.heap.size + 1 + 1, 0, none⟩ = some (.int .i64 a1_0) := blk_cell (blk_below G2.out H2w.out) 0
  have f1 : w2.cell? ⟨w.heap.size + 1 + 1, 1, none⟩ = some (.int .i64 a1_1) := blk_cell (blk_below G2.out H2w.out) 1
  have f2 : w2.cell? ⟨w.heap.size + 1 + 1, 2, none⟩ = some (.int .i64 a1_2) := blk_cell (blk_below G2.out H2w.out) 2
  have f3 : w2.cell? ⟨w.heap.size + 1 + 1, 3, none⟩ = some (.slice A1_3 l1_3.length c1_3) := blk_cell (blk_below G2.out H2w.out) 3
  have f4 : w2.cell? ⟨w.heap.size + 1 + 1, 4, none⟩ = some (.slice A1_4 l1_4.length c1_4) := blk_cell (blk_below G2.out H2w.out) 4
  have f5 : w2.cell? ⟨w.heap.size + 1 + 1, 5, none⟩ = some (.slice A1_5 l1_5.length c1_5) := blk_cell (blk_below G2.out H2w.out) 5
  have SB := Aside0.mk (Q2.out (by trivial))
  obtain ⟨k3, b3, hb3, q3⟩ := right_told ⟨a0_0, a0_1, l0_2, a0_3, a0_4, l0_5⟩ HGE.out SA.out
  have HB3 := Aside0.mk hb3
  have Q3 := Aside0.mk q3
  clear hb3 q3 Q2 HB2
  go_wp2_with fail
  refine (gatewardenref11_Right.calls k3 a0_0 a0_1 A0_2 c0_2 l0_2 a0_3 a0_4 A0_5 c0_5 l0_5 b3 w2 (Kd.C_below HE2.out (below_step HA.out H2w.out)) H2.out (Kd.C_below HE5.out (below_step HA.out H2w.out)) H5.out HB3.out).mono ?_
  rintro e w3 ⟨rfl, hb⟩
  have H3w := Aside0.mk (below_step H2w.out hb)
  clear hb
  clear e0 h0 f0 e1 h1 f1 e2 h2 f2 e3 h3 f3 e4 h4 f4 e5 h5 f5
  cases b3 with
  | false =>
    go_wp2_with fail
    refine (awake15 _).mono ?_
    rintro e w9 ⟨rfl, hb⟩
    have HZ := Aside0.mk (below_step (below_step HA.out H3w.out) hb)
    clear hb
    go_wp2_with fail
    rw [HT.out]
    exact ⟨rfl, HZ.out⟩
  | true =>
  have e0 : w3.cell? ⟨w.heap.size, 0, none⟩ = some (.int .i64 a0_0) := blk_cell (blk_below G0.out H3w.out) 0
  have e1 : w3.cell? ⟨w.heap.size, 1, none⟩ = some (.int .i64 a0_1) := blk_cell (blk_below G0.out H3w.out) 1
  have e2 : w3.cell? ⟨w.heap.size, 2, none⟩ = some (.slice A0_2 l0_2.length c0_2) := blk_cell (blk_below G0.out H3w.out) 2
  have e3 : w3.cell? ⟨w.heap.size, 3, none⟩ = some (.float .f64 a0_3) := blk_cell (blk_below G0.out H3w.out) 3
  have e4 : w3.cell? ⟨w.heap.size, 4, none⟩ = some (.float .f64 a0_4) := blk_cell (blk_below G0.out H3w.out) 4
  have e5 : w3.cell? ⟨w.heap.size, 5, none⟩ = some (.slice A0_5 l0_5.length c0_5) := blk_cell (blk_below G0.out H3w.out) 5
  have h0 : w3.cell? ⟨w.heap.size + 1, 0, none⟩ = some (.int .i64 b0_0) := blk_cell (blk_below G1.out H3w.out) 0
  have h1 : w3.cell? ⟨w.heap.size + 1, 1, none⟩ = some (.int .i64 b0_1) := blk_cell (blk_below G1.out H3w.out) 1
  have h2 : w3.cell? ⟨w.heap.size + 1, 2, none⟩ = some (.slice B0_2 m0_2.length d0_2) := blk_cell (blk_below G1.out H3w.out) 2
  have h3 : w3.cell? ⟨w.heap.size + 1, 3, none⟩ = some (.float .f64 b0_3) := blk_cell (blk_below G1.out H3w.out) 3
  have h4 : w3.cell? ⟨w.heap.size + 1, 4, none⟩ = some (.float .f64 b0_4) := blk_cell (blk_below G1.out H3w.out) 4
  have h5 : w3.cell? ⟨w.heap.size + 1, 5, none⟩ = some (.slice B0_5 m0_5.length d0_5) := blk_cell (blk_below G1.out H3w.out) 5
  have f0 : w3.cell? ⟨w.heap.size + 1 + 1, 0, none⟩ = some (.int .i64 a1_0) := blk_cell (blk_below G2.out H3w.out) 0
  have f1 : w3.cell? ⟨w.heap.size + 1 + 1, 1, none⟩ = some (.int .i64 a1_1) := blk_cell (blk_below G2.out H3w.out) 1
  have f2 : w3.cell? ⟨w.heap.size + 1 + 1, 2, none⟩ = some (.int .i64 a1_2) := blk_cell (blk_below G2.out H3w.out) 2
  have f3 : w3.cell? ⟨w.heap.size + 1 + 1, 3, none⟩ = some (.slice A1_3 l1_3.length c1_3) := blk_cell (blk_below G2.out H3w.out) 3
  have f4 : w3.cell? ⟨w.heap.size + 1 + 1, 4, none⟩ = some (.slice A1_4 l1_4.length c1_4) := blk_cell (blk_below G2.out H3w.out) 4
  have f5 : w3.cell? ⟨w.heap.size + 1 + 1, 5, none⟩ = some (.slice A1_5 l1_5.length c1_5) := blk_cell (blk_below G2.out H3w.out) 5
  have RTA := Aside0.mk (Q3.out (by trivial))
  obtain ⟨k4, b4, hb4, q4⟩ := right_told ⟨b0_0, b0_1, m0_2, b0_3, b0_4, m0_5⟩ HGB.out SB.out
  have HB4 := Aside0.mk hb4
  have Q4 := Aside0.mk q4
  clear hb4 q4 Q3 HB3
  go_wp2_with fail
  refine (gatewardenref11_Right.calls k4 b0_0 b0_1 B0_2 d0_2 m0_2 b0_3 b0_4 B0_5 d0_5 m0_5 b4 w3 (Kd.C_below KE2.out (below_step HA.out H3w.out)) K2.out (Kd.C_below KE5.out (below_step HA.out H3w.out)) K5.out HB4.out).mono ?_
  rintro e w4 ⟨rfl, hb⟩
  have H4w := Aside0.mk (below_step H3w.out hb)
  clear hb
  clear e0 h0 f0 e1 h1 f1 e2 h2 f2 e3 h3 f3 e4 h4 f4 e5 h5 f5
  cases b4 with
  | false =>
    go_wp2_with fail
    refine (awake15 _).mono ?_
    rintro e w9 ⟨rfl, hb⟩
    have HZ := Aside0.mk (below_step (below_step HA.out H4w.out) hb)
    clear hb
    go_wp2_with fail
    rw [HT.out]
    exact ⟨rfl, HZ.out⟩
  | true =>
  have e0 : w4.cell? ⟨w.heap.size, 0, none⟩ = some (.int .i64 a0_0) := blk_cell (blk_below G0.out H4w.out) 0
  have e1 : w4.cell? ⟨w.heap.size, 1, none⟩ = some (.int .i64 a0_1) := blk_cell (blk_below G0.out H4w.out) 1
  have e2 : w4.cell? ⟨w.heap.size, 2, none⟩ = some (.slice A0_2 l0_2.length c0_2) := blk_cell (blk_below G0.out H4w.out) 2
  have e3 : w4.cell? ⟨w.heap.size, 3, none⟩ = some (.float .f64 a0_3) := blk_cell (blk_below G0.out H4w.out) 3
  have e4 : w4.cell? ⟨w.heap.size, 4, none⟩ = some (.float .f64 a0_4) := blk_cell (blk_below G0.out H4w.out) 4
  have e5 : w4.cell? ⟨w.heap.size, 5, none⟩ = some (.slice A0_5 l0_5.length c0_5) := blk_cell (blk_below G0.out H4w.out) 5
  have h0 : w4.cell? ⟨w.heap.size + 1, 0, none⟩ = some (.int .i64 b0_0) := blk_cell (blk_below G1.out H4w.out) 0
  have h1 : w4.cell? ⟨w.heap.size + 1, 1, none⟩ = some (.int .i64 b0_1) := blk_cell (blk_below G1.out H4w.out) 1
  have h2 : w4.cell? ⟨w.heap.size + 1, 2, none⟩ = some (.slice B0_2 m0_2.length d0_2) := blk_cell (blk_below G1.out H4w.out) 2
  have h3 : w4.cell? ⟨w.heap.size + 1, 3, none⟩ = some (.float .f64 b0_3) := blk_cell (blk_below G1.out H4w.out) 3
  have h4 : w4.cell? ⟨w.heap.size + 1, 4, none⟩ = some (.float .f64 b0_4) := blk_cell (blk_below G1.out H4w.out) 4
  have h5 : w4.cell? ⟨w.heap.size + 1, 5, none⟩ = some (.slice B0_5 m0_5.length d0_5) := blk_cell (blk_below G1.out H4w.out) 5
  have f0 : w4.cell? ⟨w.heap.size + 1 + 1, 0, none⟩ = some (.int .i64 a1_0) := blk_cell (blk_below G2.out H4w.out) 0
  have f1 : w4.cell? ⟨w.heap.size + 1 + 1, 1, none⟩ = some (.int .i64 a1_1) := blk_cell (blk_below G2.out H4w.out) 1
  have f2 : w4.cell? ⟨w.heap.size + 1 + 1, 2, none⟩ = some (.int .i64 a1_2) := blk_cell (blk_below G2.out H4w.out) 2
  have f3 : w4.cell? ⟨w.heap.size + 1 + 1, 3, none⟩ = some (.slice A1_3 l1_3.length c1_3) := blk_cell (blk_below G2.out H4w.out) 3
  have f4 : w4.cell? ⟨w.heap.size + 1 + 1, 4, none⟩ = some (.slice A1_4 l1_4.length c1_4) := blk_cell (blk_below G2.out H4w.out) 4
  have f5 : w4.cell? ⟨w.heap.size + 1 + 1, 5, none⟩ = some (.slice A1_5 l1_5.length c1_5) := blk_cell (blk_below G2.out H4w.out) 5
  have RTB := Aside0.mk (Q4.out (by trivial))
  clear Q4 HB4
  by_cases za : a0_0 = 0
  · have zad : (a0_0 == 0) = true := beq_iff_eq.2 za
    go_wp2_with fail
    refine (awake15 _).mono ?_
    rintro e w9 ⟨rfl, hb⟩
    have HZ := Aside0.mk (below_step (below_step HA.out H4w.out) hb)
    clear hb
    go_wp2_with fail
    rw [HT.out]
    exact ⟨rfl, HZ.out⟩
  have zad : (a0_0 == 0) = false := beq_eq_false_iff_ne.2 za
  by_cases zb : b0_0 = 0
  · have zbd : (b0_0 == 0) = true := beq_iff_eq.2 zb
    go_wp2_with fail
    refine (awake15 _).mono ?_
    rintro e w9 ⟨rfl, hb⟩
    have HZ := Aside0.mk (below_step (below_step HA.out H4w.out) hb)
    clear hb
    go_wp2_with fail
    rw [HT.out]
    exact ⟨rfl, HZ.out⟩
  have zbd : (b0_0 == 0) = false := beq_eq_false_iff_ne.2 zb
  obtain ⟨b5, hb5, q5⟩ := few_eq a1_0 a1_1 a1_2 l1_3 l1_4 l1_5
  have HB5 := Aside0.mk hb5
  have Q5 := Aside0.mk q5
  clear hb5 q5
  go_wp2_with fail
  refine (gatewardenlaw15_few.calls a1_0 a1_1 a1_2 A1_3 c1_3 l1_3 A1_4 c1_4 l1_4 A1_5 c1_5 l1_5 b5 w4 (HF.out.on (below_step HA.out H4w.out)).r3 HF.out.h3 (HF.out.on (below_step HA.out H4w.out)).r4 HF.out.h4 (HF.out.on (below_step HA.out H4w.out)).r5 HF.out.h5 HB5.out).mono ?_
  rintro e w5 ⟨rfl, hb⟩
  have H5w := Aside0.mk (below_step H4w.out hb)
  clear hb
  clear e0 h0 f0 e1 h1 f1 e2 h2 f2 e3 h3 f3 e4 h4 f4 e5 h5 f5
  cases b5 with
  | false =>
    go_wp2_with fail
    refine (awake15 _).mono ?_
    rintro e w9 ⟨rfl, hb⟩
    have HZ := Aside0.mk (below_step (below_step HA.out H5w.out) hb)
    clear hb
    go_wp2_with fail
    rw [HT.out]
    exact ⟨rfl, HZ.out⟩
  | true =>
  have e0 : w5.cell? ⟨w.heap.size, 0, none⟩ = some (.int .i64 a0_0) := blk_cell (blk_below G0.out H5w.out) 0
  have e1 : w5.cell? ⟨w.heap.size, 1, none⟩ = some (.int .i64 a0_1) := blk_cell (blk_below G0.out H5w.out) 1
  have e2 : w5.cell? ⟨w.heap.size, 2, none⟩ = some (.slice A0_2 l0_2.length c0_2) := blk_cell (blk_below G0.out H5w.out) 2
  have e3 : w5.cell? ⟨w.heap.size, 3, none⟩ = some (.float .f64 a0_3) := blk_cell (blk_below G0.out H5w.out) 3
  have e4 : w5.cell? ⟨w.heap.size, 4, none⟩ = some (.float .f64 a0_4) := blk_cell (blk_below G0.out H5w.out) 4
  have e5 : w5.cell? ⟨w.heap.size, 5, none⟩ = some (.slice A0_5 l0_5.length c0_5) := blk_cell (blk_below G0.out H5w.out) 5
  have h0 : w5.cell? ⟨w.heap.size + 1, 0, none⟩ = some (.int .i64 b0_0) := blk_cell (blk_below G1.out H5w.out) 0
  have h1 : w5.cell? ⟨w.heap.size + 1, 1, none⟩ = some (.int .i64 b0_1) := blk_cell (blk_below G1.out H5w.out) 1
  have h2 : w5.cell? ⟨w.heap.size + 1, 2, none⟩ = some (.slice B0_2 m0_2.length d0_2) := blk_cell (blk_below G1.out H5w.out) 2
  have h3 : w5.cell? ⟨w.heap.size + 1, 3, none⟩ = some (.float .f64 b0_3) := blk_cell (blk_below G1.out H5w.out) 3
  have h4 : w5.cell? ⟨w.heap.size + 1, 4, none⟩ = some (.float .f64 b0_4) := blk_cell (blk_below G1.out H5w.out) 4
  have h5 : w5.cell? ⟨w.heap.size + 1, 5, none⟩ = some (.slice B0_5 m0_5.length d0_5) := blk_cell (blk_below G1.out H5w.out) 5
  have f0 : w5.cell? ⟨w.heap.size + 1 + 1, 0, none⟩ = some (.int .i64 a1_0) := blk_cell (blk_below G2.out H5w.out) 0
  have f1 : w5.cell? ⟨w.heap.size + 1 + 1, 1, none⟩ = some (.int .i64 a1_1) := blk_cell (blk_below G2.out H5w.out) 1
  have f2 : w5.cell? ⟨w.heap.size + 1 + 1, 2, none⟩ = some (.int .i64 a1_2) := blk_cell (blk_below G2.out H5w.out) 2
  have f3 : w5.cell? ⟨w.heap.size + 1 + 1, 3, none⟩ = some (.slice A1_3 l1_3.length c1_3) := blk_cell (blk_below G2.out H5w.out) 3
  have f4 : w5.cell? ⟨w.heap.size + 1 + 1, 4, none⟩ = some (.slice A1_4 l1_4.length c1_4) := blk_cell (blk_below G2.out H5w.out) 4
  have f5 : w5.cell? ⟨w.heap.size + 1 + 1, 5, none⟩ = some (.slice A1_5 l1_5.length c1_5) := blk_cell (blk_below G2.out H5w.out) 5
  have FF := Aside0.mk (Q5.out (by trivial))
  have TA := Aside0.mk (val_told (told_right (c := a1_0) (u := a1_1) (f := a1_2) FF.out ⟨a0_0, a0_1, l0_2, a0_3, a0_4, l0_5⟩ SA.out RTA.out))
  have TB := Aside0.mk (val_told (told_right (c := a1_0) (u := a1_1) (f := a1_2) FF.out ⟨b0_0, b0_1, m0_2, b0_3, b0_4, m0_5⟩ SB.out RTB.out))
  clear Q5 HB5 zad zbd za zb
  have t0 := blk_lt (blk_below G0.out H5w.out)
  have t1 := blk_lt (blk_below G1.out H5w.out)
  have t2 := blk_lt (blk_below G2.out H5w.out)
  go_upto_region 3 with (fail)
  refine reg_start [0, 3, 1, 2, 4, 5, 6, 7, 8, 9] 10 (fun w' => Below w5.heap.size w5 w') (by kernel_rfl) rfl (below_drew1 (Below.refl _ _)) (fun hHeld => ?_)
  generalize w5.drew = V1 at hHeld ⊢
  repeat (first | (refine reg_pure (v := ?_) (a' := ?_) rfl rfl rfl (by kernel_rfl) (fun _ _ _ h => h) (by rfl) ?_ ?_ ?_; rotate_left; (solve | (intro w'; go_simp; with_reducible rfl)); rotate_left; (solve | (simp only [Act.put, List.setIfInBounds_toArray, List.set_cons_zero, List.set_cons_succ, i64_w, i32_w]; rfl))) | (refine reg_skip (a' := ?_) rfl rfl rfl (by rfl) (by kernel_rfl) (fun _ _ _ h => h) ?_ ?_; rotate_left; (solve | (simp only [Act.put, List.setIfInBounds_toArray, List.set_cons_zero, List.set_cons_succ, i64_w, i32_w]; rfl))) | (refine reg_load (v := ?_) (a' := ?_) rfl rfl rfl (by kernel_rfl) (fun _ _ _ h => h) (by rfl) ?_ hHeld ?_ ?_; rotate_left; (solve | (intro w' hb'; obtain ⟨hc', hf'⟩ := bcellA hb'; clear hb'; go_simp; with_reducible rfl)); rotate_left; (solve | (simp only [Act.put, List.setIfInBounds_toArray, List.set_cons_zero, List.set_cons_succ, i64_w, i32_w]; rfl)); intro hHeld))
  refine reg_lits2 1 4 2 5 6 7 8 9 48 51 49 52 7 8 1 26 (#[.int .i64 a0_0, .int .i64 a0_1, .slice A0_2 l0_2.length c0_2, .float .f64 a0_3, .float .f64 a0_4, .slice A0_5 l0_5.length c0_5]) (#[.int .i64 b0_0, .int .i64 b0_1, .slice B0_2 m0_2.length d0_2, .float .f64 b0_3, .float .f64 b0_4, .slice B0_5 m0_5.length d0_5]) (#[.int .i64 0, .int .i64 0, .slice none 0 0, .float .f64 0, .float .f64 0, .slice none 0 0]) (fun g => .agg #[.int .i64 2, .int .i64 0, .slice none 0 0, .float .f64 0, .float .f64 0, .slice (some ⟨g, 0, none⟩) 1 1]) (fun g => .agg #[.int .i64 2, .int .i64 0, .slice none 0 0, .float .f64 0, .float .f64 0, .slice (some ⟨g, 0, none⟩) 1 1]) (fun g => [.int .i64 2, .int .i64 0, .slice none 0 0, .float .f64 0, .float .f64 0, .slice (some ⟨g, 0, none⟩) 1 1]) (fun g => [.int .i64 2, .int .i64 0, .slice none 0 0, .float .f64 0, .float .f64 0, .slice (some ⟨g, 0, none⟩) 1 1]) w5 ⟨by decide, by decide⟩ (by kernel_rfl) (by kernel_rfl) (of_decide_eq_true (by kernel_rfl)) (by kernel_rfl) (by kernel_rfl) (by kernel_rfl) (by kernel_rfl)
    rfl rfl rfl rfl rfl rfl rfl rfl rfl rfl rfl rfl rfl rfl rfl rfl rfl rfl rfl rfl rfl rfl rfl rfl
    (fun W a' ha => by
      have h47_ : a'.eval (.tmp 47) = .agg #[.int .i64 a0_0, .int .i64 a0_1, .slice A0_2 l0_2.length c0_2, .float .f64 a0_3, .float .f64 a0_4, .slice A0_5 l0_5.length c0_5] := (ha (.tmp 47) (by simp)).trans rfl
      have i47_ : (a'.tmps[47]?).getD undef = .agg #[.int .i64 a0_0, .int .i64 a0_1, .slice A0_2 l0_2.length c0_2, .float .f64 a0_3, .float .f64 a0_4, .slice A0_5 l0_5.length c0_5] := by rw [← Array.getD_eq_getD_getElem?]; exact h47_
      go_simp)
    (fun W a' ha => by
      have h50_ : a'.eval (.tmp 50) = .agg #[.int .i64 b0_0, .int .i64 b0_1, .slice B0_2 m0_2.length d0_2, .float .f64 b0_3, .float .f64 b0_4, .slice B0_5 m0_5.length d0_5] := (ha (.tmp 50) (by simp)).trans rfl
      have i50_ : (a'.tmps[50]?).getD undef = .agg #[.int .i64 b0_0, .int .i64 b0_1, .slice B0_2 m0_2.length d0_2, .float .f64 b0_3, .float .f64 b0_4, .slice B0_5 m0_5.length d0_5] := by rw [← Array.getD_eq_getD_getElem?]; exact h50_
      go_simp)
    (fun W a' g h_ => by
      have i_ : (a'.tmps[48]?).getD undef = .slice (some ⟨g, 0, none⟩) 1 1 := by rw [← Array.getD_eq_getD_getElem?]; exact h_
      go_simp)
    (fun W a' g h_ => by
      have i_ : (a'.tmps[51]?).getD undef = .slice (some ⟨g, 0, none⟩) 1 1 := by rw [← Array.getD_eq_getD_getElem?]; exact h_
      go_simp)
    (fun W a' => by go_simp)
    (fun W a' => by go_simp)
    (fun W a' g gx hx_ hb_ hz_ => by
      have ix_ : (a'.tmps[7]?).getD undef = .pointer (some ⟨gx, 0, none⟩) := by rw [← Array.getD_eq_getD_getElem?]; exact hx_
      have ib_ : (a'.tmps[49]?).getD undef = .agg #[.int .i64 2, .int .i64 0, .slice none 0 0, .float .f64 0, .float .f64 0, .slice (some ⟨g, 0, none⟩) 1 1] := by rw [← Array.getD_eq_getD_getElem?]; exact hb_
      have z0 : W.cell? ⟨gx, 0, none⟩ = some (.int .i64 0) := blk_cell hz_ 0
      have z1 : W.cell? ⟨gx, 1, none⟩ = some (.int .i64 0) := blk_cell hz_ 1
      have z2 : W.cell? ⟨gx, 2, none⟩ = some (.slice none 0 0) := blk_cell hz_ 2
      have z3 : W.cell? ⟨gx, 3, none⟩ = some (.float .f64 0) := blk_cell hz_ 3
      have z4 : W.cell? ⟨gx, 4, none⟩ = some (.float .f64 0) := blk_cell hz_ 4
      have z5 : W.cell? ⟨gx, 5, none⟩ = some (.slice none 0 0) := blk_cell hz_ 5
      have zf := blk_frozen hz_
      clear hx_ hb_ hz_
      simp only [setL]
      go_simp)
    (fun W a' g gx hx_ hb_ hz_ => by
      have ix_ : (a'.tmps[8]?).getD undef = .pointer (some ⟨gx, 0, none⟩) := by rw [← Array.getD_eq_getD_getElem?]; exact hx_
      have ib_ : (a'.tmps[52]?).getD undef = .agg #[.int .i64 2, .int .i64 0, .slice none 0 0, .float .f64 0, .float .f64 0, .slice (some ⟨g, 0, none⟩) 1 1] := by rw [← Array.getD_eq_getD_getElem?]; exact hb_
      have z0 : W.cell? ⟨gx, 0, none⟩ = some (.int .i64 0) := blk_cell hz_ 0
      have z1 : W.cell? ⟨gx, 1, none⟩ = some (.int .i64 0) := blk_cell hz_ 1
      have z2 : W.cell? ⟨gx, 2, none⟩ = some (.slice none 0 0) := blk_cell hz_ 2
      have z3 : W.cell? ⟨gx, 3, none⟩ = some (.float .f64 0) := blk_cell hz_ 3
      have z4 : W.cell? ⟨gx, 4, none⟩ = some (.float .f64 0) := blk_cell hz_ 4
      have z5 : W.cell? ⟨gx, 5, none⟩ = some (.slice none 0 0) := blk_cell hz_ 5
      have zf := blk_frozen hz_
      clear hx_ hb_ hz_
      simp only [setL]
      go_simp)
    (fun g => ⟨rfl, rfl⟩) (fun _ h => h) hHeld ?_
  intro g1 x1 g2 x2 w6 hb _ _ _ _ kg1 kg2 kx1 kx2 a' ha'
  simp only [Act.put, List.setIfInBounds_toArray, List.set_cons_zero, List.set_cons_succ, i64_w, i32_w] at ha'
  subst ha'
  have Mg1 := Aside0.mk kg1
  have Mx1 := Aside0.mk kx1
  have Mg2 := Aside0.mk kg2
  have Mx2 := Aside0.mk kx2
  clear kg1 kg2 kx1 kx2 hHeld
  try clear t0 t1 t2
  try clear y0 y1 y2 y3 y4 y5 z0 z1 z2 z3 z4 z5 u1 u2
  clear e0 h0 f0 e1 h1 f1 e2 h2 f2 e3 h3 f3 e4 h4 f4 e5 h5 f5
  have H6 := Aside0.mk (below_step H5w.out hb)
  have N6 := Aside0.mk hb
  clear hb
  have e0 : w6.cell? ⟨w.heap.size, 0, none⟩ = some (.int .i64 a0_0) := blk_cell (blk_below G0.out H6.out) 0
  have e1 : w6.cell? ⟨w.heap.size, 1, none⟩ = some (.int .i64 a0_1) := blk_cell (blk_below G0.out H6.out) 1
  have e2 : w6.cell? ⟨w.heap.size, 2, none⟩ = some (.slice A0_2 l0_2.length c0_2) := blk_cell (blk_below G0.out H6.out) 2
  have e3 : w6.cell? ⟨w.heap.size, 3, none⟩ = some (.float .f64 a0_3) := blk_cell (blk_below G0.out H6.out) 3
  have e4 : w6.cell? ⟨w.heap.size, 4, none⟩ = some (.float .f64 a0_4) := blk_cell (blk_below G0.out H6.out) 4
  have e5 : w6.cell? ⟨w.heap.size, 5, none⟩ = some (.slice A0_5 l0_5.length c0_5) := blk_cell (blk_below G0.out H6.out) 5
  have h0 : w6.cell? ⟨w.heap.size + 1, 0, none⟩ = some (.int .i64 b0_0) := blk_cell (blk_below G1.out H6.out) 0
  have h1 : w6.cell? ⟨w.heap.size + 1, 1, none⟩ = some (.int .i64 b0_1) := blk_cell (blk_below G1.out H6.out) 1
  have h2 : w6.cell? ⟨w.heap.size + 1, 2, none⟩ = some (.slice B0_2 m0_2.length d0_2) := blk_cell (blk_below G1.out H6.out) 2
  have h3 : w6.cell? ⟨w.heap.size + 1, 3, none⟩ = some (.float .f64 b0_3) := blk_cell (blk_below G1.out H6.out) 3
  have h4 : w6.cell? ⟨w.heap.size + 1, 4, none⟩ = some (.float .f64 b0_4) := blk_cell (blk_below G1.out H6.out) 4
  have h5 : w6.cell? ⟨w.heap.size + 1, 5, none⟩ = some (.slice B0_5 m0_5.length d0_5) := blk_cell (blk_below G1.out H6.out) 5
  have f0 : w6.cell? ⟨w.heap.size + 1 + 1, 0, none⟩ = some (.int .i64 a1_0) := blk_cell (blk_below G2.out H6.out) 0
  have f1 : w6.cell? ⟨w.heap.size + 1 + 1, 1, none⟩ = some (.int .i64 a1_1) := blk_cell (blk_below G2.out H6.out) 1
  have f2 : w6.cell? ⟨w.heap.size + 1 + 1, 2, none⟩ = some (.int .i64 a1_2) := blk_cell (blk_below G2.out H6.out) 2
  have f3 : w6.cell? ⟨w.heap.size + 1 + 1, 3, none⟩ = some (.slice A1_3 l1_3.length c1_3) := blk_cell (blk_below G2.out H6.out) 3
  have f4 : w6.cell? ⟨w.heap.size + 1 + 1, 4, none⟩ = some (.slice A1_4 l1_4.length c1_4) := blk_cell (blk_below G2.out H6.out) 4
  have f5 : w6.cell? ⟨w.heap.size + 1 + 1, 5, none⟩ = some (.slice A1_5 l1_5.length c1_5) := blk_cell (blk_below G2.out H6.out) 5
  have t0 := blk_lt (blk_below G0.out H6.out)
  have t1 := blk_lt (blk_below G1.out H6.out)
  have t2 := blk_lt (blk_below G2.out H6.out)
  go_upto_region 4 with (fail)
  refine reg_start [0, 1, 4, 5, 2, 3, 6, 7, 8, 9, 10, 11] 12 (fun w' => Below w6.heap.size w6 w') (by kernel_rfl) rfl (below_drew1 (Below.refl _ _)) (fun hHeld => ?_)
  generalize w6.drew = V1 at hHeld ⊢
  repeat (first | (refine reg_pure (v := ?_) (a' := ?_) rfl rfl rfl (by kernel_rfl) (fun _ _ _ h => h) (by rfl) ?_ ?_ ?_; rotate_left; (solve | (intro w'; go_simp; with_reducible rfl)); rotate_left; (solve | (simp only [Act.put, List.setIfInBounds_toArray, List.set_cons_zero, List.set_cons_succ, i64_w, i32_w]; rfl))) | (refine reg_skip (a' := ?_) rfl rfl rfl (by rfl) (by kernel_rfl) (fun _ _ _ h => h) ?_ ?_; rotate_left; (solve | (simp only [Act.put, List.setIfInBounds_toArray, List.set_cons_zero, List.set_cons_succ, i64_w, i32_w]; rfl))) | (refine reg_load (v := ?_) (a' := ?_) rfl rfl rfl (by kernel_rfl) (fun _ _ _ h => h) (by rfl) ?_ hHeld ?_ ?_; rotate_left; (solve | (intro w' hb'; obtain ⟨hc', hf'⟩ := bcellA hb'; clear hb'; go_simp; with_reducible rfl)); rotate_left; (solve | (simp only [Act.put, List.setIfInBounds_toArray, List.set_cons_zero, List.set_cons_succ, i64_w, i32_w]; rfl)); intro hHeld))
  refine reg_lits2 2 6 3 7 8 9 10 11 55 59 56 60 9 10 2 26 (#[.int .i64 a0_0, .int .i64 a0_1, .slice A0_2 l0_2.length c0_2, .float .f64 a0_3, .float .f64 a0_4, .slice A0_5 l0_5.length c0_5, .int .i64 b0_0, .int .i64 b0_1, .slice B0_2 m0_2.length d0_2, .float .f64 b0_3, .float .f64 b0_4, .slice B0_5 m0_5.length d0_5]) (#[.int .i64 a0_0, .int .i64 a0_1, .slice A0_2 l0_2.length c0_2, .float .f64 a0_3, .float .f64 a0_4, .slice A0_5 l0_5.length c0_5, .int .i64 b0_0, .int .i64 b0_1, .slice B0_2 m0_2.length d0_2, .float .f64 b0_3, .float .f64 b0_4, .slice B0_5 m0_5.length d0_5]) (#[.int .i64 0, .int .i64 0, .slice none 0 0, .float .f64 0, .float .f64 0, .slice none 0 0]) (fun g => .agg #[.int .i64 3, .int .i64 0, .slice none 0 0, .float .f64 0, .float .f64 0, .slice (some ⟨g, 0, none⟩) 2 2]) (fun g => .agg #[.int .i64 4, .int .i64 0, .slice none 0 0, .float .f64 0, .float .f64 0, .slice (some ⟨g, 0, none⟩) 2 2]) (fun g => [.int .i64 3, .int .i64 0, .slice none 0 0, .float .f64 0, .float .f64 0, .slice (some ⟨g, 0, none⟩) 2 2]) (fun g => [.int .i64 4, .int .i64 0, .slice none 0 0, .float .f64 0, .float .f64 0, .slice (some ⟨g, 0, none⟩) 2 2]) w6 ⟨by decide, by decide⟩ (by kernel_rfl) (by kernel_rfl) (of_decide_eq_true (by kernel_rfl)) (by kernel_rfl) (by kernel_rfl) (by kernel_rfl) (by kernel_rfl)
    rfl rfl rfl rfl rfl rfl rfl rfl rfl rfl rfl rfl rfl rfl rfl rfl rfl rfl rfl rfl rfl rfl rfl rfl
    (fun W a' ha => by
      have h53_ : a'.eval (.tmp 53) = .agg #[.int .i64 a0_0, .int .i64 a0_1, .slice A0_2 l0_2.length c0_2, .float .f64 a0_3, .float .f64 a0_4, .slice A0_5 l0_5.length c0_5] := (ha (.tmp 53) (by simp)).trans rfl
      have i53_ : (a'.tmps[53]?).getD undef = .agg #[.int .i64 a0_0, .int .i64 a0_1, .slice A0_2 l0_2.length c0_2, .float .f64 a0_3, .float .f64 a0_4, .slice A0_5 l0_5.length c0_5] := by rw [← Array.getD_eq_getD_getElem?]; exact h53_
      have h54_ : a'.eval (.tmp 54) = .agg #[.int .i64 b0_0, .int .i64 b0_1, .slice B0_2 m0_2.length d0_2, .float .f64 b0_3, .float .f64 b0_4, .slice B0_5 m0_5.length d0_5] := (ha (.tmp 54) (by simp)).trans rfl
      have i54_ : (a'.tmps[54]?).getD undef = .agg #[.int .i64 b0_0, .int .i64 b0_1, .slice B0_2 m0_2.length d0_2, .float .f64 b0_3, .float .f64 b0_4, .slice B0_5 m0_5.length d0_5] := by rw [← Array.getD_eq_getD_getElem?]; exact h54_
      go_simp)
    (fun W a' ha => by
      have h57_ : a'.eval (.tmp 57) = .agg #[.int .i64 a0_0, .int .i64 a0_1, .slice A0_2 l0_2.length c0_2, .float .f64 a0_3, .float .f64 a0_4, .slice A0_5 l0_5.length c0_5] := (ha (.tmp 57) (by simp)).trans rfl
      have i57_ : (a'.tmps[57]?).getD undef = .agg #[.int .i64 a0_0, .int .i64 a0_1, .slice A0_2 l0_2.length c0_2, .float .f64 a0_3, .float .f64 a0_4, .slice A0_5 l0_5.length c0_5] := by rw [← Array.getD_eq_getD_getElem?]; exact h57_
      have h58_ : a'.eval (.tmp 58) = .agg #[.int .i64 b0_0, .int .i64 b0_1, .slice B0_2 m0_2.length d0_2, .float .f64 b0_3, .float .f64 b0_4, .slice B0_5 m0_5.length d0_5] := (ha (.tmp 58) (by simp)).trans rfl
      have i58_ : (a'.tmps[58]?).getD undef = .agg #[.int .i64 b0_0, .int .i64 b0_1, .slice B0_2 m0_2.length d0_2, .float .f64 b0_3, .float .f64 b0_4, .slice B0_5 m0_5.length d0_5] := by rw [← Array.getD_eq_getD_getElem?]; exact h58_
      go_simp)
    (fun W a' g h_ => by
      have i_ : (a'.tmps[55]?).getD undef = .slice (some ⟨g, 0, none⟩) 2 2 := by rw [← Array.getD_eq_getD_getElem?]; exact h_
      go_simp)
    (fun W a' g h_ => by
      have i_ : (a'.tmps[59]?).getD undef = .slice (some ⟨g, 0, none⟩) 2 2 := by rw [← Array.getD_eq_getD_getElem?]; exact h_
      go_simp)
    (fun W a' => by go_simp)
    (fun W a' => by go_simp)
    (fun W a' g gx hx_ hb_ hz_ => by
      have ix_ : (a'.tmps[9]?).getD undef = .pointer (some ⟨gx, 0, none⟩) := by rw [← Array.getD_eq_getD_getElem?]; exact hx_
      have ib_ : (a'.tmps[56]?).getD undef = .agg #[.int .i64 3, .int .i64 0, .slice none 0 0, .float .f64 0, .float .f64 0, .slice (some ⟨g, 0, none⟩) 2 2] := by rw [← Array.getD_eq_getD_getElem?]; exact hb_
      have z0 : W.cell? ⟨gx, 0, none⟩ = some (.int .i64 0) := blk_cell hz_ 0
      have z1 : W.cell? ⟨gx, 1, none⟩ = some (.int .i64 0) := blk_cell hz_ 1
      have z2 : W.cell? ⟨gx, 2, none⟩ = some (.slice none 0 0) := blk_cell hz_ 2
      have z3 : W.cell? ⟨gx, 3, none⟩ = some (.float .f64 0) := blk_cell hz_ 3
      have z4 : W.cell? ⟨gx, 4, none⟩ = some (.float .f64 0) := blk_cell hz_ 4
      have z5 : W.cell? ⟨gx, 5, none⟩ = some (.slice none 0 0) := blk_cell hz_ 5
      have zf := blk_frozen hz_
      clear hx_ hb_ hz_
      simp only [setL]
      go_simp)
    (fun W a' g gx hx_ hb_ hz_ => by
      have ix_ : (a'.tmps[10]?).getD undef = .pointer (some ⟨gx, 0, none⟩) := by rw [← Array.getD_eq_getD_getElem?]; exact hx_
      have ib_ : (a'.tmps[60]?).getD undef = .agg #[.int .i64 4, .int .i64 0, .slice none 0 0, .float .f64 0, .float .f64 0, .slice (some ⟨g, 0, none⟩) 2 2] := by rw [← Array.getD_eq_getD_getElem?]; exact hb_
      have z0 : W.cell? ⟨gx, 0, none⟩ = some (.int .i64 0) := blk_cell hz_ 0
      have z1 : W.cell? ⟨gx, 1, none⟩ = some (.int .i64 0) := blk_cell hz_ 1
      have z2 : W.cell? ⟨gx, 2, none⟩ = some (.slice none 0 0) := blk_cell hz_ 2
      have z3 : W.cell? ⟨gx, 3, none⟩ = some (.float .f64 0) := blk_cell hz_ 3
      have z4 : W.cell? ⟨gx, 4, none⟩ = some (.float .f64 0) := blk_cell hz_ 4
      have z5 : W.cell? ⟨gx, 5, none⟩ = some (.slice none 0 0) := blk_cell hz_ 5
      have zf := blk_frozen hz_
      clear hx_ hb_ hz_
      simp only [setL]
      go_simp)
    (fun g => ⟨rfl, rfl⟩) (fun _ h => h) hHeld ?_
  intro g3 x3 g4 x4 w7 hb _ _ _ _ kg1 kg2 kx1 kx2 a' ha'
  simp only [Act.put, List.setIfInBounds_toArray, List.set_cons_zero, List.set_cons_succ, i64_w, i32_w] at ha'
  subst ha'
  have Mg3 := Aside0.mk kg1
  have Mx3 := Aside0.mk kx1
  have Mg4 := Aside0.mk kg2
  have Mx4 := Aside0.mk kx2
  clear kg1 kg2 kx1 kx2 hHeld
  try clear t0 t1 t2
  try clear y0 y1 y2 y3 y4 y5 z0 z1 z2 z3 z4 z5 u1 u2
  clear e0 h0 f0 e1 h1 f1 e2 h2 f2 e3 h3 f3 e4 h4 f4 e5 h5 f5
  have H7 := Aside0.mk (below_step H6.out hb)
  have N7 := Aside0.mk hb
  clear hb
  have Mg1 := Aside0.mk (blk_below Mg1.out N7.out)
  have Mx1 := Aside0.mk (blk_below Mx1.out N7.out)
  have Mg2 := Aside0.mk (blk_below Mg2.out N7.out)
  have Mx2 := Aside0.mk (blk_below Mx2.out N7.out)
  have e0 : w7.cell? ⟨w.heap.size, 0, none⟩ = some (.int .i64 a0_0) := blk_cell (blk_below G0.out H7.out) 0
  have e1 : w7.cell? ⟨w.heap.size, 1, none⟩ = some (.int .i64 a0_1) := blk_cell (blk_below G0.out H7.out) 1
  have e2 : w7.cell? ⟨w.heap.size, 2, none⟩ = some (.slice A0_2 l0_2.length c0_2) := blk_cell (blk_below G0.out H7.out) 2
  have e3 : w7.cell? ⟨w.heap.size, 3, none⟩ = some (.float .f64 a0_3) := blk_cell (blk_below G0.out H7.out) 3
  have e4 : w7.cell? ⟨w.heap.size, 4, none⟩ = some (.float .f64 a0_4) := blk_cell (blk_below G0.out H7.out) 4
  have e5 : w7.cell? ⟨w.heap.size, 5, none⟩ = some (.slice A0_5 l0_5.length c0_5) := blk_cell (blk_below G0.out H7.out) 5
  have h0 : w7.cell? ⟨w.heap.size + 1, 0, none⟩ = some (.int .i64 b0_0) := blk_cell (blk_below G1.out H7.out) 0
  have h1 : w7.cell? ⟨w.heap.size + 1, 1, none⟩ = some (.int .i64 b0_1) := blk_cell (blk_below G1.out H7.out) 1
  have h2 : w7.cell? ⟨w.heap.size + 1, 2, none⟩ = some (.slice B0_2 m0_2.length d0_2) := blk_cell (blk_below G1.out H7.out) 2
  have h3 : w7.cell? ⟨w.heap.size + 1, 3, none⟩ = some (.float .f64 b0_3) := blk_cell (blk_below G1.out H7.out) 3
  have h4 : w7.cell? ⟨w.heap.size + 1, 4, none⟩ = some (.float .f64 b0_4) := blk_cell (blk_below G1.out H7.out) 4
  have h5 : w7.cell? ⟨w.heap.size + 1, 5, none⟩ = some (.slice B0_5 m0_5.length d0_5) := blk_cell (blk_below G1.out H7.out) 5
  have f0 : w7.cell? ⟨w.heap.size + 1 + 1, 0, none⟩ = some (.int .i64 a1_0) := blk_cell (blk_below G2.out H7.out) 0
  have f1 : w7.cell? ⟨w.heap.size + 1 + 1, 1, none⟩ = some (.int .i64 a1_1) := blk_cell (blk_below G2.out H7.out) 1
  have f2 : w7.cell? ⟨w.heap.size + 1 + 1, 2, none⟩ = some (.int .i64 a1_2) := blk_cell (blk_below G2.out H7.out) 2
  have f3 : w7.cell? ⟨w.heap.size + 1 + 1, 3, none⟩ = some (.slice A1_3 l1_3.length c1_3) := blk_cell (blk_below G2.out H7.out) 3
  have f4 : w7.cell? ⟨w.heap.size + 1 + 1, 4, none⟩ = some (.slice A1_4 l1_4.length c1_4) := blk_cell (blk_below G2.out H7.out) 4
  have f5 : w7.cell? ⟨w.heap.size + 1 + 1, 5, none⟩ = some (.slice A1_5 l1_5.length c1_5) := blk_cell (blk_below G2.out H7.out) 5
  have t0 := blk_lt (blk_below G0.out H7.out)
  have t1 := blk_lt (blk_below G1.out H7.out)
  have t2 := blk_lt (blk_below G2.out H7.out)
  have y0 : w7.cell? ⟨x1, 0, none⟩ = some (.int .i64 2) := blk_cell Mx1.out 0
  have y1 : w7.cell? ⟨x1, 1, none⟩ = some (.int .i64 0) := blk_cell Mx1.out 1
  have y2 : w7.cell? ⟨x1, 2, none⟩ = some (.slice none 0 0) := blk_cell Mx1.out 2
  have y3 : w7.cell? ⟨x1, 3, none⟩ = some (.float .f64 0) := blk_cell Mx1.out 3
  have y4 : w7.cell? ⟨x1, 4, none⟩ = some (.float .f64 0) := blk_cell Mx1.out 4
  have y5 : w7.cell? ⟨x1, 5, none⟩ = some (.slice (some ⟨g1, 0, none⟩) 1 1) := blk_cell Mx1.out 5
  have z0 : w7.cell? ⟨x2, 0, none⟩ = some (.int .i64 2) := blk_cell Mx2.out 0
  have z1 : w7.cell? ⟨x2, 1, none⟩ = some (.int .i64 0) := blk_cell Mx2.out 1
  have z2 : w7.cell? ⟨x2, 2, none⟩ = some (.slice none 0 0) := blk_cell Mx2.out 2
  have z3 : w7.cell? ⟨x2, 3, none⟩ = some (.float .f64 0) := blk_cell Mx2.out 3
  have z4 : w7.cell? ⟨x2, 4, none⟩ = some (.float .f64 0) := blk_cell Mx2.out 4
  have z5 : w7.cell? ⟨x2, 5, none⟩ = some (.slice (some ⟨g2, 0, none⟩) 1 1) := blk_cell Mx2.out 5
  have u1 := blk_lt Mx1.out
  have u2 := blk_lt Mx2.out
  go_upto_region 5 with (fail)
  refine reg_start [0, 1, 4, 5, 2, 3, 6, 7, 8, 9, 10, 11] 12 (fun w' => Below w7.heap.size w7 w') (by kernel_rfl) rfl (below_drew1 (Below.refl _ _)) (fun hHeld => ?_)
  generalize w7.drew = V1 at hHeld ⊢
  repeat (first | (refine reg_pure (v := ?_) (a' := ?_) rfl rfl rfl (by kernel_rfl) (fun _ _ _ h => h) (by rfl) ?_ ?_ ?_; rotate_left; (solve | (intro w'; go_simp; with_reducible rfl)); rotate_left; (solve | (simp only [Act.put, List.setIfInBounds_toArray, List.set_cons_zero, List.set_cons_succ, i64_w, i32_w]; rfl))) | (refine reg_skip (a' := ?_) rfl rfl rfl (by rfl) (by kernel_rfl) (fun _ _ _ h => h) ?_ ?_; rotate_left; (solve | (simp only [Act.put, List.setIfInBounds_toArray, List.set_cons_zero, List.set_cons_succ, i64_w, i32_w]; rfl))) | (refine reg_load (v := ?_) (a' := ?_) rfl rfl rfl (by kernel_rfl) (fun _ _ _ h => h) (by rfl) ?_ hHeld ?_ ?_; rotate_left; (solve | (intro w' hb'; obtain ⟨hc', hf'⟩ := bcellA hb'; clear hb'; go_simp; with_reducible rfl)); rotate_left; (solve | (simp only [Act.put, List.setIfInBounds_toArray, List.set_cons_zero, List.set_cons_succ, i64_w, i32_w]; rfl)); intro hHeld))
  refine reg_lits2 2 6 3 7 8 9 10 11 63 67 64 68 11 12 2 26 (#[.int .i64 2, .int .i64 0, .slice none 0 0, .float .f64 0, .float .f64 0, .slice (some ⟨g1, 0, none⟩) 1 1, .int .i64 2, .int .i64 0, .slice none 0 0, .float .f64 0, .float .f64 0, .slice (some ⟨g2, 0, none⟩) 1 1]) (#[.int .i64 2, .int .i64 0, .slice none 0 0, .float .f64 0, .float .f64 0, .slice (some ⟨g1, 0, none⟩) 1 1, .int .i64 2, .int .i64 0, .slice none 0 0, .float .f64 0, .float .f64 0, .slice (some ⟨g2, 0, none⟩) 1 1]) (#[.int .i64 0, .int .i64 0, .slice none 0 0, .float .f64 0, .float .f64 0, .slice none 0 0]) (fun g => .agg #[.int .i64 3, .int .i64 0, .slice none 0 0, .float .f64 0, .float .f64 0, .slice (some ⟨g, 0, none⟩) 2 2]) (fun g => .agg #[.int .i64 4, .int .i64 0, .slice none 0 0, .float .f64 0, .float .f64 0, .slice (some ⟨g, 0, none⟩) 2 2]) (fun g => [.int .i64 3, .int .i64 0, .slice none 0 0, .float .f64 0, .float .f64 0, .slice (some ⟨g, 0, none⟩) 2 2]) (fun g => [.int .i64 4, .int .i64 0, .slice none 0 0, .float .f64 0, .float .f64 0, .slice (some ⟨g, 0, none⟩) 2 2]) w7 ⟨by decide, by decide⟩ (by kernel_rfl) (by kernel_rfl) (of_decide_eq_true (by kernel_rfl)) (by kernel_rfl) (by kernel_rfl) (by kernel_rfl) (by kernel_rfl)
    rfl rfl rfl rfl rfl rfl rfl rfl rfl rfl rfl rfl rfl rfl rfl rfl rfl rfl rfl rfl rfl rfl rfl rfl
    (fun W a' ha => by
      have h61_ : a'.eval (.tmp 61) = .agg #[.int .i64 2, .int .i64 0, .slice none 0 0, .float .f64 0, .float .f64 0, .slice (some ⟨g1, 0, none⟩) 1 1] := (ha (.tmp 61) (by simp)).trans rfl
      have i61_ : (a'.tmps[61]?).getD undef = .agg #[.int .i64 2, .int .i64 0, .slice none 0 0, .float .f64 0, .float .f64 0, .slice (some ⟨g1, 0, none⟩) 1 1] := by rw [← Array.getD_eq_getD_getElem?]; exact h61_
      have h62_ : a'.eval (.tmp 62) = .agg #[.int .i64 2, .int .i64 0, .slice none 0 0, .float .f64 0, .float .f64 0, .slice (some ⟨g2, 0, none⟩) 1 1] := (ha (.tmp 62) (by simp)).trans rfl
      have i62_ : (a'.tmps[62]?).getD undef = .agg #[.int .i64 2, .int .i64 0, .slice none 0 0, .float .f64 0, .float .f64 0, .slice (some ⟨g2, 0, none⟩) 1 1] := by rw [← Array.getD_eq_getD_getElem?]; exact h62_
      go_simp)
    (fun W a' ha => by
      have h65_ : a'.eval (.tmp 65) = .agg #[.int .i64 2, .int .i64 0, .slice none 0 0, .float .f64 0, .float .f64 0, .slice (some ⟨g1, 0, none⟩) 1 1] := (ha (.tmp 65) (by simp)).trans rfl
      have i65_ : (a'.tmps[65]?).getD undef = .agg #[.int .i64 2, .int .i64 0, .slice none 0 0, .float .f64 0, .float .f64 0, .slice (some ⟨g1, 0, none⟩) 1 1] := by rw [← Array.getD_eq_getD_getElem?]; exact h65_
      have h66_ : a'.eval (.tmp 66) = .agg #[.int .i64 2, .int .i64 0, .slice none 0 0, .float .f64 0, .float .f64 0, .slice (some ⟨g2, 0, none⟩) 1 1] := (ha (.tmp 66) (by simp)).trans rfl
      have i66_ : (a'.tmps[66]?).getD undef = .agg #[.int .i64 2, .int .i64 0, .slice none 0 0, .float .f64 0, .float .f64 0, .slice (some ⟨g2, 0, none⟩) 1 1] := by rw [← Array.getD_eq_getD_getElem?]; exact h66_
      go_simp)
    (fun W a' g h_ => by
      have i_ : (a'.tmps[63]?).getD undef = .slice (some ⟨g, 0, none⟩) 2 2 := by rw [← Array.getD_eq_getD_getElem?]; exact h_
      go_simp)
    (fun W a' g h_ => by
      have i_ : (a'.tmps[67]?).getD undef = .slice (some ⟨g, 0, none⟩) 2 2 := by rw [← Array.getD_eq_getD_getElem?]; exact h_
      go_simp)
    (fun W a' => by go_simp)
    (fun W a' => by go_simp)
    (fun W a' g gx hx_ hb_ hz_ => by
      have ix_ : (a'.tmps[11]?).getD undef = .pointer (some ⟨gx, 0, none⟩) := by rw [← Array.getD_eq_getD_getElem?]; exact hx_
      have ib_ : (a'.tmps[64]?).getD undef = .agg #[.int .i64 3, .int .i64 0, .slice none 0 0, .float .f64 0, .float .f64 0, .slice (some ⟨g, 0, none⟩) 2 2] := by rw [← Array.getD_eq_getD_getElem?]; exact hb_
      have z0 : W.cell? ⟨gx, 0, none⟩ = some (.int .i64 0) := blk_cell hz_ 0
      have z1 : W.cell? ⟨gx, 1, none⟩ = some (.int .i64 0) := blk_cell hz_ 1
      have z2 : W.cell? ⟨gx, 2, none⟩ = some (.slice none 0 0) := blk_cell hz_ 2
      have z3 : W.cell? ⟨gx, 3, none⟩ = some (.float .f64 0) := blk_cell hz_ 3
      have z4 : W.cell? ⟨gx, 4, none⟩ = some (.float .f64 0) := blk_cell hz_ 4
      have z5 : W.cell? ⟨gx, 5, none⟩ = some (.slice none 0 0) := blk_cell hz_ 5
      have zf := blk_frozen hz_
      clear hx_ hb_ hz_
      simp only [setL]
      go_simp)
    (fun W a' g gx hx_ hb_ hz_ => by
      have ix_ : (a'.tmps[12]?).getD undef = .pointer (some ⟨gx, 0, none⟩) := by rw [← Array.getD_eq_getD_getElem?]; exact hx_
      have ib_ : (a'.tmps[68]?).getD undef = .agg #[.int .i64 4, .int .i64 0, .slice none 0 0, .float .f64 0, .float .f64 0, .slice (some ⟨g, 0, none⟩) 2 2] := by rw [← Array.getD_eq_getD_getElem?]; exact hb_
      have z0 : W.cell? ⟨gx, 0, none⟩ = some (.int .i64 0) := blk_cell hz_ 0
      have z1 : W.cell? ⟨gx, 1, none⟩ = some (.int .i64 0) := blk_cell hz_ 1
      have z2 : W.cell? ⟨gx, 2, none⟩ = some (.slice none 0 0) := blk_cell hz_ 2
      have z3 : W.cell? ⟨gx, 3, none⟩ = some (.float .f64 0) := blk_cell hz_ 3
      have z4 : W.cell? ⟨gx, 4, none⟩ = some (.float .f64 0) := blk_cell hz_ 4
      have z5 : W.cell? ⟨gx, 5, none⟩ = some (.slice none 0 0) := blk_cell hz_ 5
      have zf := blk_frozen hz_
      clear hx_ hb_ hz_
      simp only [setL]
      go_simp)
    (fun g => ⟨rfl, rfl⟩) (fun _ h => h) hHeld ?_
  intro g5 x5 g6 x6 w8 hb _ _ _ _ kg1 kg2 kx1 kx2 a' ha'
  simp only [Act.put, List.setIfInBounds_toArray, List.set_cons_zero, List.set_cons_succ, i64_w, i32_w] at ha'
  subst ha'
  have Mg5 := Aside0.mk kg1
  have Mx5 := Aside0.mk kx1
  have Mg6 := Aside0.mk kg2
  have Mx6 := Aside0.mk kx2
  clear kg1 kg2 kx1 kx2 hHeld
  try clear t0 t1 t2
  try clear y0 y1 y2 y3 y4 y5 z0 z1 z2 z3 z4 z5 u1 u2
  clear e0 h0 f0 e1 h1 f1 e2 h2 f2 e3 h3 f3 e4 h4 f4 e5 h5 f5
  have H8 := Aside0.mk (below_step H7.out hb)
  have N8 := Aside0.mk hb
  clear hb
  have Mg1 := Aside0.mk (blk_below Mg1.out N8.out)
  have Mx1 := Aside0.mk (blk_below Mx1.out N8.out)
  have Mg2 := Aside0.mk (blk_below Mg2.out N8.out)
  have Mx2 := Aside0.mk (blk_below Mx2.out N8.out)
  have Mg3 := Aside0.mk (blk_below Mg3.out N8.out)
  have Mx3 := Aside0.mk (blk_below Mx3.out N8.out)
  have Mg4 := Aside0.mk (blk_below Mg4.out N8.out)
  have Mx4 := Aside0.mk (blk_below Mx4.out N8.out)
  have e0 : w8.cell? ⟨w.heap.size, 0, none⟩ = some (.int .i64 a0_0) := blk_cell (blk_below G0.out H8.out) 0
  have e1 : w8.cell? ⟨w.heap.size, 1, none⟩ = some (.int .i64 a0_1) := blk_cell (blk_below G0.out H8.out) 1
  have e2 : w8.cell? ⟨w.heap.size, 2, none⟩ = some (.slice A0_2 l0_2.length c0_2) := blk_cell (blk_below G0.out H8.out) 2
  have e3 : w8.cell? ⟨w.heap.size, 3, none⟩ = some (.float .f64 a0_3) := blk_cell (blk_below G0.out H8.out) 3
  have e4 : w8.cell? ⟨w.heap.size, 4, none⟩ = some (.float .f64 a0_4) := blk_cell (blk_below G0.out H8.out) 4
  have e5 : w8.cell? ⟨w.heap.size, 5, none⟩ = some (.slice A0_5 l0_5.length c0_5) := blk_cell (blk_below G0.out H8.out) 5
  have h0 : w8.cell? ⟨w.heap.size + 1, 0, none⟩ = some (.int .i64 b0_0) := blk_cell (blk_below G1.out H8.out) 0
  have h1 : w8.cell? ⟨w.heap.size + 1, 1, none⟩ = some (.int .i64 b0_1) := blk_cell (blk_below G1.out H8.out) 1
  have h2 : w8.cell? ⟨w.heap.size + 1, 2, none⟩ = some (.slice B0_2 m0_2.length d0_2) := blk_cell (blk_below G1.out H8.out) 2
  have h3 : w8.cell? ⟨w.heap.size + 1, 3, none⟩ = some (.float .f64 b0_3) := blk_cell (blk_below G1.out H8.out) 3
  have h4 : w8.cell? ⟨w.heap.size + 1, 4, none⟩ = some (.float .f64 b0_4) := blk_cell (blk_below G1.out H8.out) 4
  have h5 : w8.cell? ⟨w.heap.size + 1, 5, none⟩ = some (.slice B0_5 m0_5.length d0_5) := blk_cell (blk_below G1.out H8.out) 5
  have f0 : w8.cell? ⟨w.heap.size + 1 + 1, 0, none⟩ = some (.int .i64 a1_0) := blk_cell (blk_below G2.out H8.out) 0
  have f1 : w8.cell? ⟨w.heap.size + 1 + 1, 1, none⟩ = some (.int .i64 a1_1) := blk_cell (blk_below G2.out H8.out) 1
  have f2 : w8.cell? ⟨w.heap.size + 1 + 1, 2, none⟩ = some (.int .i64 a1_2) := blk_cell (blk_below G2.out H8.out) 2
  have f3 : w8.cell? ⟨w.heap.size + 1 + 1, 3, none⟩ = some (.slice A1_3 l1_3.length c1_3) := blk_cell (blk_below G2.out H8.out) 3
  have f4 : w8.cell? ⟨w.heap.size + 1 + 1, 4, none⟩ = some (.slice A1_4 l1_4.length c1_4) := blk_cell (blk_below G2.out H8.out) 4
  have f5 : w8.cell? ⟨w.heap.size + 1 + 1, 5, none⟩ = some (.slice A1_5 l1_5.length c1_5) := blk_cell (blk_below G2.out H8.out) 5
  have t0 := blk_lt (blk_below G0.out H8.out)
  have t1 := blk_lt (blk_below G1.out H8.out)
  have t2 := blk_lt (blk_below G2.out H8.out)
  have y0 : w8.cell? ⟨x1, 0, none⟩ = some (.int .i64 2) := blk_cell Mx1.out 0
  have y1 : w8.cell? ⟨x1, 1, none⟩ = some (.int .i64 0) := blk_cell Mx1.out 1
  have y2 : w8.cell? ⟨x1, 2, none⟩ = some (.slice none 0 0) := blk_cell Mx1.out 2
  have y3 : w8.cell? ⟨x1, 3, none⟩ = some (.float .f64 0) := blk_cell Mx1.out 3
  have y4 : w8.cell? ⟨x1, 4, none⟩ = some (.float .f64 0) := blk_cell Mx1.out 4
  have y5 : w8.cell? ⟨x1, 5, none⟩ = some (.slice (some ⟨g1, 0, none⟩) 1 1) := blk_cell Mx1.out 5
  have z0 : w8.cell? ⟨x2, 0, none⟩ = some (.int .i64 2) := blk_cell Mx2.out 0
  have z1 : w8.cell? ⟨x2, 1, none⟩ = some (.int .i64 0) := blk_cell Mx2.out 1
  have z2 : w8.cell? ⟨x2, 2, none⟩ = some (.slice none 0 0) := blk_cell Mx2.out 2
  have z3 : w8.cell? ⟨x2, 3, none⟩ = some (.float .f64 0) := blk_cell Mx2.out 3
  have z4 : w8.cell? ⟨x2, 4, none⟩ = some (.float .f64 0) := blk_cell Mx2.out 4
  have z5 : w8.cell? ⟨x2, 5, none⟩ = some (.slice (some ⟨g2, 0, none⟩) 1 1) := blk_cell Mx2.out 5
  have u1 := blk_lt Mx1.out
  have u2 := blk_lt Mx2.out
  have C8V := Aside0.mk (fun V (h : Below w8.heap.size w8 V) => below_step (below_step HA.out H8.out) h)
  have KA := Aside0.mk (fun V (h : Below w.heap.size w V) => (show k26.K V ⟨a0_0, a0_1, l0_2, a0_3, a0_4, l0_5⟩ [.int .i64 a0_0, .int .i64 a0_1, .slice A0_2 l0_2.length c0_2, .float .f64 a0_3, .float .f64 a0_4, .slice A0_5 l0_5.length c0_5] from k26_mk V ⟨a0_0, a0_1, l0_2, a0_3, a0_4, l0_5⟩ H2.out (Kd.C_below HE2.out h) H5.out (Kd.C_below HE5.out h)))
  have KB := Aside0.mk (fun V (h : Below w.heap.size w V) => (show k26.K V ⟨b0_0, b0_1, m0_2, b0_3, b0_4, m0_5⟩ [.int .i64 b0_0, .int .i64 b0_1, .slice B0_2 m0_2.length d0_2, .float .f64 b0_3, .float .f64 b0_4, .slice B0_5 m0_5.length d0_5] from k26_mk V ⟨b0_0, b0_1, m0_2, b0_3, b0_4, m0_5⟩ K2.out (Kd.C_below KE2.out h) K5.out (Kd.C_below KE5.out h)))
  have R1 := Aside0.mk (fun V (h : Below w8.heap.size w8 V) => rowN1 (blk_below Mg1.out h) (KA.out V (C8V.out V h)))
  have R2 := Aside0.mk (fun V (h : Below w8.heap.size w8 V) => rowN1 (blk_below Mg2.out h) (KB.out V (C8V.out V h)))
  have R3 := Aside0.mk (fun V (h : Below w8.heap.size w8 V) => rowN2 (cs := [.int .i64 a0_0, .int .i64 a0_1, .slice A0_2 l0_2.length c0_2, .float .f64 a0_3, .float .f64 a0_4, .slice A0_5 l0_5.length c0_5]) (ds := [.int .i64 b0_0, .int .i64 b0_1, .slice B0_2 m0_2.length d0_2, .float .f64 b0_3, .float .f64 b0_4, .slice B0_5 m0_5.length d0_5]) (blk_below Mg3.out h) (KA.out V (C8V.out V h)) (KB.out V (C8V.out V h)))
  have R4 := Aside0.mk (fun V (h : Below w8.heap.size w8 V) => rowN2 (cs := [.int .i64 a0_0, .int .i64 a0_1, .slice A0_2 l0_2.length c0_2, .float .f64 a0_3, .float .f64 a0_4, .slice A0_5 l0_5.length c0_5]) (ds := [.int .i64 b0_0, .int .i64 b0_1, .slice B0_2 m0_2.length d0_2, .float .f64 b0_3, .float .f64 b0_4, .slice B0_5 m0_5.length d0_5]) (blk_below Mg4.out h) (KA.out V (C8V.out V h)) (KB.out V (C8V.out V h)))
  have KX := Aside0.mk (fun V (h : Below w8.heap.size w8 V) => (show k26.K V (⟨2, 0, [], 0, 0, [⟨a0_0, a0_1, l0_2, a0_3, a0_4, l0_5⟩]⟩ : S26) [.int .i64 2, .int .i64 0, .slice none 0 0, .float .f64 0, .float .f64 0, .slice (some ⟨g1, 0, none⟩) 1 1] from k26_mk V (⟨2, 0, [], 0, 0, [⟨a0_0, a0_1, l0_2, a0_3, a0_4, l0_5⟩]⟩ : S26) (Nat.le_refl _) (Kd.C_nil _ _) (Nat.le_refl _) (R1.out V h)))
  have KY := Aside0.mk (fun V (h : Below w8.heap.size w8 V) => (show k26.K V (⟨2, 0, [], 0, 0, [⟨b0_0, b0_1, m0_2, b0_3, b0_4, m0_5⟩]⟩ : S26) [.int .i64 2, .int .i64 0, .slice none 0 0, .float .f64 0, .float .f64 0, .slice (some ⟨g2, 0, none⟩) 1 1] from k26_mk V (⟨2, 0, [], 0, 0, [⟨b0_0, b0_1, m0_2, b0_3, b0_4, m0_5⟩]⟩ : S26) (Nat.le_refl _) (Kd.C_nil _ _) (Nat.le_refl _) (R2.out V h)))
  have R5 := Aside0.mk (fun V (h : Below w8.heap.size w8 V) => rowN2 (cs := [.int .i64 2, .int .i64 0, .slice none 0 0, .float .f64 0, .float .f64 0, .slice (some ⟨g1, 0, none⟩) 1 1]) (ds := [.int .i64 2, .int .i64 0, .slice none 0 0, .float .f64 0, .float .f64 0, .slice (some ⟨g2, 0, none⟩) 1 1]) (blk_below Mg5.out h) (KX.out V h) (KY.out V h))
  have R6 := Aside0.mk (fun V (h : Below w8.heap.size w8 V) => rowN2 (cs := [.int .i64 2, .int .i64 0, .slice none 0 0, .float .f64 0, .float .f64 0, .slice (some ⟨g1, 0, none⟩) 1 1]) (ds := [.int .i64 2, .int .i64 0, .slice none 0 0, .float .f64 0, .float .f64 0, .slice (some ⟨g2, 0, none⟩) 1 1]) (blk_below Mg6.out h) (KX.out V h) (KY.out V h))
  have BA := Aside0.mk (fun V (h : Below w8.heap.size w8 V) => blk_below (blk_below G0.out H8.out) h)
  have BB := Aside0.mk (fun V (h : Below w8.heap.size w8 V) => blk_below (blk_below G1.out H8.out) h)
  have BF := Aside0.mk (fun V (h : Below w8.heap.size w8 V) => blk_below (blk_below G2.out H8.out) h)
  have BX := Aside0.mk (fun V (h : Below w8.heap.size w8 V) => blk_below Mx1.out h)
  have B3 := Aside0.mk (fun V (h : Below w8.heap.size w8 V) => blk_below Mx3.out h)
  have B4 := Aside0.mk (fun V (h : Below w8.heap.size w8 V) => blk_below Mx4.out h)
  have B5 := Aside0.mk (fun V (h : Below w8.heap.size w8 V) => blk_below Mx5.out h)
  have B6 := Aside0.mk (fun V (h : Below w8.heap.size w8 V) => blk_below Mx6.out h)
  clear e0 h0 f0 y0 z0 e1 h1 f1 y1 z1 e2 h2 f2 y2 z2 e3 h3 f3 y3 z3 e4 h4 f4 y4 z4 e5 h5 f5 y5 z5 t0 t1 t2 u1 u2
  have TX := told_not (x := ⟨2, 0, [], 0, 0, [⟨a0_0, a0_1, l0_2, a0_3, a0_4, l0_5⟩]⟩) rfl rfl TA.out
  have TY := told_not (x := ⟨2, 0, [], 0, 0, [⟨b0_0, b0_1, m0_2, b0_3, b0_4, m0_5⟩]⟩) rfl rfl TB.out
  have TNN := told_not (x := ⟨2, 0, [], 0, 0, [⟨2, 0, [], 0, 0, [⟨a0_0, a0_1, l0_2, a0_3, a0_4, l0_5⟩]⟩]⟩) rfl rfl TX
  have TAND := told_and2 TA.out TB.out
  have TOR := told_or2 TA.out TB.out
  have TNAND := told_and2 TX TY
  have TNOR := told_or2 TX TY
  have TA0 := TA.out
  have TB0 := TB.out
  clear TA TB TY
  generalize val a1_0 a1_1 a1_2 l1_3 l1_4 l1_5 ⟨a0_0, a0_1, l0_2, a0_3, a0_4, l0_5⟩ = ba at TX TNN TAND TOR TNAND TNOR TA0
  generalize val a1_0 a1_1 a1_2 l1_3 l1_4 l1_5 ⟨b0_0, b0_1, m0_2, b0_3, b0_4, m0_5⟩ = bb at TAND TOR TNAND TNOR TB0
  obtain ⟨qa, TA⟩ := TA0
  obtain ⟨qb, TB⟩ := TB0
  obtain ⟨qx, TX⟩ := TX
  obtain ⟨qn, TNN⟩ := TNN
  obtain ⟨q3, TAND⟩ := TAND
  obtain ⟨q4, TOR⟩ := TOR
  obtain ⟨q5, TNAND⟩ := TNAND
  obtain ⟨q6, TNOR⟩ := TNOR
  have HTA := Aside0.mk TA
  have HTB := Aside0.mk TB
  have HTX := Aside0.mk TX
  have HTN := Aside0.mk TNN
  have HT3 := Aside0.mk TAND
  have HT4 := Aside0.mk TOR
  have HT5 := Aside0.mk TNAND
  have HT6 := Aside0.mk TNOR
  clear TA TB TX TNN TAND TOR TNAND TNOR
  replace HTN := Aside0.mk (show hP qn a1_0 a1_1 a1_2 l1_3 l1_4 l1_5 ⟨2, 0, [], 0, 0, [⟨2, 0, [], 0, 0, [⟨a0_0, a0_1, l0_2, a0_3, a0_4, l0_5⟩]⟩]⟩ = some ba from by rw [HTN.out, Bool.not_not])
  have w1_ : (!ba == !ba) = true := by cases ba <;> rfl
  have w2_ : (ba == ba) = true := beq_self_eq_true _
  have w3_ : ((ba && bb) == !(!ba || !bb)) = true := by cases ba <;> cases bb <;> rfl
  have w4_ : ((ba || bb) == !(!ba && !bb)) = true := by cases ba <;> cases bb <;> rfl
  have w5_ : ((ba && bb) == (ba && bb)) = true := beq_self_eq_true _
  have w6_ : ((ba || bb) == (ba || bb)) = true := beq_self_eq_true _
  go_upto_region 6 with (fail)
  refine reg_start [0, 1, 2, 3, 5, 6, 4, 7, 8, 9, 10, 11, 12, 15, 17, 18, 13, 14, 16, 19, 20, 21, 22, 23, 24, 26, 27, 25, 28, 29, 30, 31, 32, 33, 34, 36, 37, 35, 38, 39, 40, 41, 42, 43, 44, 46, 47, 45, 48, 49, 50, 51, 52, 53, 54, 55, 56] 57 (fun w' => Below w8.heap.size w8 w') (by kernel_rfl) rfl (below_drew1 (Below.refl _ _)) (fun hHeld => ?_)
  generalize w8.drew = V1 at hHeld ⊢
  repeat (first | (refine reg_load (v := ?_) (a' := ?_) rfl rfl rfl (by kernel_rfl) (fun _ _ _ h => h) (by rfl) ?_ hHeld ?_ ?_; rotate_left; (solve | (intro w' hb'; first | (rw [exec_ld30 ?hop ?hx (BF.out w' hb')]; (case hop => rfl); (case hx => rfl)) | (rw [exec_ld26 ?hop ?hx (BA.out w' hb')]; (case hop => rfl); (case hx => rfl)) | (rw [exec_ld26 ?hop ?hx (BX.out w' hb')]; (case hop => rfl); (case hx => rfl)) | (rw [exec_ld26 ?hop ?hx (B3.out w' hb')]; (case hop => rfl); (case hx => rfl)) | (rw [exec_ld26 ?hop ?hx (B4.out w' hb')]; (case hop => rfl); (case hx => rfl)) | (rw [exec_ld26 ?hop ?hx (B5.out w' hb')]; (case hop => rfl); (case hx => rfl)) | (rw [exec_ld26 ?hop ?hx (B6.out w' hb')]; (case hop => rfl); (case hx => rfl)) | (rw [exec_ld26 ?hop ?hx (BB.out w' hb')]; (case hop => rfl); (case hx => rfl)))); rotate_left; (solve | (simp only [Act.put, List.setIfInBounds_toArray, List.set_cons_zero, List.set_cons_succ, i64_w, i32_w]; rfl)); intro hHeld) | (refine reg_pure (v := ?_) (a' := ?_) rfl rfl rfl (by kernel_rfl) (fun _ _ _ h => h) (by rfl) ?_ ?_ ?_; rotate_left; (solve | (intro w'; go_simp; with_reducible rfl)); rotate_left; (solve | (simp only [Act.put, List.setIfInBounds_toArray, List.set_cons_zero, List.set_cons_succ, i64_w, i32_w]; rfl))) | (refine reg_skip (a' := ?_) rfl rfl rfl (by rfl) (by kernel_rfl) (fun _ _ _ h => h) ?_ ?_; rotate_left; (solve | (simp only [Act.put, List.setIfInBounds_toArray, List.set_cons_zero, List.set_cons_succ, i64_w, i32_w]; rfl))))
  refine reg_call rfl rfl rfl (by kernel_rfl) (by rfl) Try.func13 (by kernel_rfl) rfl #[] rfl (by (try simp only [List.map_toArray, List.map_cons, List.map_nil]); first | done | rfl) ?_
  refine (awake15 _).mono ?_
  rintro e w5 ⟨rfl, hb⟩
  refine ⟨_, rfl, below_step hHeld hb, fun hHeld => ?_⟩
  clear hb
  rintro a' ha'
  simp only [Act.put, List.setIfInBounds_toArray, List.set_cons_zero, List.set_cons_succ, i64_w, i32_w] at ha'
  subst ha'
  repeat (first | (refine reg_load (v := ?_) (a' := ?_) rfl rfl rfl (by kernel_rfl) (fun _ _ _ h => h) (by rfl) ?_ hHeld ?_ ?_; rotate_left; (solve | (intro w' hb'; first | (rw [exec_ld30 ?hop ?hx (BF.out w' hb')]; (case hop => rfl); (case hx => rfl)) | (rw [exec_ld26 ?hop ?hx (BA.out w' hb')]; (case hop => rfl); (case hx => rfl)) | (rw [exec_ld26 ?hop ?hx (BX.out w' hb')]; (case hop => rfl); (case hx => rfl)) | (rw [exec_ld26 ?hop ?hx (B3.out w' hb')]; (case hop => rfl); (case hx => rfl)) | (rw [exec_ld26 ?hop ?hx (B4.out w' hb')]; (case hop => rfl); (case hx => rfl)) | (rw [exec_ld26 ?hop ?hx (B5.out w' hb')]; (case hop => rfl); (case hx => rfl)) | (rw [exec_ld26 ?hop ?hx (B6.out w' hb')]; (case hop => rfl); (case hx => rfl)) | (rw [exec_ld26 ?hop ?hx (BB.out w' hb')]; (case hop => rfl); (case hx => rfl)))); rotate_left; (solve | (simp only [Act.put, List.setIfInBounds_toArray, List.set_cons_zero, List.set_cons_succ, i64_w, i32_w]; rfl)); intro hHeld) | (refine reg_pure (v := ?_) (a' := ?_) rfl rfl rfl (by kernel_rfl) (fun _ _ _ h => h) (by rfl) ?_ ?_ ?_; rotate_left; (solve | (intro w'; go_simp; with_reducible rfl)); rotate_left; (solve | (simp only [Act.put, List.setIfInBounds_toArray, List.set_cons_zero, List.set_cons_succ, i64_w, i32_w]; rfl))) | (refine reg_skip (a' := ?_) rfl rfl rfl (by rfl) (by kernel_rfl) (fun _ _ _ h => h) ?_ ?_; rotate_left; (solve | (simp only [Act.put, List.setIfInBounds_toArray, List.set_cons_zero, List.set_cons_succ, i64_w, i32_w]; rfl))))
  refine reg_call rfl rfl rfl (by kernel_rfl) (by rfl) Try.func14 (by kernel_rfl) rfl #[.agg #[.int .i64 2, .int .i64 0, .slice none 0 0, .float .f64 0, .float .f64 0, .slice (some ⟨g1, 0, none⟩) 1 1], .agg #[.int .i64 a1_0, .int .i64 a1_1, .int .i64 a1_2, .slice A1_3 l1_3.length c1_3, .slice A1_4 l1_4.length c1_4, .slice A1_5 l1_5.length c1_5]] rfl (by (try simp only [List.map_toArray, List.map_cons, List.map_nil]); first | done | rfl) ?_
  refine (holds_at qx 2 0 none 0 [] 0 0 (some ⟨g1, 0, none⟩) 1 [(⟨a0_0, a0_1, l0_2, a0_3, a0_4, l0_5⟩ : S26)] a1_0 a1_1 a1_2 A1_3 c1_3 l1_3 A1_4 c1_4 l1_4 A1_5 c1_5 l1_5 (!ba) _ (Kd.C_nil _ _) (Nat.le_refl _) (R1.out _ hHeld) (Nat.le_refl _) (HF.out.on (C8V.out _ hHeld)) HTX.out).mono ?_
  rintro e w5 ⟨rfl, hb⟩
  refine ⟨_, rfl, below_step hHeld hb, fun hHeld => ?_⟩
  clear hb
  rintro a' ha'
  simp only [Act.put, List.setIfInBounds_toArray, List.set_cons_zero, List.set_cons_succ, i64_w, i32_w] at ha'
  subst ha'
  repeat (first | (refine reg_load (v := ?_) (a' := ?_) rfl rfl rfl (by kernel_rfl) (fun _ _ _ h => h) (by rfl) ?_ hHeld ?_ ?_; rotate_left; (solve | (intro w' hb'; first | (rw [exec_ld30 ?hop ?hx (BF.out w' hb')]; (case hop => rfl); (case hx => rfl)) | (rw [exec_ld26 ?hop ?hx (BA.out w' hb')]; (case hop => rfl); (case hx => rfl)) | (rw [exec_ld26 ?hop ?hx (BX.out w' hb')]; (case hop => rfl); (case hx => rfl)) | (rw [exec_ld26 ?hop ?hx (B3.out w' hb')]; (case hop => rfl); (case hx => rfl)) | (rw [exec_ld26 ?hop ?hx (B4.out w' hb')]; (case hop => rfl); (case hx => rfl)) | (rw [exec_ld26 ?hop ?hx (B5.out w' hb')]; (case hop => rfl); (case hx => rfl)) | (rw [exec_ld26 ?hop ?hx (B6.out w' hb')]; (case hop => rfl); (case hx => rfl)) | (rw [exec_ld26 ?hop ?hx (BB.out w' hb')]; (case hop => rfl); (case hx => rfl)))); rotate_left; (solve | (simp only [Act.put, List.setIfInBounds_toArray, List.set_cons_zero, List.set_cons_succ, i64_w, i32_w]; rfl)); intro hHeld) | (refine reg_pure (v := ?_) (a' := ?_) rfl rfl rfl (by kernel_rfl) (fun _ _ _ h => h) (by rfl) ?_ ?_ ?_; rotate_left; (solve | (intro w'; go_simp; with_reducible rfl)); rotate_left; (solve | (simp only [Act.put, List.setIfInBounds_toArray, List.set_cons_zero, List.set_cons_succ, i64_w, i32_w]; rfl))) | (refine reg_skip (a' := ?_) rfl rfl rfl (by rfl) (by kernel_rfl) (fun _ _ _ h => h) ?_ ?_; rotate_left; (solve | (simp only [Act.put, List.setIfInBounds_toArray, List.set_cons_zero, List.set_cons_succ, i64_w, i32_w]; rfl))))
  refine reg_call rfl rfl rfl (by kernel_rfl) (by rfl) Try.func14 (by kernel_rfl) rfl #[.agg #[.int .i64 a0_0, .int .i64 a0_1, .slice A0_2 l0_2.length c0_2, .float .f64 a0_3, .float .f64 a0_4, .slice A0_5 l0_5.length c0_5], .agg #[.int .i64 a1_0, .int .i64 a1_1, .int .i64 a1_2, .slice A1_3 l1_3.length c1_3, .slice A1_4 l1_4.length c1_4, .slice A1_5 l1_5.length c1_5]] rfl (by (try simp only [List.map_toArray, List.map_cons, List.map_nil]); first | done | rfl) ?_
  refine (holds_at qa a0_0 a0_1 A0_2 c0_2 l0_2 a0_3 a0_4 A0_5 c0_5 l0_5 a1_0 a1_1 a1_2 A1_3 c1_3 l1_3 A1_4 c1_4 l1_4 A1_5 c1_5 l1_5 ba _ (Kd.C_below HE2.out (C8V.out _ hHeld)) H2.out (Kd.C_below HE5.out (C8V.out _ hHeld)) H5.out (HF.out.on (C8V.out _ hHeld)) HTA.out).mono ?_
  rintro e w5 ⟨rfl, hb⟩
  refine ⟨_, rfl, below_step hHeld hb, fun hHeld => ?_⟩
  clear hb
  rintro a' ha'
  simp only [Act.put, List.setIfInBounds_toArray, List.set_cons_zero, List.set_cons_succ, i64_w, i32_w] at ha'
  subst ha'
  repeat (first | (refine reg_load (v := ?_) (a' := ?_) rfl rfl rfl (by kernel_rfl) (fun _ _ _ h => h) (by rfl) ?_ hHeld ?_ ?_; rotate_left; (solve | (intro w' hb'; first | (rw [exec_ld30 ?hop ?hx (BF.out w' hb')]; (case hop => rfl); (case hx => rfl)) | (rw [exec_ld26 ?hop ?hx (BA.out w' hb')]; (case hop => rfl); (case hx => rfl)) | (rw [exec_ld26 ?hop ?hx (BX.out w' hb')]; (case hop => rfl); (case hx => rfl)) | (rw [exec_ld26 ?hop ?hx (B3.out w' hb')]; (case hop => rfl); (case hx => rfl)) | (rw [exec_ld26 ?hop ?hx (B4.out w' hb')]; (case hop => rfl); (case hx => rfl)) | (rw [exec_ld26 ?hop ?hx (B5.out w' hb')]; (case hop => rfl); (case hx => rfl)) | (rw [exec_ld26 ?hop ?hx (B6.out w' hb')]; (case hop => rfl); (case hx => rfl)) | (rw [exec_ld26 ?hop ?hx (BB.out w' hb')]; (case hop => rfl); (case hx => rfl)))); rotate_left; (solve | (simp only [Act.put, List.setIfInBounds_toArray, List.set_cons_zero, List.set_cons_succ, i64_w, i32_w]; rfl)); intro hHeld) | (refine reg_pure (v := ?_) (a' := ?_) rfl rfl rfl (by kernel_rfl) (fun _ _ _ h => h) (by rfl) ?_ ?_ ?_; rotate_left; (solve | (intro w'; go_simp; with_reducible rfl)); rotate_left; (solve | (simp only [Act.put, List.setIfInBounds_toArray, List.set_cons_zero, List.set_cons_succ, i64_w, i32_w]; rfl))) | (refine reg_skip (a' := ?_) rfl rfl rfl (by rfl) (by kernel_rfl) (fun _ _ _ h => h) ?_ ?_; rotate_left; (solve | (simp only [Act.put, List.setIfInBounds_toArray, List.set_cons_zero, List.set_cons_succ, i64_w, i32_w]; rfl))))
  refine reg_run (w1 := w5.alloc (.cells #[.int .i64 2, .int .i64 0, .slice none 0 0, .float .f64 0, .float .f64 0, .slice (some ⟨g1, 0, none⟩) 1 1] 26)) (v := .slice (some ⟨w5.heap.size, 0, none⟩) 1 1) rfl rfl rfl (by kernel_rfl) (by rfl) (by go_simp) (below_step hHeld (below_alloc (Below.refl _ _) _)) (fun hH2 => ?_)
  rintro a' ha'
  simp only [Act.put, List.setIfInBounds_toArray, List.set_cons_zero, List.set_cons_succ, i64_w, i32_w] at ha'
  subst ha'
  have MG := Aside0.mk (new_at w5 (.cells #[.int .i64 2, .int .i64 0, .slice none 0 0, .float .f64 0, .float .f64 0, .slice (some ⟨g1, 0, none⟩) 1 1] 26))
  obtain ⟨g7, hg7⟩ : ∃ g7, g7 = w5.heap.size := ⟨_, rfl⟩
  rw [← hg7] at MG ⊢
  clear hHeld hg7
  have hHeld := hH2
  clear hH2
  generalize w5.alloc (.cells #[.int .i64 2, .int .i64 0, .slice none 0 0, .float .f64 0, .float .f64 0, .slice (some ⟨g1, 0, none⟩) 1 1] 26) = w9 at MG hHeld ⊢
  repeat (first | (refine reg_load (v := ?_) (a' := ?_) rfl rfl rfl (by kernel_rfl) (fun _ _ _ h => h) (by rfl) ?_ hHeld ?_ ?_; rotate_left; (solve | (intro w' hb'; first | (rw [exec_ld30 ?hop ?hx (BF.out w' hb')]; (case hop => rfl); (case hx => rfl)) | (rw [exec_ld26 ?hop ?hx (BA.out w' hb')]; (case hop => rfl); (case hx => rfl)) | (rw [exec_ld26 ?hop ?hx (BX.out w' hb')]; (case hop => rfl); (case hx => rfl)) | (rw [exec_ld26 ?hop ?hx (B3.out w' hb')]; (case hop => rfl); (case hx => rfl)) | (rw [exec_ld26 ?hop ?hx (B4.out w' hb')]; (case hop => rfl); (case hx => rfl)) | (rw [exec_ld26 ?hop ?hx (B5.out w' hb')]; (case hop => rfl); (case hx => rfl)) | (rw [exec_ld26 ?hop ?hx (B6.out w' hb')]; (case hop => rfl); (case hx => rfl)) | (rw [exec_ld26 ?hop ?hx (BB.out w' hb')]; (case hop => rfl); (case hx => rfl)))); rotate_left; (solve | (simp only [Act.put, List.setIfInBounds_toArray, List.set_cons_zero, List.set_cons_succ, i64_w, i32_w]; rfl)); intro hHeld) | (refine reg_pure (v := ?_) (a' := ?_) rfl rfl rfl (by kernel_rfl) (fun _ _ _ h => h) (by rfl) ?_ ?_ ?_; rotate_left; (solve | (intro w'; go_simp; with_reducible rfl)); rotate_left; (solve | (simp only [Act.put, List.setIfInBounds_toArray, List.set_cons_zero, List.set_cons_succ, i64_w, i32_w]; rfl))) | (refine reg_skip (a' := ?_) rfl rfl rfl (by rfl) (by kernel_rfl) (fun _ _ _ h => h) ?_ ?_; rotate_left; (solve | (simp only [Act.put, List.setIfInBounds_toArray, List.set_cons_zero, List.set_cons_succ, i64_w, i32_w]; rfl))))
  refine reg_call rfl rfl rfl (by kernel_rfl) (by rfl) Try.func14 (by kernel_rfl) rfl #[.agg #[.int .i64 2, .int .i64 0, .slice none 0 0, .float .f64 0, .float .f64 0, .slice (some ⟨g7, 0, none⟩) 1 1], .agg #[.int .i64 a1_0, .int .i64 a1_1, .int .i64 a1_2, .slice A1_3 l1_3.length c1_3, .slice A1_4 l1_4.length c1_4, .slice A1_5 l1_5.length c1_5]] rfl (by (try simp only [List.map_toArray, List.map_cons, List.map_nil]); first | done | rfl) ?_
  refine (holds_at qn 2 0 none 0 [] 0 0 (some ⟨g7, 0, none⟩) 1 [(⟨2, 0, [], 0, 0, [⟨a0_0, a0_1, l0_2, a0_3, a0_4, l0_5⟩]⟩ : S26)] a1_0 a1_1 a1_2 A1_3 c1_3 l1_3 A1_4 c1_4 l1_4 A1_5 c1_5 l1_5 ba _ (Kd.C_nil _ _) (Nat.le_refl _) (rowN1 MG.out (KX.out _ hHeld)) (Nat.le_refl _) (HF.out.on (C8V.out _ hHeld)) HTN.out).mono ?_
  rintro e w5 ⟨rfl, hb⟩
  refine ⟨_, rfl, below_step hHeld hb, fun hHeld => ?_⟩
  clear hb
  rintro a' ha'
  simp only [Act.put, List.setIfInBounds_toArray, List.set_cons_zero, List.set_cons_succ, i64_w, i32_w] at ha'
  subst ha'
  repeat (first | (refine reg_load (v := ?_) (a' := ?_) rfl rfl rfl (by kernel_rfl) (fun _ _ _ h => h) (by rfl) ?_ hHeld ?_ ?_; rotate_left; (solve | (intro w' hb'; first | (rw [exec_ld30 ?hop ?hx (BF.out w' hb')]; (case hop => rfl); (case hx => rfl)) | (rw [exec_ld26 ?hop ?hx (BA.out w' hb')]; (case hop => rfl); (case hx => rfl)) | (rw [exec_ld26 ?hop ?hx (BX.out w' hb')]; (case hop => rfl); (case hx => rfl)) | (rw [exec_ld26 ?hop ?hx (B3.out w' hb')]; (case hop => rfl); (case hx => rfl)) | (rw [exec_ld26 ?hop ?hx (B4.out w' hb')]; (case hop => rfl); (case hx => rfl)) | (rw [exec_ld26 ?hop ?hx (B5.out w' hb')]; (case hop => rfl); (case hx => rfl)) | (rw [exec_ld26 ?hop ?hx (B6.out w' hb')]; (case hop => rfl); (case hx => rfl)) | (rw [exec_ld26 ?hop ?hx (BB.out w' hb')]; (case hop => rfl); (case hx => rfl)))); rotate_left; (solve | (simp only [Act.put, List.setIfInBounds_toArray, List.set_cons_zero, List.set_cons_succ, i64_w, i32_w]; rfl)); intro hHeld) | (refine reg_pure (v := ?_) (a' := ?_) rfl rfl rfl (by kernel_rfl) (fun _ _ _ h => h) (by rfl) ?_ ?_ ?_; rotate_left; (solve | (intro w'; go_simp; with_reducible rfl)); rotate_left; (solve | (simp only [Act.put, List.setIfInBounds_toArray, List.set_cons_zero, List.set_cons_succ, i64_w, i32_w]; rfl))) | (refine reg_skip (a' := ?_) rfl rfl rfl (by rfl) (by kernel_rfl) (fun _ _ _ h => h) ?_ ?_; rotate_left; (solve | (simp only [Act.put, List.setIfInBounds_toArray, List.set_cons_zero, List.set_cons_succ, i64_w, i32_w]; rfl))))
  refine reg_call rfl rfl rfl (by kernel_rfl) (by rfl) Try.func14 (by kernel_rfl) rfl #[.agg #[.int .i64 a0_0, .int .i64 a0_1, .slice A0_2 l0_2.length c0_2, .float .f64 a0_3, .float .f64 a0_4, .slice A0_5 l0_5.length c0_5], .agg #[.int .i64 a1_0, .int .i64 a1_1, .int .i64 a1_2, .slice A1_3 l1_3.length c1_3, .slice A1_4 l1_4.length c1_4, .slice A1_5 l1_5.length c1_5]] rfl (by (try simp only [List.map_toArray, List.map_cons, List.map_nil]); first | done | rfl) ?_
  refine (holds_at qa a0_0 a0_1 A0_2 c0_2 l0_2 a0_3 a0_4 A0_5 c0_5 l0_5 a1_0 a1_1 a1_2 A1_3 c1_3 l1_3 A1_4 c1_4 l1_4 A1_5 c1_5 l1_5 ba _ (Kd.C_below HE2.out (C8V.out _ hHeld)) H2.out (Kd.C_below HE5.out (C8V.out _ hHeld)) H5.out (HF.out.on (C8V.out _ hHeld)) HTA.out).mono ?_
  rintro e w5 ⟨rfl, hb⟩
  refine ⟨_, rfl, below_step hHeld hb, fun hHeld => ?_⟩
  clear hb
  rintro a' ha'
  simp only [Act.put, List.setIfInBounds_toArray, List.set_cons_zero, List.set_cons_succ, i64_w, i32_w] at ha'
  subst ha'
  repeat (first | (refine reg_load (v := ?_) (a' := ?_) rfl rfl rfl (by kernel_rfl) (fun _ _ _ h => h) (by rfl) ?_ hHeld ?_ ?_; rotate_left; (solve | (intro w' hb'; first | (rw [exec_ld30 ?hop ?hx (BF.out w' hb')]; (case hop => rfl); (case hx => rfl)) | (rw [exec_ld26 ?hop ?hx (BA.out w' hb')]; (case hop => rfl); (case hx => rfl)) | (rw [exec_ld26 ?hop ?hx (BX.out w' hb')]; (case hop => rfl); (case hx => rfl)) | (rw [exec_ld26 ?hop ?hx (B3.out w' hb')]; (case hop => rfl); (case hx => rfl)) | (rw [exec_ld26 ?hop ?hx (B4.out w' hb')]; (case hop => rfl); (case hx => rfl)) | (rw [exec_ld26 ?hop ?hx (B5.out w' hb')]; (case hop => rfl); (case hx => rfl)) | (rw [exec_ld26 ?hop ?hx (B6.out w' hb')]; (case hop => rfl); (case hx => rfl)) | (rw [exec_ld26 ?hop ?hx (BB.out w' hb')]; (case hop => rfl); (case hx => rfl)))); rotate_left; (solve | (simp only [Act.put, List.setIfInBounds_toArray, List.set_cons_zero, List.set_cons_succ, i64_w, i32_w]; rfl)); intro hHeld) | (refine reg_pure (v := ?_) (a' := ?_) rfl rfl rfl (by kernel_rfl) (fun _ _ _ h => h) (by rfl) ?_ ?_ ?_; rotate_left; (solve | (intro w'; go_simp; with_reducible rfl)); rotate_left; (solve | (simp only [Act.put, List.setIfInBounds_toArray, List.set_cons_zero, List.set_cons_succ, i64_w, i32_w]; rfl))) | (refine reg_skip (a' := ?_) rfl rfl rfl (by rfl) (by kernel_rfl) (fun _ _ _ h => h) ?_ ?_; rotate_left; (solve | (simp only [Act.put, List.setIfInBounds_toArray, List.set_cons_zero, List.set_cons_succ, i64_w, i32_w]; rfl))))
  refine reg_call rfl rfl rfl (by kernel_rfl) (by rfl) Try.func14 (by kernel_rfl) rfl #[.agg #[.int .i64 3, .int .i64 0, .slice none 0 0, .float .f64 0, .float .f64 0, .slice (some ⟨g3, 0, none⟩) 2 2], .agg #[.int .i64 a1_0, .int .i64 a1_1, .int .i64 a1_2, .slice A1_3 l1_3.length c1_3, .slice A1_4 l1_4.length c1_4, .slice A1_5 l1_5.length c1_5]] rfl (by (try simp only [List.map_toArray, List.map_cons, List.map_nil]); first | done | rfl) ?_
  refine (holds_at q3 3 0 none 0 [] 0 0 (some ⟨g3, 0, none⟩) 2 [(⟨a0_0, a0_1, l0_2, a0_3, a0_4, l0_5⟩ : S26), ⟨b0_0, b0_1, m0_2, b0_3, b0_4, m0_5⟩] a1_0 a1_1 a1_2 A1_3 c1_3 l1_3 A1_4 c1_4 l1_4 A1_5 c1_5 l1_5 (ba && bb) _ (Kd.C_nil _ _) (Nat.le_refl _) (R3.out _ hHeld) (Nat.le_refl _) (HF.out.on (C8V.out _ hHeld)) HT3.out).mono ?_
  rintro e w5 ⟨rfl, hb⟩
  refine ⟨_, rfl, below_step hHeld hb, fun hHeld => ?_⟩
  clear hb
  rintro a' ha'
  simp only [Act.put, List.setIfInBounds_toArray, List.set_cons_zero, List.set_cons_succ, i64_w, i32_w] at ha'
  subst ha'
  repeat (first | (refine reg_load (v := ?_) (a' := ?_) rfl rfl rfl (by kernel_rfl) (fun _ _ _ h => h) (by rfl) ?_ hHeld ?_ ?_; rotate_left; (solve | (intro w' hb'; first | (rw [exec_ld30 ?hop ?hx (BF.out w' hb')]; (case hop => rfl); (case hx => rfl)) | (rw [exec_ld26 ?hop ?hx (BA.out w' hb')]; (case hop => rfl); (case hx => rfl)) | (rw [exec_ld26 ?hop ?hx (BX.out w' hb')]; (case hop => rfl); (case hx => rfl)) | (rw [exec_ld26 ?hop ?hx (B3.out w' hb')]; (case hop => rfl); (case hx => rfl)) | (rw [exec_ld26 ?hop ?hx (B4.out w' hb')]; (case hop => rfl); (case hx => rfl)) | (rw [exec_ld26 ?hop ?hx (B5.out w' hb')]; (case hop => rfl); (case hx => rfl)) | (rw [exec_ld26 ?hop ?hx (B6.out w' hb')]; (case hop => rfl); (case hx => rfl)) | (rw [exec_ld26 ?hop ?hx (BB.out w' hb')]; (case hop => rfl); (case hx => rfl)))); rotate_left; (solve | (simp only [Act.put, List.setIfInBounds_toArray, List.set_cons_zero, List.set_cons_succ, i64_w, i32_w]; rfl)); intro hHeld) | (refine reg_pure (v := ?_) (a' := ?_) rfl rfl rfl (by kernel_rfl) (fun _ _ _ h => h) (by rfl) ?_ ?_ ?_; rotate_left; (solve | (intro w'; go_simp; with_reducible rfl)); rotate_left; (solve | (simp only [Act.put, List.setIfInBounds_toArray, List.set_cons_zero, List.set_cons_succ, i64_w, i32_w]; rfl))) | (refine reg_skip (a' := ?_) rfl rfl rfl (by rfl) (by kernel_rfl) (fun _ _ _ h => h) ?_ ?_; rotate_left; (solve | (simp only [Act.put, List.setIfInBounds_toArray, List.set_cons_zero, List.set_cons_succ, i64_w, i32_w]; rfl))))
  refine reg_call rfl rfl rfl (by kernel_rfl) (by rfl) Try.func14 (by kernel_rfl) rfl #[.agg #[.int .i64 4, .int .i64 0, .slice none 0 0, .float .f64 0, .float .f64 0, .slice (some ⟨g6, 0, none⟩) 2 2], .agg #[.int .i64 a1_0, .int .i64 a1_1, .int .i64 a1_2, .slice A1_3 l1_3.length c1_3, .slice A1_4 l1_4.length c1_4, .slice A1_5 l1_5.length c1_5]] rfl (by (try simp only [List.map_toArray, List.map_cons, List.map_nil]); first | done | rfl) ?_
  refine (holds_at q6 4 0 none 0 [] 0 0 (some ⟨g6, 0, none⟩) 2 [(⟨2, 0, [], 0, 0, [⟨a0_0, a0_1, l0_2, a0_3, a0_4, l0_5⟩]⟩ : S26), (⟨2, 0, [], 0, 0, [⟨b0_0, b0_1, m0_2, b0_3, b0_4, m0_5⟩]⟩ : S26)] a1_0 a1_1 a1_2 A1_3 c1_3 l1_3 A1_4 c1_4 l1_4 A1_5 c1_5 l1_5 (!ba || !bb) _ (Kd.C_nil _ _) (Nat.le_refl _) (R6.out _ hHeld) (Nat.le_refl _) (HF.out.on (C8V.out _ hHeld)) HT6.out).mono ?_
  rintro e w5 ⟨rfl, hb⟩
  refine ⟨_, rfl, below_step hHeld hb, fun hHeld => ?_⟩
  clear hb
  rintro a' ha'
  simp only [Act.put, List.setIfInBounds_toArray, List.set_cons_zero, List.set_cons_succ, i64_w, i32_w] at ha'
  subst ha'
  repeat (first | (refine reg_load (v := ?_) (a' := ?_) rfl rfl rfl (by kernel_rfl) (fun _ _ _ h => h) (by rfl) ?_ hHeld ?_ ?_; rotate_left; (solve | (intro w' hb'; first | (rw [exec_ld30 ?hop ?hx (BF.out w' hb')]; (case hop => rfl); (case hx => rfl)) | (rw [exec_ld26 ?hop ?hx (BA.out w' hb')]; (case hop => rfl); (case hx => rfl)) | (rw [exec_ld26 ?hop ?hx (BX.out w' hb')]; (case hop => rfl); (case hx => rfl)) | (rw [exec_ld26 ?hop ?hx (B3.out w' hb')]; (case hop => rfl); (case hx => rfl)) | (rw [exec_ld26 ?hop ?hx (B4.out w' hb')]; (case hop => rfl); (case hx => rfl)) | (rw [exec_ld26 ?hop ?hx (B5.out w' hb')]; (case hop => rfl); (case hx => rfl)) | (rw [exec_ld26 ?hop ?hx (B6.out w' hb')]; (case hop => rfl); (case hx => rfl)) | (rw [exec_ld26 ?hop ?hx (BB.out w' hb')]; (case hop => rfl); (case hx => rfl)))); rotate_left; (solve | (simp only [Act.put, List.setIfInBounds_toArray, List.set_cons_zero, List.set_cons_succ, i64_w, i32_w]; rfl)); intro hHeld) | (refine reg_pure (v := ?_) (a' := ?_) rfl rfl rfl (by kernel_rfl) (fun _ _ _ h => h) (by rfl) ?_ ?_ ?_; rotate_left; (solve | (intro w'; go_simp; with_reducible rfl)); rotate_left; (solve | (simp only [Act.put, List.setIfInBounds_toArray, List.set_cons_zero, List.set_cons_succ, i64_w, i32_w]; rfl))) | (refine reg_skip (a' := ?_) rfl rfl rfl (by rfl) (by kernel_rfl) (fun _ _ _ h => h) ?_ ?_; rotate_left; (solve | (simp only [Act.put, List.setIfInBounds_toArray, List.set_cons_zero, List.set_cons_succ, i64_w, i32_w]; rfl))))
  refine reg_call rfl rfl rfl (by kernel_rfl) (by rfl) Try.func14 (by kernel_rfl) rfl #[.agg #[.int .i64 4, .int .i64 0, .slice none 0 0, .float .f64 0, .float .f64 0, .slice (some ⟨g4, 0, none⟩) 2 2], .agg #[.int .i64 a1_0, .int .i64 a1_1, .int .i64 a1_2, .slice A1_3 l1_3.length c1_3, .slice A1_4 l1_4.length c1_4, .slice A1_5 l1_5.length c1_5]] rfl (by (try simp only [List.map_toArray, List.map_cons, List.map_nil]); first | done | rfl) ?_
  refine (holds_at q4 4 0 none 0 [] 0 0 (some ⟨g4, 0, none⟩) 2 [(⟨a0_0, a0_1, l0_2, a0_3, a0_4, l0_5⟩ : S26), ⟨b0_0, b0_1, m0_2, b0_3, b0_4, m0_5⟩] a1_0 a1_1 a1_2 A1_3 c1_3 l1_3 A1_4 c1_4 l1_4 A1_5 c1_5 l1_5 (ba || bb) _ (Kd.C_nil _ _) (Nat.le_refl _) (R4.out _ hHeld) (Nat.le_refl _) (HF.out.on (C8V.out _ hHeld)) HT4.out).mono ?_
  rintro e w5 ⟨rfl, hb⟩
  refine ⟨_, rfl, below_step hHeld hb, fun hHeld => ?_⟩
  clear hb
  rintro a' ha'
  simp only [Act.put, List.setIfInBounds_toArray, List.set_cons_zero, List.set_cons_succ, i64_w, i32_w] at ha'
  subst ha'
  repeat (first | (refine reg_load (v := ?_) (a' := ?_) rfl rfl rfl (by kernel_rfl) (fun _ _ _ h => h) (by rfl) ?_ hHeld ?_ ?_; rotate_left; (solve | (intro w' hb'; first | (rw [exec_ld30 ?hop ?hx (BF.out w' hb')]; (case hop => rfl); (case hx => rfl)) | (rw [exec_ld26 ?hop ?hx (BA.out w' hb')]; (case hop => rfl); (case hx => rfl)) | (rw [exec_ld26 ?hop ?hx (BX.out w' hb')]; (case hop => rfl); (case hx => rfl)) | (rw [exec_ld26 ?hop ?hx (B3.out w' hb')]; (case hop => rfl); (case hx => rfl)) | (rw [exec_ld26 ?hop ?hx (B4.out w' hb')]; (case hop => rfl); (case hx => rfl)) | (rw [exec_ld26 ?hop ?hx (B5.out w' hb')]; (case hop => rfl); (case hx => rfl)) | (rw [exec_ld26 ?hop ?hx (B6.out w' hb')]; (case hop => rfl); (case hx => rfl)) | (rw [exec_ld26 ?hop ?hx (BB.out w' hb')]; (case hop => rfl); (case hx => rfl)))); rotate_left; (solve | (simp only [Act.put, List.setIfInBounds_toArray, List.set_cons_zero, List.set_cons_succ, i64_w, i32_w]; rfl)); intro hHeld) | (refine reg_pure (v := ?_) (a' := ?_) rfl rfl rfl (by kernel_rfl) (fun _ _ _ h => h) (by rfl) ?_ ?_ ?_; rotate_left; (solve | (intro w'; go_simp; with_reducible rfl)); rotate_left; (solve | (simp only [Act.put, List.setIfInBounds_toArray, List.set_cons_zero, List.set_cons_succ, i64_w, i32_w]; rfl))) | (refine reg_skip (a' := ?_) rfl rfl rfl (by rfl) (by kernel_rfl) (fun _ _ _ h => h) ?_ ?_; rotate_left; (solve | (simp only [Act.put, List.setIfInBounds_toArray, List.set_cons_zero, List.set_cons_succ, i64_w, i32_w]; rfl))))
  refine reg_call rfl rfl rfl (by kernel_rfl) (by rfl) Try.func14 (by kernel_rfl) rfl #[.agg #[.int .i64 3, .int .i64 0, .slice none 0 0, .float .f64 0, .float .f64 0, .slice (some ⟨g5, 0, none⟩) 2 2], .agg #[.int .i64 a1_0, .int .i64 a1_1, .int .i64 a1_2, .slice A1_3 l1_3.length c1_3, .slice A1_4 l1_4.length c1_4, .slice A1_5 l1_5.length c1_5]] rfl (by (try simp only [List.map_toArray, List.map_cons, List.map_nil]); first | done | rfl) ?_
  refine (holds_at q5 3 0 none 0 [] 0 0 (some ⟨g5, 0, none⟩) 2 [(⟨2, 0, [], 0, 0, [⟨a0_0, a0_1, l0_2, a0_3, a0_4, l0_5⟩]⟩ : S26), (⟨2, 0, [], 0, 0, [⟨b0_0, b0_1, m0_2, b0_3, b0_4, m0_5⟩]⟩ : S26)] a1_0 a1_1 a1_2 A1_3 c1_3 l1_3 A1_4 c1_4 l1_4 A1_5 c1_5 l1_5 (!ba && !bb) _ (Kd.C_nil _ _) (Nat.le_refl _) (R5.out _ hHeld) (Nat.le_refl _) (HF.out.on (C8V.out _ hHeld)) HT5.out).mono ?_
  rintro e w5 ⟨rfl, hb⟩
  refine ⟨_, rfl, below_step hHeld hb, fun hHeld => ?_⟩
  clear hb
  rintro a' ha'
  simp only [Act.put, List.setIfInBounds_toArray, List.set_cons_zero, List.set_cons_succ, i64_w, i32_w] at ha'
  subst ha'
  repeat (first | (refine reg_load (v := ?_) (a' := ?_) rfl rfl rfl (by kernel_rfl) (fun _ _ _ h => h) (by rfl) ?_ hHeld ?_ ?_; rotate_left; (solve | (intro w' hb'; first | (rw [exec_ld30 ?hop ?hx (BF.out w' hb')]; (case hop => rfl); (case hx => rfl)) | (rw [exec_ld26 ?hop ?hx (BA.out w' hb')]; (case hop => rfl); (case hx => rfl)) | (rw [exec_ld26 ?hop ?hx (BX.out w' hb')]; (case hop => rfl); (case hx => rfl)) | (rw [exec_ld26 ?hop ?hx (B3.out w' hb')]; (case hop => rfl); (case hx => rfl)) | (rw [exec_ld26 ?hop ?hx (B4.out w' hb')]; (case hop => rfl); (case hx => rfl)) | (rw [exec_ld26 ?hop ?hx (B5.out w' hb')]; (case hop => rfl); (case hx => rfl)) | (rw [exec_ld26 ?hop ?hx (B6.out w' hb')]; (case hop => rfl); (case hx => rfl)) | (rw [exec_ld26 ?hop ?hx (BB.out w' hb')]; (case hop => rfl); (case hx => rfl)))); rotate_left; (solve | (simp only [Act.put, List.setIfInBounds_toArray, List.set_cons_zero, List.set_cons_succ, i64_w, i32_w]; rfl)); intro hHeld) | (refine reg_pure (v := ?_) (a' := ?_) rfl rfl rfl (by kernel_rfl) (fun _ _ _ h => h) (by rfl) ?_ ?_ ?_; rotate_left; (solve | (intro w'; go_simp; with_reducible rfl)); rotate_left; (solve | (simp only [Act.put, List.setIfInBounds_toArray, List.set_cons_zero, List.set_cons_succ, i64_w, i32_w]; rfl))) | (refine reg_skip (a' := ?_) rfl rfl rfl (by rfl) (by kernel_rfl) (fun _ _ _ h => h) ?_ ?_; rotate_left; (solve | (simp only [Act.put, List.setIfInBounds_toArray, List.set_cons_zero, List.set_cons_succ, i64_w, i32_w]; rfl))))
  refine reg_call rfl rfl rfl (by kernel_rfl) (by rfl) Try.func14 (by kernel_rfl) rfl #[.agg #[.int .i64 3, .int .i64 0, .slice none 0 0, .float .f64 0, .float .f64 0, .slice (some ⟨g3, 0, none⟩) 2 2], .agg #[.int .i64 a1_0, .int .i64 a1_1, .int .i64 a1_2, .slice A1_3 l1_3.length c1_3, .slice A1_4 l1_4.length c1_4, .slice A1_5 l1_5.length c1_5]] rfl (by (try simp only [List.map_toArray, List.map_cons, List.map_nil]); first | done | rfl) ?_
  refine (holds_at q3 3 0 none 0 [] 0 0 (some ⟨g3, 0, none⟩) 2 [(⟨a0_0, a0_1, l0_2, a0_3, a0_4, l0_5⟩ : S26), ⟨b0_0, b0_1, m0_2, b0_3, b0_4, m0_5⟩] a1_0 a1_1 a1_2 A1_3 c1_3 l1_3 A1_4 c1_4 l1_4 A1_5 c1_5 l1_5 (ba && bb) _ (Kd.C_nil _ _) (Nat.le_refl _) (R3.out _ hHeld) (Nat.le_refl _) (HF.out.on (C8V.out _ hHeld)) HT3.out).mono ?_
  rintro e w5 ⟨rfl, hb⟩
  refine ⟨_, rfl, below_step hHeld hb, fun hHeld => ?_⟩
  clear hb
  rintro a' ha'
  simp only [Act.put, List.setIfInBounds_toArray, List.set_cons_zero, List.set_cons_succ, i64_w, i32_w] at ha'
  subst ha'
  repeat (first | (refine reg_load (v := ?_) (a' := ?_) rfl rfl rfl (by kernel_rfl) (fun _ _ _ h => h) (by rfl) ?_ hHeld ?_ ?_; rotate_left; (solve | (intro w' hb'; first | (rw [exec_ld30 ?hop ?hx (BF.out w' hb')]; (case hop => rfl); (case hx => rfl)) | (rw [exec_ld26 ?hop ?hx (BA.out w' hb')]; (case hop => rfl); (case hx => rfl)) | (rw [exec_ld26 ?hop ?hx (BX.out w' hb')]; (case hop => rfl); (case hx => rfl)) | (rw [exec_ld26 ?hop ?hx (B3.out w' hb')]; (case hop => rfl); (case hx => rfl)) | (rw [exec_ld26 ?hop ?hx (B4.out w' hb')]; (case hop => rfl); (case hx => rfl)) | (rw [exec_ld26 ?hop ?hx (B5.out w' hb')]; (case hop => rfl); (case hx => rfl)) | (rw [exec_ld26 ?hop ?hx (B6.out w' hb')]; (case hop => rfl); (case hx => rfl)) | (rw [exec_ld26 ?hop ?hx (BB.out w' hb')]; (case hop => rfl); (case hx => rfl)))); rotate_left; (solve | (simp only [Act.put, List.setIfInBounds_toArray, List.set_cons_zero, List.set_cons_succ, i64_w, i32_w]; rfl)); intro hHeld) | (refine reg_pure (v := ?_) (a' := ?_) rfl rfl rfl (by kernel_rfl) (fun _ _ _ h => h) (by rfl) ?_ ?_ ?_; rotate_left; (solve | (intro w'; go_simp; with_reducible rfl)); rotate_left; (solve | (simp only [Act.put, List.setIfInBounds_toArray, List.set_cons_zero, List.set_cons_succ, i64_w, i32_w]; rfl))) | (refine reg_skip (a' := ?_) rfl rfl rfl (by rfl) (by kernel_rfl) (fun _ _ _ h => h) ?_ ?_; rotate_left; (solve | (simp only [Act.put, List.setIfInBounds_toArray, List.set_cons_zero, List.set_cons_succ, i64_w, i32_w]; rfl))))
  refine reg_call rfl rfl rfl (by kernel_rfl) (by rfl) Try.func14 (by kernel_rfl) rfl #[.agg #[.int .i64 a0_0, .int .i64 a0_1, .slice A0_2 l0_2.length c0_2, .float .f64 a0_3, .float .f64 a0_4, .slice A0_5 l0_5.length c0_5], .agg #[.int .i64 a1_0, .int .i64 a1_1, .int .i64 a1_2, .slice A1_3 l1_3.length c1_3, .slice A1_4 l1_4.length c1_4, .slice A1_5 l1_5.length c1_5]] rfl (by (try simp only [List.map_toArray, List.map_cons, List.map_nil]); first | done | rfl) ?_
  refine (holds_at qa a0_0 a0_1 A0_2 c0_2 l0_2 a0_3 a0_4 A0_5 c0_5 l0_5 a1_0 a1_1 a1_2 A1_3 c1_3 l1_3 A1_4 c1_4 l1_4 A1_5 c1_5 l1_5 ba _ (Kd.C_below HE2.out (C8V.out _ hHeld)) H2.out (Kd.C_below HE5.out (C8V.out _ hHeld)) H5.out (HF.out.on (C8V.out _ hHeld)) HTA.out).mono ?_
  rintro e w5 ⟨rfl, hb⟩
  refine ⟨_, rfl, below_step hHeld hb, fun hHeld => ?_⟩
  clear hb
  rintro a' ha'
  simp only [Act.put, List.setIfInBounds_toArray, List.set_cons_zero, List.set_cons_succ, i64_w, i32_w] at ha'
  subst ha'
  repeat (first | (refine reg_load (v := ?_) (a' := ?_) rfl rfl rfl (by kernel_rfl) (fun _ _ _ h => h) (by rfl) ?_ hHeld ?_ ?_; rotate_left; (solve | (intro w' hb'; first | (rw [exec_ld30 ?hop ?hx (BF.out w' hb')]; (case hop => rfl); (case hx => rfl)) | (rw [exec_ld26 ?hop ?hx (BA.out w' hb')]; (case hop => rfl); (case hx => rfl)) | (rw [exec_ld26 ?hop ?hx (BX.out w' hb')]; (case hop => rfl); (case hx => rfl)) | (rw [exec_ld26 ?hop ?hx (B3.out w' hb')]; (case hop => rfl); (case hx => rfl)) | (rw [exec_ld26 ?hop ?hx (B4.out w' hb')]; (case hop => rfl); (case hx => rfl)) | (rw [exec_ld26 ?hop ?hx (B5.out w' hb')]; (case hop => rfl); (case hx => rfl)) | (rw [exec_ld26 ?hop ?hx (B6.out w' hb')]; (case hop => rfl); (case hx => rfl)) | (rw [exec_ld26 ?hop ?hx (BB.out w' hb')]; (case hop => rfl); (case hx => rfl)))); rotate_left; (solve | (simp only [Act.put, List.setIfInBounds_toArray, List.set_cons_zero, List.set_cons_succ, i64_w, i32_w]; rfl)); intro hHeld) | (refine reg_pure (v := ?_) (a' := ?_) rfl rfl rfl (by kernel_rfl) (fun _ _ _ h => h) (by rfl) ?_ ?_ ?_; rotate_left; (solve | (intro w'; go_simp; with_reducible rfl)); rotate_left; (solve | (simp only [Act.put, List.setIfInBounds_toArray, List.set_cons_zero, List.set_cons_succ, i64_w, i32_w]; rfl))) | (refine reg_skip (a' := ?_) rfl rfl rfl (by rfl) (by kernel_rfl) (fun _ _ _ h => h) ?_ ?_; rotate_left; (solve | (simp only [Act.put, List.setIfInBounds_toArray, List.set_cons_zero, List.set_cons_succ, i64_w, i32_w]; rfl))))
  cases ba with
  | true =>
    repeat (first | (refine reg_load (v := ?_) (a' := ?_) rfl rfl rfl (by kernel_rfl) (fun _ _ _ h => h) (by rfl) ?_ hHeld ?_ ?_; rotate_left; (solve | (intro w' hb'; first | (rw [exec_ld30 ?hop ?hx (BF.out w' hb')]; (case hop => rfl); (case hx => rfl)) | (rw [exec_ld26 ?hop ?hx (BA.out w' hb')]; (case hop => rfl); (case hx => rfl)) | (rw [exec_ld26 ?hop ?hx (BX.out w' hb')]; (case hop => rfl); (case hx => rfl)) | (rw [exec_ld26 ?hop ?hx (B3.out w' hb')]; (case hop => rfl); (case hx => rfl)) | (rw [exec_ld26 ?hop ?hx (B4.out w' hb')]; (case hop => rfl); (case hx => rfl)) | (rw [exec_ld26 ?hop ?hx (B5.out w' hb')]; (case hop => rfl); (case hx => rfl)) | (rw [exec_ld26 ?hop ?hx (B6.out w' hb')]; (case hop => rfl); (case hx => rfl)) | (rw [exec_ld26 ?hop ?hx (BB.out w' hb')]; (case hop => rfl); (case hx => rfl)))); rotate_left; (solve | (simp only [Act.put, List.setIfInBounds_toArray, List.set_cons_zero, List.set_cons_succ, i64_w, i32_w]; rfl)); intro hHeld) | (refine reg_pure (v := ?_) (a' := ?_) rfl rfl rfl (by kernel_rfl) (fun _ _ _ h => h) (by rfl) ?_ ?_ ?_; rotate_left; (solve | (intro w'; go_simp; with_reducible rfl)); rotate_left; (solve | (simp only [Act.put, List.setIfInBounds_toArray, List.set_cons_zero, List.set_cons_succ, i64_w, i32_w]; rfl))) | (refine reg_skip (a' := ?_) rfl rfl rfl (by rfl) (by kernel_rfl) (fun _ _ _ h => h) ?_ ?_; rotate_left; (solve | (simp only [Act.put, List.setIfInBounds_toArray, List.set_cons_zero, List.set_cons_succ, i64_w, i32_w]; rfl))))
    cases bb with
    | true =>
      refine reg_call rfl rfl rfl (by kernel_rfl) (by rfl) Try.func14 (by kernel_rfl) rfl #[.agg #[.int .i64 b0_0, .int .i64 b0_1, .slice B0_2 m0_2.length d0_2, .float .f64 b0_3, .float .f64 b0_4, .slice B0_5 m0_5.length d0_5], .agg #[.int .i64 a1_0, .int .i64 a1_1, .int .i64 a1_2, .slice A1_3 l1_3.length c1_3, .slice A1_4 l1_4.length c1_4, .slice A1_5 l1_5.length c1_5]] rfl (by (try simp only [List.map_toArray, List.map_cons, List.map_nil]); first | done | rfl) ?_
      refine (holds_at qb b0_0 b0_1 B0_2 d0_2 m0_2 b0_3 b0_4 B0_5 d0_5 m0_5 a1_0 a1_1 a1_2 A1_3 c1_3 l1_3 A1_4 c1_4 l1_4 A1_5 c1_5 l1_5 true _ (Kd.C_below KE2.out (C8V.out _ hHeld)) K2.out (Kd.C_below KE5.out (C8V.out _ hHeld)) K5.out (HF.out.on (C8V.out _ hHeld)) HTB.out).mono ?_
      rintro e w5 ⟨rfl, hb⟩
      refine ⟨_, rfl, below_step hHeld hb, fun hHeld => ?_⟩
      clear hb
      rintro a' ha'
      simp only [Act.put, List.setIfInBounds_toArray, List.set_cons_zero, List.set_cons_succ, i64_w, i32_w] at ha'
      subst ha'
      repeat (first | (refine reg_load (v := ?_) (a' := ?_) rfl rfl rfl (by kernel_rfl) (fun _ _ _ h => h) (by rfl) ?_ hHeld ?_ ?_; rotate_left; (solve | (intro w' hb'; first | (rw [exec_ld30 ?hop ?hx (BF.out w' hb')]; (case hop => rfl); (case hx => rfl)) | (rw [exec_ld26 ?hop ?hx (BA.out w' hb')]; (case hop => rfl); (case hx => rfl)) | (rw [exec_ld26 ?hop ?hx (BX.out w' hb')]; (case hop => rfl); (case hx => rfl)) | (rw [exec_ld26 ?hop ?hx (B3.out w' hb')]; (case hop => rfl); (case hx => rfl)) | (rw [exec_ld26 ?hop ?hx (B4.out w' hb')]; (case hop => rfl); (case hx => rfl)) | (rw [exec_ld26 ?hop ?hx (B5.out w' hb')]; (case hop => rfl); (case hx => rfl)) | (rw [exec_ld26 ?hop ?hx (B6.out w' hb')]; (case hop => rfl); (case hx => rfl)) | (rw [exec_ld26 ?hop ?hx (BB.out w' hb')]; (case hop => rfl); (case hx => rfl)))); rotate_left; (solve | (simp only [Act.put, List.setIfInBounds_toArray, List.set_cons_zero, List.set_cons_succ, i64_w, i32_w]; rfl)); intro hHeld) | (refine reg_pure (v := ?_) (a' := ?_) rfl rfl rfl (by kernel_rfl) (fun _ _ _ h => h) (by rfl) ?_ ?_ ?_; rotate_left; (solve | (intro w'; go_simp; with_reducible rfl)); rotate_left; (solve | (simp only [Act.put, List.setIfInBounds_toArray, List.set_cons_zero, List.set_cons_succ, i64_w, i32_w]; rfl))) | (refine reg_skip (a' := ?_) rfl rfl rfl (by rfl) (by kernel_rfl) (fun _ _ _ h => h) ?_ ?_; rotate_left; (solve | (simp only [Act.put, List.setIfInBounds_toArray, List.set_cons_zero, List.set_cons_succ, i64_w, i32_w]; rfl))))
      refine reg_done (by kernel_rfl) ?_
      have HZ := Aside0.mk (C8V.out _ hHeld)
      go_wp2_with fail
      rw [HT.out]
      exact ⟨rfl, HZ.out⟩
    | false =>
      refine reg_call rfl rfl rfl (by kernel_rfl) (by rfl) Try.func14 (by kernel_rfl) rfl #[.agg #[.int .i64 b0_0, .int .i64 b0_1, .slice B0_2 m0_2.length d0_2, .float .f64 b0_3, .float .f64 b0_4, .slice B0_5 m0_5.length d0_5], .agg #[.int .i64 a1_0, .int .i64 a1_1, .int .i64 a1_2, .slice A1_3 l1_3.length c1_3, .slice A1_4 l1_4.length c1_4, .slice A1_5 l1_5.length c1_5]] rfl (by (try simp only [List.map_toArray, List.map_cons, List.map_nil]); first | done | rfl) ?_
      refine (holds_at qb b0_0 b0_1 B0_2 d0_2 m0_2 b0_3 b0_4 B0_5 d0_5 m0_5 a1_0 a1_1 a1_2 A1_3 c1_3 l1_3 A1_4 c1_4 l1_4 A1_5 c1_5 l1_5 false _ (Kd.C_below KE2.out (C8V.out _ hHeld)) K2.out (Kd.C_below KE5.out (C8V.out _ hHeld)) K5.out (HF.out.on (C8V.out _ hHeld)) HTB.out).mono ?_
      rintro e w5 ⟨rfl, hb⟩
      refine ⟨_, rfl, below_step hHeld hb, fun hHeld => ?_⟩
      clear hb
      rintro a' ha'
      simp only [Act.put, List.setIfInBounds_toArray, List.set_cons_zero, List.set_cons_succ, i64_w, i32_w] at ha'
      subst ha'
      repeat (first | (refine reg_load (v := ?_) (a' := ?_) rfl rfl rfl (by kernel_rfl) (fun _ _ _ h => h) (by rfl) ?_ hHeld ?_ ?_; rotate_left; (solve | (intro w' hb'; first | (rw [exec_ld30 ?hop ?hx (BF.out w' hb')]; (case hop => rfl); (case hx => rfl)) | (rw [exec_ld26 ?hop ?hx (BA.out w' hb')]; (case hop => rfl); (case hx => rfl)) | (rw [exec_ld26 ?hop ?hx (BX.out w' hb')]; (case hop => rfl); (case hx => rfl)) | (rw [exec_ld26 ?hop ?hx (B3.out w' hb')]; (case hop => rfl); (case hx => rfl)) | (rw [exec_ld26 ?hop ?hx (B4.out w' hb')]; (case hop => rfl); (case hx => rfl)) | (rw [exec_ld26 ?hop ?hx (B5.out w' hb')]; (case hop => rfl); (case hx => rfl)) | (rw [exec_ld26 ?hop ?hx (B6.out w' hb')]; (case hop => rfl); (case hx => rfl)) | (rw [exec_ld26 ?hop ?hx (BB.out w' hb')]; (case hop => rfl); (case hx => rfl)))); rotate_left; (solve | (simp only [Act.put, List.setIfInBounds_toArray, List.set_cons_zero, List.set_cons_succ, i64_w, i32_w]; rfl)); intro hHeld) | (refine reg_pure (v := ?_) (a' := ?_) rfl rfl rfl (by kernel_rfl) (fun _ _ _ h => h) (by rfl) ?_ ?_ ?_; rotate_left; (solve | (intro w'; go_simp; with_reducible rfl)); rotate_left; (solve | (simp only [Act.put, List.setIfInBounds_toArray, List.set_cons_zero, List.set_cons_succ, i64_w, i32_w]; rfl))) | (refine reg_skip (a' := ?_) rfl rfl rfl (by rfl) (by kernel_rfl) (fun _ _ _ h => h) ?_ ?_; rotate_left; (solve | (simp only [Act.put, List.setIfInBounds_toArray, List.set_cons_zero, List.set_cons_succ, i64_w, i32_w]; rfl))))
      refine reg_done (by kernel_rfl) ?_
      have HZ := Aside0.mk (C8V.out _ hHeld)
      go_wp2_with fail
      rw [HT.out]
      exact ⟨rfl, HZ.out⟩
  | false =>
    repeat (first | (refine reg_load (v := ?_) (a' := ?_) rfl rfl rfl (by kernel_rfl) (fun _ _ _ h => h) (by rfl) ?_ hHeld ?_ ?_; rotate_left; (solve | (intro w' hb'; first | (rw [exec_ld30 ?hop ?hx (BF.out w' hb')]; (case hop => rfl); (case hx => rfl)) | (rw [exec_ld26 ?hop ?hx (BA.out w' hb')]; (case hop => rfl); (case hx => rfl)) | (rw [exec_ld26 ?hop ?hx (BX.out w' hb')]; (case hop => rfl); (case hx => rfl)) | (rw [exec_ld26 ?hop ?hx (B3.out w' hb')]; (case hop => rfl); (case hx => rfl)) | (rw [exec_ld26 ?hop ?hx (B4.out w' hb')]; (case hop => rfl); (case hx => rfl)) | (rw [exec_ld26 ?hop ?hx (B5.out w' hb')]; (case hop => rfl); (case hx => rfl)) | (rw [exec_ld26 ?hop ?hx (B6.out w' hb')]; (case hop => rfl); (case hx => rfl)) | (rw [exec_ld26 ?hop ?hx (BB.out w' hb')]; (case hop => rfl); (case hx => rfl)))); rotate_left; (solve | (simp only [Act.put, List.setIfInBounds_toArray, List.set_cons_zero, List.set_cons_succ, i64_w, i32_w]; rfl)); intro hHeld) | (refine reg_pure (v := ?_) (a' := ?_) rfl rfl rfl (by kernel_rfl) (fun _ _ _ h => h) (by rfl) ?_ ?_ ?_; rotate_left; (solve | (intro w'; go_simp; with_reducible rfl)); rotate_left; (solve | (simp only [Act.put, List.setIfInBounds_toArray, List.set_cons_zero, List.set_cons_succ, i64_w, i32_w]; rfl))) | (refine reg_skip (a' := ?_) rfl rfl rfl (by rfl) (by kernel_rfl) (fun _ _ _ h => h) ?_ ?_; rotate_left; (solve | (simp only [Act.put, List.setIfInBounds_toArray, List.set_cons_zero, List.set_cons_succ, i64_w, i32_w]; rfl))))
    refine reg_done (by kernel_rfl) ?_
    have HZ := Aside0.mk (C8V.out _ hHeld)
    go_wp2_with fail
    rw [HT.out]
    exact ⟨rfl, HZ.out⟩
end Go.Proofs.Ytppmcbkcohiodaa.PMeanTells
