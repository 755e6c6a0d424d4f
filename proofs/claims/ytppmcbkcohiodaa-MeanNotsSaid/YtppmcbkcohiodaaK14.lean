/- Texts of this claim, put together (wip/pack.py): RefAtomWalk. -/
import Derived.Test.YtppmcbkcohiodaaK4
import Derived.Test.YtppmcbkcohiodaaK9
import Derived.Test.YtppmcbkcohiodaaK12
import Derived.Test.YtppmcbkcohiodaaK13
namespace Go.Proofs.Ytppmcbkcohiodaa.PMeanTells
open Go Go.RowKit Go.Proofs.YtppmcbkcohiodaaW.PrintWords Go.Proofs.YtppmcbkcohiodaaW.PrintLast Go.Proofs.YtppmcbkcohiodaaW.PrintMore Go.Proofs.Ytppmcbkcohiodaa.Spans Go.Proofs.Ytppmcbkcohiodaa.Fl Go.Proofs.Ytppmcbkcohiodaa.Range
set_option maxHeartbeats 4000000
set_option maxRecDepth 100000
set_option linter.unusedVariables false
set_option linter.unusedSimpArgs false
theorem rdA (l : List R) (k : Nat) (h : k < l.length) : rd_T55 l (k : Int) = l[k] := by simp [rd_T55, List.getD_eq_getElem?_getD, List.getElem?_eq_getElem h]
theorem refHas_calls (A0 : Option Addr) (c0 : Nat) (l : List R) (n : Int) (w : World) (ha : Kd.C k55 w A0 l.length l) (hm : l.length ≤ 1000000) :
    Calls Try.prog 60 #[.slice A0 l.length c0, .int .i64 n] w fun e w' => e = .returned (.bool (hasB l n)) ∧ Below w.heap.size w w' := by
  obtain ⟨T, hT⟩ : ∃ T : Ending → World → Prop, T = fun e w' => e = .returned (.bool (hasB l n)) ∧ Below w.heap.size w w' := ⟨_, rfl⟩
  have HT := Aside0.mk hT
  rw [← hT]
  clear hT
  have HA := Aside0.mk ha
  clear ha
  go_enter Try.func60, Try.ntmps60
  go_wp2_with fail
  go_loopg [4, 5] l.length (fun gg s3 s5 wr => ∃ (kk : Nat), kk ≤ l.length ∧ l.length - kk ≤ gg ∧ s3 = .bool false ∧ s5 = .int .i64 (kk : Int) ∧ Aside0 (hasB (l.take kk) n = false) ∧ Aside0 (Below w.heap.size w wr))
  case atStart => exact ⟨0, Nat.zero_le _, by omega, rfl, rfl, ⟨rfl⟩, ⟨Below.refl _ _⟩⟩
  case round =>
    obtain ⟨kk, hkk, hgg, rfl, rfl, HNO, HBr⟩ := hrel
    by_cases hlt : kk < l.length
    · have hltz : (kk : Int) < (l.length : Int) := by omega
      obtain ⟨ad, hA, c0', c1'⟩ := at_T55 (Kd.C_below HA.out HBr.out) (kk : Int) (by omega) (by omega)
      subst hA
      rw [Int.toNat_natCast] at c0' c1'
      have HX := Aside0.mk (rdA l kk hlt)
      generalize rd_T55 l (kk : Int) = x at HX c0' c1'
      have HT1 := Aside0.mk (show hasB (l.take (kk + 1)) n = (decide (x.f0 ≤ n) && decide (n ≤ x.f1)) from by
        have h := HNO.out
        rw [List.take_succ_eq_append_getElem hlt, hasB_append, h, Bool.false_or, ← HX.out]; simp [hasB, inB])
      have HT2 := Aside0.mk (show hasB (l.take (kk + 1)) n = true → hasB l n = true from by
        intro h
        rw [hasB_iff] at h ⊢
        obtain ⟨y, hy, hy'⟩ := h
        exact ⟨y, List.mem_of_mem_take hy, hy'⟩)
      obtain ⟨x0, x1⟩ := x
      simp only at c0' c1' HT1
      by_cases h0 : x0 ≤ n
      · have hd0 : decide (x0 ≤ n) = true := decide_eq_true h0
        clear h0
        by_cases h1 : n ≤ x1
        · have hd1 : decide (n ≤ x1) = true := decide_eq_true h1
          clear h1
          rw [hd0, hd1] at HT1
          go_wp2_with fail
          rw [HT.out, HT2.out HT1.out]
          exact ⟨rfl, HBr.out⟩
        · have hd1 : decide (n ≤ x1) = false := decide_eq_false h1
          clear h1
          rw [hd0, hd1] at HT1
          go_wp2_with fail
          go_roundg (l.length - (kk + 1))
          case measure => omega
          case rel => exact ⟨kk + 1, by omega, Nat.le_refl _, rfl, by go_num, HT1, HBr⟩
      · have hd0 : decide (x0 ≤ n) = false := decide_eq_false h0
        clear h0
        rw [hd0] at HT1
        go_wp2_with fail
        go_roundg (l.length - (kk + 1))
        case measure => omega
        case rel => exact ⟨kk + 1, by omega, Nat.le_refl _, rfl, by go_num, HT1, HBr⟩
    · have hkl : kk = l.length := by omega
      subst hkl
      have hltz : ¬ ((l.length : Int) < (l.length : Int)) := by omega
      rw [List.take_length] at HNO
      go_wp2_with fail
      rw [HT.out, HNO.out]
      exact ⟨rfl, HBr.out⟩
theorem hW2_below (w : World) (E F : Array Value) : Below w.heap.size w ((w.alloc (.cells E 26)).alloc (.cells F 30)) := below_alloc (below_alloc (Below.refl _ _) _) _
theorem leF_same {x y : Nat} (h : sameF x y = true) (lo hi : Nat) : (leF lo x && leF x hi) = (leF lo y && leF y hi) := by
  unfold sameF at h
  split at h
  · rw [eq_of_beq h]
  · rw [Bool.and_eq_true, Bool.not_eq_true', Bool.not_eq_true'] at h
    rw [(le_nan h.1 hi).1, (le_nan h.2 hi).1, Bool.and_false, Bool.and_false]
theorem same4_all {l : List Int} {ys : List Nat} {k : Nat} (h : Same4 l k ys) (lo hi : Nat) : (vals l k).all (fun x => leF lo x && leF x hi) = ys.all fun x => leF lo x && leF x hi := by
  have e : ys = (List.range k).map fun j : Nat => rdOf (0 : Nat) ys (j : Int) := by
    refine List.ext_getElem (by simp [h.1]) (fun j h1 h2 => ?_)
    rw [List.getElem_map, List.getElem_range]
    simp [rdOf, List.getD_eq_getElem?_getD, List.getElem?_eq_getElem h1]
  rw [e, vals, List.all_map, List.all_map]
  rw [Bool.eq_iff_iff, List.all_eq_true, List.all_eq_true]
  refine forall_congr' (fun j => forall_congr' (fun hj => ?_))
  have := leF_same (h.2 j (List.mem_range.1 hj)).1 lo hi
  simp only [Function.comp]
  rw [this]
theorem ys_row {w : World} {n0 : Nat} {v : Value} {ys : List Nat} (h : w.ownsRow n0 23 1 v ys.length (encs (Value.float .f64) ys)) : ∃ A c, v = .slice A ys.length c ∧ Kd.C Kd.flt w A ys.length ys := by
  obtain ⟨A, c, e1, _, e2⟩ := Kd.R_reads (Kd.R_of_own (h1 := fun _ => rfl) (ok := fun _ => True) h (fun _ _ => trivial))
  exact ⟨A, c, e1, e2⟩
theorem ratom_one (a0_0 : Int) (A0_2 : Option Addr) (c0_2 : Nat) (l0_2 : List (S55)) (a0_3 : Nat) (a0_4 : Nat) (A0_5 : Option Addr) (c0_5 : Nat) (l0_5 : List (S26)) (a1_0 : Int) (a1_1 : Int) (a1_2 : Int) (A1_3 : Option Addr) (c1_3 : Nat) (l1_3 : List (S55)) (A1_4 : Option Addr) (c1_4 : Nat) (l1_4 : List Int) (A1_5 : Option Addr) (c1_5 : Nat) (l1_5 : List Int) (r : Bool) (w : World) (hr0_2 : Kd.C k55 w A0_2 l0_2.length l0_2) (hc0_2 : l0_2.length ≤ c0_2) (hr0_5 : Kd.C k26 w A0_5 l0_5.length l0_5) (hc0_5 : l0_5.length ≤ c0_5) (hF : FaC w A1_3 c1_3 l1_3 A1_4 c1_4 l1_4 A1_5 c1_5 l1_5) (h : AtomOk 1 l0_2 a0_3 a0_4 a1_0 a1_1 a1_2 l1_3 l1_4 l1_5 r) :
    Calls Try.prog 35 #[.agg #[.int .i64 a0_0, .int .i64 1, .slice A0_2 l0_2.length c0_2, .float .f64 a0_3, .float .f64 a0_4, .slice A0_5 l0_5.length c0_5], .agg #[.int .i64 a1_0, .int .i64 a1_1, .int .i64 a1_2, .slice A1_3 l1_3.length c1_3, .slice A1_4 l1_4.length c1_4, .slice A1_5 l1_5.length c1_5]] w fun e w' => e = .returned (.bool r) ∧ Below w.heap.size w w' := by
  obtain ⟨T, hT⟩ : ∃ T : Ending → World → Prop, T = fun e w' => e = .returned (.bool r) ∧ Below w.heap.size w w' := ⟨_, rfl⟩
  have HT := Aside0.mk hT
  rw [← hT]
  clear hT
  have HE2 := Aside0.mk hr0_2
  have HF := Aside0.mk hF
  have HH := Aside0.mk h
  clear hr0_2 hr0_5 hF h hc0_2 hc0_5
  have HA := Aside0.mk (hW2_below w #[.int .i64 a0_0, .int .i64 1, .slice A0_2 l0_2.length c0_2, .float .f64 a0_3, .float .f64 a0_4, .slice A0_5 l0_5.length c0_5] #[.int .i64 a1_0, .int .i64 a1_1, .int .i64 a1_2, .slice A1_3 l1_3.length c1_3, .slice A1_4 l1_4.length c1_4, .slice A1_5 l1_5.length c1_5])
  have HC := Aside0.mk (refHas_calls A0_2 c0_2 l0_2 a1_0 _ (Kd.C_below HE2.out HA.out) HH.out.lr)
  have HR := Aside0.mk (show r = hasB l0_2 a1_0 from HH.out.ans.symm)
  go_enter Try.func35, Try.ntmps35
  go_wp2_with fail
  refine HC.out.mono ?_
  rintro e w1 ⟨rfl, hb⟩
  have HB1 := Aside0.mk (below_step HA.out hb)
  clear hb
  go_wp2_with fail
  rw [HT.out, HR.out]
  exact ⟨rfl, HB1.out⟩
theorem ratom_two (a0_0 : Int) (A0_2 : Option Addr) (c0_2 : Nat) (l0_2 : List (S55)) (a0_3 : Nat) (a0_4 : Nat) (A0_5 : Option Addr) (c0_5 : Nat) (l0_5 : List (S26)) (a1_0 : Int) (a1_1 : Int) (a1_2 : Int) (A1_3 : Option Addr) (c1_3 : Nat) (l1_3 : List (S55)) (A1_4 : Option Addr) (c1_4 : Nat) (l1_4 : List Int) (A1_5 : Option Addr) (c1_5 : Nat) (l1_5 : List Int) (r : Bool) (w : World) (hr0_2 : Kd.C k55 w A0_2 l0_2.length l0_2) (hc0_2 : l0_2.length ≤ c0_2) (hr0_5 : Kd.C k26 w A0_5 l0_5.length l0_5) (hc0_5 : l0_5.length ≤ c0_5) (hF : FaC w A1_3 c1_3 l1_3 A1_4 c1_4 l1_4 A1_5 c1_5 l1_5) (h : AtomOk 2 l0_2 a0_3 a0_4 a1_0 a1_1 a1_2 l1_3 l1_4 l1_5 r) :
    Calls Try.prog 35 #[.agg #[.int .i64 a0_0, .int .i64 2, .slice A0_2 l0_2.length c0_2, .float .f64 a0_3, .float .f64 a0_4, .slice A0_5 l0_5.length c0_5], .agg #[.int .i64 a1_0, .int .i64 a1_1, .int .i64 a1_2, .slice A1_3 l1_3.length c1_3, .slice A1_4 l1_4.length c1_4, .slice A1_5 l1_5.length c1_5]] w fun e w' => e = .returned (.bool r) ∧ Below w.heap.size w w' := by
  obtain ⟨T, hT⟩ : ∃ T : Ending → World → Prop, T = fun e w' => e = .returned (.bool r) ∧ Below w.heap.size w w' := ⟨_, rfl⟩
  have HT := Aside0.mk hT
  rw [← hT]
  clear hT
  have HE2 := Aside0.mk hr0_2
  have HF := Aside0.mk hF
  have HH := Aside0.mk h
  clear hr0_2 hr0_5 hF h hc0_2 hc0_5
  have HA := Aside0.mk (hW2_below w #[.int .i64 a0_0, .int .i64 2, .slice A0_2 l0_2.length c0_2, .float .f64 a0_3, .float .f64 a0_4, .slice A0_5 l0_5.length c0_5] #[.int .i64 a1_0, .int .i64 a1_1, .int .i64 a1_2, .slice A1_3 l1_3.length c1_3, .slice A1_4 l1_4.length c1_4, .slice A1_5 l1_5.length c1_5])
  have HC := Aside0.mk (refHas_calls A0_2 c0_2 l0_2 a1_1 _ (Kd.C_below HE2.out HA.out) HH.out.lr)
  have HR := Aside0.mk (show r = hasB l0_2 a1_1 from HH.out.ans.symm)
  go_enter Try.func35, Try.ntmps35
  go_wp2_with fail
  refine HC.out.mono ?_
  rintro e w1 ⟨rfl, hb⟩
  have HB1 := Aside0.mk (below_step HA.out hb)
  clear hb
  go_wp2_with fail
  rw [HT.out, HR.out]
  exact ⟨rfl, HB1.out⟩
theorem ratom_three (a0_0 : Int) (A0_2 : Option Addr) (c0_2 : Nat) (l0_2 : List (S55)) (a0_3 : Nat) (a0_4 : Nat) (A0_5 : Option Addr) (c0_5 : Nat) (l0_5 : List (S26)) (a1_0 : Int) (a1_1 : Int) (a1_2 : Int) (A1_3 : Option Addr) (c1_3 : Nat) (l1_3 : List (S55)) (A1_4 : Option Addr) (c1_4 : Nat) (l1_4 : List Int) (A1_5 : Option Addr) (c1_5 : Nat) (l1_5 : List Int) (r : Bool) (w : World) (hr0_2 : Kd.C k55 w A0_2 l0_2.length l0_2) (hc0_2 : l0_2.length ≤ c0_2) (hr0_5 : Kd.C k26 w A0_5 l0_5.length l0_5) (hc0_5 : l0_5.length ≤ c0_5) (hF : FaC w A1_3 c1_3 l1_3 A1_4 c1_4 l1_4 A1_5 c1_5 l1_5) (h : AtomOk 3 l0_2 a0_3 a0_4 a1_0 a1_1 a1_2 l1_3 l1_4 l1_5 r) :
    Calls Try.prog 35 #[.agg #[.int .i64 a0_0, .int .i64 3, .slice A0_2 l0_2.length c0_2, .float .f64 a0_3, .float .f64 a0_4, .slice A0_5 l0_5.length c0_5], .agg #[.int .i64 a1_0, .int .i64 a1_1, .int .i64 a1_2, .slice A1_3 l1_3.length c1_3, .slice A1_4 l1_4.length c1_4, .slice A1_5 l1_5.length c1_5]] w fun e w' => e = .returned (.bool r) ∧ Below w.heap.size w w' := by
  obtain ⟨T, hT⟩ : ∃ T : Ending → World → Prop, T = fun e w' => e = .returned (.bool r) ∧ Below w.heap.size w w' := ⟨_, rfl⟩
  have HT := Aside0.mk hT
  rw [← hT]
  clear hT
  have HE2 := Aside0.mk hr0_2
  have HF := Aside0.mk hF
  have HH := Aside0.mk h
  clear hr0_2 hr0_5 hF h hc0_2 hc0_5
  have HA := Aside0.mk (hW2_below w #[.int .i64 a0_0, .int .i64 3, .slice A0_2 l0_2.length c0_2, .float .f64 a0_3, .float .f64 a0_4, .slice A0_5 l0_5.length c0_5] #[.int .i64 a1_0, .int .i64 a1_1, .int .i64 a1_2, .slice A1_3 l1_3.length c1_3, .slice A1_4 l1_4.length c1_4, .slice A1_5 l1_5.length c1_5])
  have HC := Aside0.mk (refHas_calls A0_2 c0_2 l0_2 a1_2 _ (Kd.C_below HE2.out HA.out) HH.out.lr)
  have HR := Aside0.mk (show r = hasB l0_2 a1_2 from HH.out.ans.symm)
  go_enter Try.func35, Try.ntmps35
  go_wp2_with fail
  refine HC.out.mono ?_
  rintro e w1 ⟨rfl, hb⟩
  have HB1 := Aside0.mk (below_step HA.out hb)
  clear hb
  go_wp2_with fail
  rw [HT.out, HR.out]
  exact ⟨rfl, HB1.out⟩
theorem ratom_four (a0_0 : Int) (A0_2 : Option Addr) (c0_2 : Nat) (l0_2 : List (S55)) (a0_3 : Nat) (a0_4 : Nat) (A0_5 : Option Addr) (c0_5 : Nat) (l0_5 : List (S26)) (a1_0 : Int) (a1_1 : Int) (a1_2 : Int) (A1_3 : Option Addr) (c1_3 : Nat) (l1_3 : List (S55)) (A1_4 : Option Addr) (c1_4 : Nat) (l1_4 : List Int) (A1_5 : Option Addr) (c1_5 : Nat) (l1_5 : List Int) (r : Bool) (w : World) (hr0_2 : Kd.C k55 w A0_2 l0_2.length l0_2) (hc0_2 : l0_2.length ≤ c0_2) (hr0_5 : Kd.C k26 w A0_5 l0_5.length l0_5) (hc0_5 : l0_5.length ≤ c0_5) (hF : FaC w A1_3 c1_3 l1_3 A1_4 c1_4 l1_4 A1_5 c1_5 l1_5) (h : AtomOk 4 l0_2 a0_3 a0_4 a1_0 a1_1 a1_2 l1_3 l1_4 l1_5 r) :
    Calls Try.prog 35 #[.agg #[.int .i64 a0_0, .int .i64 4, .slice A0_2 l0_2.length c0_2, .float .f64 a0_3, .float .f64 a0_4, .slice A0_5 l0_5.length c0_5], .agg #[.int .i64 a1_0, .int .i64 a1_1, .int .i64 a1_2, .slice A1_3 l1_3.length c1_3, .slice A1_4 l1_4.length c1_4, .slice A1_5 l1_5.length c1_5]] w fun e w' => e = .returned (.bool r) ∧ Below w.heap.size w w' := by
  obtain ⟨T, hT⟩ : ∃ T : Ending → World → Prop, T = fun e w' => e = .returned (.bool r) ∧ Below w.heap.size w w' := ⟨_, rfl⟩
  have HT := Aside0.mk hT
  rw [← hT]
  clear hT
  have HE2 := Aside0.mk hr0_2
  have HF := Aside0.mk hF
  have HH := Aside0.mk h
  clear hr0_2 hr0_5 hF h hc0_2 hc0_5
  have HA := Aside0.mk (hW2_below w #[.int .i64 a0_0, .int .i64 4, .slice A0_2 l0_2.length c0_2, .float .f64 a0_3, .float .f64 a0_4, .slice A0_5 l0_5.length c0_5] #[.int .i64 a1_0, .int .i64 a1_1, .int .i64 a1_2, .slice A1_3 l1_3.length c1_3, .slice A1_4 l1_4.length c1_4, .slice A1_5 l1_5.length c1_5])
  have g0 : ((w.alloc (.cells #[.int .i64 a0_0, .int .i64 4, .slice A0_2 l0_2.length c0_2, .float .f64 a0_3, .float .f64 a0_4, .slice A0_5 l0_5.length c0_5] 26)).alloc (.cells #[.int .i64 a1_0, .int .i64 a1_1, .int .i64 a1_2, .slice A1_3 l1_3.length c1_3, .slice A1_4 l1_4.length c1_4, .slice A1_5 l1_5.length c1_5] 30)).heap[w.heap.size]? = some (.cells #[.int .i64 a0_0, .int .i64 4, .slice A0_2 l0_2.length c0_2, .float .f64 a0_3, .float .f64 a0_4, .slice A0_5 l0_5.length c0_5] 26 (0, 0)) := aW_b0 w _ _
  have g1 : ((w.alloc (.cells #[.int .i64 a0_0, .int .i64 4, .slice A0_2 l0_2.length c0_2, .float .f64 a0_3, .float .f64 a0_4, .slice A0_5 l0_5.length c0_5] 26)).alloc (.cells #[.int .i64 a1_0, .int .i64 a1_1, .int .i64 a1_2, .slice A1_3 l1_3.length c1_3, .slice A1_4 l1_4.length c1_4, .slice A1_5 l1_5.length c1_5] 30)).heap[w.heap.size + 1]? = some (.cells #[.int .i64 a1_0, .int .i64 a1_1, .int .i64 a1_2, .slice A1_3 l1_3.length c1_3, .slice A1_4 l1_4.length c1_4, .slice A1_5 l1_5.length c1_5] 30 (0, 0)) := aW_b1 w _ _
  go_enter Try.func35, Try.ntmps35
  go_wp2_with fail
  generalize (w.alloc (.cells #[.int .i64 a0_0, .int .i64 4, .slice A0_2 l0_2.length c0_2, .float .f64 a0_3, .float .f64 a0_4, .slice A0_5 l0_5.length c0_5] 26)).alloc (.cells #[.int .i64 a1_0, .int .i64 a1_1, .int .i64 a1_2, .slice A1_3 l1_3.length c1_3, .slice A1_4 l1_4.length c1_4, .slice A1_5 l1_5.length c1_5] 30) = W at HA g0 g1 ⊢
  have G0 := Aside0.mk g0
  have G1 := Aside0.mk g1
  clear g0 g1
  have HR := Aside0.mk (show r = l1_3.all (covD l0_2) from HH.out.ans.symm)
  have hls := HH.out.ls
  have HS := Aside0.mk (Kd.C_below HF.out.r3 HA.out)
  go_loopg [5] l1_3.length (fun gg s5 wr => ∃ (kk : Nat), kk ≤ l1_3.length ∧ l1_3.length - kk ≤ gg ∧ s5 = .int .i64 (kk : Int) ∧ Aside0 ((l1_3.take kk).all (covD l0_2) = true) ∧ Aside0 (Below W.heap.size W wr))
  case atStart => exact ⟨0, Nat.zero_le _, by omega, rfl, ⟨rfl⟩, ⟨Below.refl _ _⟩⟩
  case round =>
    obtain ⟨kk, hkk, hgg, rfl, HNO, HBr⟩ := hrel
    have e2 : wr.cell? ⟨w.heap.size, 2, none⟩ = some (.slice A0_2 l0_2.length c0_2) := blk_cell (blk_below G0.out HBr.out) 2
    have e3 : wr.cell? ⟨w.heap.size, 3, none⟩ = some (.float .f64 a0_3) := blk_cell (blk_below G0.out HBr.out) 3
    have e4 : wr.cell? ⟨w.heap.size, 4, none⟩ = some (.float .f64 a0_4) := blk_cell (blk_below G0.out HBr.out) 4
    have f3 : wr.cell? ⟨w.heap.size + 1, 3, none⟩ = some (.slice A1_3 l1_3.length c1_3) := blk_cell (blk_below G1.out HBr.out) 3
    have f4 : wr.cell? ⟨w.heap.size + 1, 4, none⟩ = some (.slice A1_4 l1_4.length c1_4) := blk_cell (blk_below G1.out HBr.out) 4
    have f5 : wr.cell? ⟨w.heap.size + 1, 5, none⟩ = some (.slice A1_5 l1_5.length c1_5) := blk_cell (blk_below G1.out HBr.out) 5
    by_cases hlt : kk < l1_3.length
    · have hltz : (kk : Int) < (l1_3.length : Int) := by omega
      obtain ⟨ad, hA, c0', c1'⟩ := at_T55 (Kd.C_below HS.out HBr.out) (kk : Int) (by omega) (by omega)
      subst hA
      rw [Int.toNat_natCast] at c0' c1'
      have HX := Aside0.mk (rdA l1_3 kk hlt)
      generalize rd_T55 l1_3 (kk : Int) = x at HX c0' c1'
      have HT1 := Aside0.mk (show (l1_3.take (kk + 1)).all (covD l0_2) = covD l0_2 x from by
        rw [List.take_succ_eq_append_getElem hlt, List.all_append, HNO.out, Bool.true_and, ← HX.out]; simp)
      have HT2 := Aside0.mk (show (l1_3.take (kk + 1)).all (covD l0_2) = false → l1_3.all (covD l0_2) = false from by
        intro h
        rw [List.all_eq_false] at h ⊢
        obtain ⟨y, hy, hy'⟩ := h
        exact ⟨y, List.mem_of_mem_take hy, hy'⟩)
      have HC := Aside0.mk (fun W' (hbW : Below wr.heap.size wr W') => refCovers_calls A0_2 c0_2 l0_2 x W' (Kd.C_below (Kd.C_below (Kd.C_below HE2.out HA.out) HBr.out) hbW) HH.out.lr HH.out.fit)
      go_wp2_with fail
      have hl1 : ((kk : Int) < (l1_3.length : Int)) = True := eq_true hltz
      have hl2 : (kk < l1_3.length) = True := eq_true hlt
      have t0 := blk_lt (blk_below G0.out HBr.out)
      have t1 := blk_lt (blk_below G1.out HBr.out)
      have t3 : (ad.add (kk * 2)).block < wr.heap.size := World.block_lt_of_cell? wr _ c0'
      refine reg_start (List.range 9) 9 (fun w' => Below wr.heap.size wr w') (by kernel_rfl) rfl (below_drew1 (Below.refl _ _)) (fun hHeld => ?_)
      generalize wr.drew = V1 at hHeld ⊢
      repeat (first | (refine reg_pure (v := ?_) (a' := ?_) rfl rfl rfl (by kernel_rfl) (fun _ _ _ h => h) (by rfl) ?_ ?_ ?_; rotate_left; (solve | (intro w'; go_simp; with_reducible rfl)); rotate_left; (solve | (simp only [Act.put, List.setIfInBounds_toArray, List.set_cons_zero, List.set_cons_succ, i64_w, i32_w]; rfl))) | (refine reg_skip (a' := ?_) rfl rfl rfl (by rfl) (by kernel_rfl) (fun _ _ _ h => h) ?_ ?_; rotate_left; (solve | (simp only [Act.put, List.setIfInBounds_toArray, List.set_cons_zero, List.set_cons_succ, i64_w, i32_w]; rfl))) | (refine reg_load (v := ?_) (a' := ?_) rfl rfl rfl (by kernel_rfl) (fun _ _ _ h => h) (by rfl) ?_ hHeld ?_ ?_; rotate_left; (solve | (intro w' hb'; obtain ⟨hc', hf'⟩ := bcellA hb'; clear hb'; go_simp; with_reducible rfl)); rotate_left; (solve | (simp only [Act.put, List.setIfInBounds_toArray, List.set_cons_zero, List.set_cons_succ, i64_w, i32_w]; rfl)); intro hHeld))
      refine reg_call rfl rfl rfl (by kernel_rfl) (by rfl) Try.func61 (by kernel_rfl) rfl #[.slice A0_2 l0_2.length c0_2, .agg #[.int .i64 x.f0, .int .i64 x.f1]] rfl (by (try simp only [List.map_toArray, List.map_cons, List.map_nil]); first | done | rfl) ?_
      refine (HC.out V1 hHeld).mono ?_
      rintro e w5 ⟨rfl, hb⟩
      refine ⟨_, rfl, below_step hHeld hb, fun hHeld => ?_⟩
      rintro a' ha'
      simp only [Act.put, List.setIfInBounds_toArray, List.set_cons_zero, List.set_cons_succ, i64_w, i32_w] at ha'
      subst ha'
      have HD := Aside0.mk hHeld
      have hcov : refCov l0_2 x = covD l0_2 x := rfl
      rw [hcov]
      rw [← HT1.out]
      cases hq : (l1_3.take (kk + 1)).all (covD l0_2) with
      | true =>
        repeat (first | (refine reg_pure (v := ?_) (a' := ?_) rfl rfl rfl (by kernel_rfl) (fun _ _ _ h => h) (by rfl) ?_ ?_ ?_; rotate_left; (solve | (intro w'; go_simp; with_reducible rfl)); rotate_left; (solve | (simp only [Act.put, List.setIfInBounds_toArray, List.set_cons_zero, List.set_cons_succ, i64_w, i32_w]; rfl))) | (refine reg_skip (a' := ?_) rfl rfl rfl (by rfl) (by kernel_rfl) (fun _ _ _ h => h) ?_ ?_; rotate_left; (solve | (simp only [Act.put, List.setIfInBounds_toArray, List.set_cons_zero, List.set_cons_succ, i64_w, i32_w]; rfl))) | (refine reg_load (v := ?_) (a' := ?_) rfl rfl rfl (by kernel_rfl) (fun _ _ _ h => h) (by rfl) ?_ hHeld ?_ ?_; rotate_left; (solve | (intro w' hb'; obtain ⟨hc', hf'⟩ := bcellA hb'; clear hb'; go_simp; with_reducible rfl)); rotate_left; (solve | (simp only [Act.put, List.setIfInBounds_toArray, List.set_cons_zero, List.set_cons_succ, i64_w, i32_w]; rfl)); intro hHeld))
        refine reg_done (by kernel_rfl) ?_
        have HQ := Aside0.mk hq
        clear hq hHeld hb HC HT2
        go_wp2_with fail
        go_roundg (l1_3.length - (kk + 1))
        case measure => omega
        case rel => exact ⟨kk + 1, by omega, Nat.le_refl _, by go_num, HQ, ⟨below_step HBr.out HD.out⟩⟩
      | false =>
        repeat (first | (refine reg_pure (v := ?_) (a' := ?_) rfl rfl rfl (by kernel_rfl) (fun _ _ _ h => h) (by rfl) ?_ ?_ ?_; rotate_left; (solve | (intro w'; go_simp; with_reducible rfl)); rotate_left; (solve | (simp only [Act.put, List.setIfInBounds_toArray, List.set_cons_zero, List.set_cons_succ, i64_w, i32_w]; rfl))) | (refine reg_skip (a' := ?_) rfl rfl rfl (by rfl) (by kernel_rfl) (fun _ _ _ h => h) ?_ ?_; rotate_left; (solve | (simp only [Act.put, List.setIfInBounds_toArray, List.set_cons_zero, List.set_cons_succ, i64_w, i32_w]; rfl))) | (refine reg_load (v := ?_) (a' := ?_) rfl rfl rfl (by kernel_rfl) (fun _ _ _ h => h) (by rfl) ?_ hHeld ?_ ?_; rotate_left; (solve | (intro w' hb'; obtain ⟨hc', hf'⟩ := bcellA hb'; clear hb'; go_simp; with_reducible rfl)); rotate_left; (solve | (simp only [Act.put, List.setIfInBounds_toArray, List.set_cons_zero, List.set_cons_succ, i64_w, i32_w]; rfl)); intro hHeld))
        refine reg_done (by kernel_rfl) ?_
        have HQ := Aside0.mk (HT2.out hq)
        clear hq hHeld hb HC HT2
        go_wp2_with fail
        rw [HT.out, HR.out, HQ.out]
        exact ⟨rfl, below_step HA.out (below_step HBr.out HD.out)⟩
    · have hkl : kk = l1_3.length := by omega
      subst hkl
      have hltz : ¬ ((l1_3.length : Int) < (l1_3.length : Int)) := by omega
      rw [List.take_length] at HNO
      go_wp2_with fail
      rw [HT.out, HR.out, HNO.out]
      exact ⟨rfl, below_step HA.out HBr.out⟩
theorem ratom_five (a0_0 : Int) (A0_2 : Option Addr) (c0_2 : Nat) (l0_2 : List (S55)) (a0_3 : Nat) (a0_4 : Nat) (A0_5 : Option Addr) (c0_5 : Nat) (l0_5 : List (S26)) (a1_0 : Int) (a1_1 : Int) (a1_2 : Int) (A1_3 : Option Addr) (c1_3 : Nat) (l1_3 : List (S55)) (A1_4 : Option Addr) (c1_4 : Nat) (l1_4 : List Int) (A1_5 : Option Addr) (c1_5 : Nat) (l1_5 : List Int) (r : Bool) (w : World) (hr0_2 : Kd.C k55 w A0_2 l0_2.length l0_2) (hc0_2 : l0_2.length ≤ c0_2) (hr0_5 : Kd.C k26 w A0_5 l0_5.length l0_5) (hc0_5 : l0_5.length ≤ c0_5) (hF : FaC w A1_3 c1_3 l1_3 A1_4 c1_4 l1_4 A1_5 c1_5 l1_5) (h : AtomOk 5 l0_2 a0_3 a0_4 a1_0 a1_1 a1_2 l1_3 l1_4 l1_5 r) :
    Calls Try.prog 35 #[.agg #[.int .i64 a0_0, .int .i64 5, .slice A0_2 l0_2.length c0_2, .float .f64 a0_3, .float .f64 a0_4, .slice A0_5 l0_5.length c0_5], .agg #[.int .i64 a1_0, .int .i64 a1_1, .int .i64 a1_2, .slice A1_3 l1_3.length c1_3, .slice A1_4 l1_4.length c1_4, .slice A1_5 l1_5.length c1_5]] w fun e w' => e = .returned (.bool r) ∧ Below w.heap.size w w' := by
  obtain ⟨T, hT⟩ : ∃ T : Ending → World → Prop, T = fun e w' => e = .returned (.bool r) ∧ Below w.heap.size w w' := ⟨_, rfl⟩
  have HT := Aside0.mk hT
  rw [← hT]
  clear hT
  have HE2 := Aside0.mk hr0_2
  have HF := Aside0.mk hF
  have HH := Aside0.mk h
  clear hr0_2 hr0_5 hF h hc0_2 hc0_5
  have HA := Aside0.mk (hW2_below w #[.int .i64 a0_0, .int .i64 5, .slice A0_2 l0_2.length c0_2, .float .f64 a0_3, .float .f64 a0_4, .slice A0_5 l0_5.length c0_5] #[.int .i64 a1_0, .int .i64 a1_1, .int .i64 a1_2, .slice A1_3 l1_3.length c1_3, .slice A1_4 l1_4.length c1_4, .slice A1_5 l1_5.length c1_5])
  have g0 : ((w.alloc (.cells #[.int .i64 a0_0, .int .i64 5, .slice A0_2 l0_2.length c0_2, .float .f64 a0_3, .float .f64 a0_4, .slice A0_5 l0_5.length c0_5] 26)).alloc (.cells #[.int .i64 a1_0, .int .i64 a1_1, .int .i64 a1_2, .slice A1_3 l1_3.length c1_3, .slice A1_4 l1_4.length c1_4, .slice A1_5 l1_5.length c1_5] 30)).heap[w.heap.size]? = some (.cells #[.int .i64 a0_0, .int .i64 5, .slice A0_2 l0_2.length c0_2, .float .f64 a0_3, .float .f64 a0_4, .slice A0_5 l0_5.length c0_5] 26 (0, 0)) := aW_b0 w _ _
  have g1 : ((w.alloc (.cells #[.int .i64 a0_0, .int .i64 5, .slice A0_2 l0_2.length c0_2, .float .f64 a0_3, .float .f64 a0_4, .slice A0_5 l0_5.length c0_5] 26)).alloc (.cells #[.int .i64 a1_0, .int .i64 a1_1, .int .i64 a1_2, .slice A1_3 l1_3.length c1_3, .slice A1_4 l1_4.length c1_4, .slice A1_5 l1_5.length c1_5] 30)).heap[w.heap.size + 1]? = some (.cells #[.int .i64 a1_0, .int .i64 a1_1, .int .i64 a1_2, .slice A1_3 l1_3.length c1_3, .slice A1_4 l1_4.length c1_4, .slice A1_5 l1_5.length c1_5] 30 (0, 0)) := aW_b1 w _ _
  go_enter Try.func35, Try.ntmps35
  go_wp2_with fail
  generalize (w.alloc (.cells #[.int .i64 a0_0, .int .i64 5, .slice A0_2 l0_2.length c0_2, .float .f64 a0_3, .float .f64 a0_4, .slice A0_5 l0_5.length c0_5] 26)).alloc (.cells #[.int .i64 a1_0, .int .i64 a1_1, .int .i64 a1_2, .slice A1_3 l1_3.length c1_3, .slice A1_4 l1_4.length c1_4, .slice A1_5 l1_5.length c1_5] 30) = W at HA g0 g1 ⊢
  have G0 := Aside0.mk g0
  have G1 := Aside0.mk g1
  clear g0 g1
  have HR := Aside0.mk (show r = l1_4.all (hasB l0_2) from HH.out.ans.symm)
  have hls := HH.out.lv
  have HS := Aside0.mk (Kd.C_below HF.out.r4 HA.out)
  go_loopg [6] l1_4.length (fun gg s5 wr => ∃ (kk : Nat), kk ≤ l1_4.length ∧ l1_4.length - kk ≤ gg ∧ s5 = .int .i64 (kk : Int) ∧ Aside0 ((l1_4.take kk).all (hasB l0_2) = true) ∧ Aside0 (Below W.heap.size W wr))
  case atStart => exact ⟨0, Nat.zero_le _, by omega, rfl, ⟨rfl⟩, ⟨Below.refl _ _⟩⟩
  case round =>
    obtain ⟨kk, hkk, hgg, rfl, HNO, HBr⟩ := hrel
    have e2 : wr.cell? ⟨w.heap.size, 2, none⟩ = some (.slice A0_2 l0_2.length c0_2) := blk_cell (blk_below G0.out HBr.out) 2
    have e3 : wr.cell? ⟨w.heap.size, 3, none⟩ = some (.float .f64 a0_3) := blk_cell (blk_below G0.out HBr.out) 3
    have e4 : wr.cell? ⟨w.heap.size, 4, none⟩ = some (.float .f64 a0_4) := blk_cell (blk_below G0.out HBr.out) 4
    have f3 : wr.cell? ⟨w.heap.size + 1, 3, none⟩ = some (.slice A1_3 l1_3.length c1_3) := blk_cell (blk_below G1.out HBr.out) 3
    have f4 : wr.cell? ⟨w.heap.size + 1, 4, none⟩ = some (.slice A1_4 l1_4.length c1_4) := blk_cell (blk_below G1.out HBr.out) 4
    have f5 : wr.cell? ⟨w.heap.size + 1, 5, none⟩ = some (.slice A1_5 l1_5.length c1_5) := blk_cell (blk_below G1.out HBr.out) 5
    by_cases hlt : kk < l1_4.length
    · have hltz : (kk : Int) < (l1_4.length : Int) := by omega
      obtain ⟨ad, hA, c0'⟩ := Kd.at_int (Kd.C_below HS.out HBr.out) (kk : Int) (by omega) (by omega)
      subst hA
      rw [Int.toNat_natCast] at c0'
      have HX := Aside0.mk (show rd l1_4 (kk : Int) = l1_4[kk] from by simp [rd, List.getD_eq_getElem?_getD, List.getElem?_eq_getElem hlt])
      generalize rd l1_4 (kk : Int) = x at HX c0'
      have HT1 := Aside0.mk (show (l1_4.take (kk + 1)).all (hasB l0_2) = hasB l0_2 x from by
        rw [List.take_succ_eq_append_getElem hlt, List.all_append, HNO.out, Bool.true_and, ← HX.out]; simp)
      have HT2 := Aside0.mk (show (l1_4.take (kk + 1)).all (hasB l0_2) = false → l1_4.all (hasB l0_2) = false from by
        intro h
        rw [List.all_eq_false] at h ⊢
        obtain ⟨y, hy, hy'⟩ := h
        exact ⟨y, List.mem_of_mem_take hy, hy'⟩)
      have HC := Aside0.mk (fun W' (hbW : Below wr.heap.size wr W') => refHas_calls A0_2 c0_2 l0_2 x W' (Kd.C_below (Kd.C_below (Kd.C_below HE2.out HA.out) HBr.out) hbW) HH.out.lr)
      go_wp2_with fail
      have hl1 : ((kk : Int) < (l1_4.length : Int)) = True := eq_true hltz
      have hl2 : (kk < l1_4.length) = True := eq_true hlt
      have t0 := blk_lt (blk_below G0.out HBr.out)
      have t1 := blk_lt (blk_below G1.out HBr.out)
      have t3 : (ad.add kk).block < wr.heap.size := World.block_lt_of_cell? wr _ c0'
      refine reg_start (List.range 9) 9 (fun w' => Below wr.heap.size wr w') (by kernel_rfl) rfl (below_drew1 (Below.refl _ _)) (fun hHeld => ?_)
      generalize wr.drew = V1 at hHeld ⊢
      repeat (first | (refine reg_pure (v := ?_) (a' := ?_) rfl rfl rfl (by kernel_rfl) (fun _ _ _ h => h) (by rfl) ?_ ?_ ?_; rotate_left; (solve | (intro w'; go_simp; with_reducible rfl)); rotate_left; (solve | (simp only [Act.put, List.setIfInBounds_toArray, List.set_cons_zero, List.set_cons_succ, i64_w, i32_w]; rfl))) | (refine reg_skip (a' := ?_) rfl rfl rfl (by rfl) (by kernel_rfl) (fun _ _ _ h => h) ?_ ?_; rotate_left; (solve | (simp only [Act.put, List.setIfInBounds_toArray, List.set_cons_zero, List.set_cons_succ, i64_w, i32_w]; rfl))) | (refine reg_load (v := ?_) (a' := ?_) rfl rfl rfl (by kernel_rfl) (fun _ _ _ h => h) (by rfl) ?_ hHeld ?_ ?_; rotate_left; (solve | (intro w' hb'; obtain ⟨hc', hf'⟩ := bcellA hb'; clear hb'; go_simp; with_reducible rfl)); rotate_left; (solve | (simp only [Act.put, List.setIfInBounds_toArray, List.set_cons_zero, List.set_cons_succ, i64_w, i32_w]; rfl)); intro hHeld))
      refine reg_call rfl rfl rfl (by kernel_rfl) (by rfl) Try.func60 (by kernel_rfl) rfl #[.slice A0_2 l0_2.length c0_2, .int .i64 x] rfl (by (try simp only [List.map_toArray, List.map_cons, List.map_nil]); first | done | rfl) ?_
      refine (HC.out V1 hHeld).mono ?_
      rintro e w5 ⟨rfl, hb⟩
      refine ⟨_, rfl, below_step hHeld hb, fun hHeld => ?_⟩
      rintro a' ha'
      simp only [Act.put, List.setIfInBounds_toArray, List.set_cons_zero, List.set_cons_succ, i64_w, i32_w] at ha'
      subst ha'
      have HD := Aside0.mk hHeld
      rw [← HT1.out]
      cases hq : (l1_4.take (kk + 1)).all (hasB l0_2) with
      | true =>
        repeat (first | (refine reg_pure (v := ?_) (a' := ?_) rfl rfl rfl (by kernel_rfl) (fun _ _ _ h => h) (by rfl) ?_ ?_ ?_; rotate_left; (solve | (intro w'; go_simp; with_reducible rfl)); rotate_left; (solve | (simp only [Act.put, List.setIfInBounds_toArray, List.set_cons_zero, List.set_cons_succ, i64_w, i32_w]; rfl))) | (refine reg_skip (a' := ?_) rfl rfl rfl (by rfl) (by kernel_rfl) (fun _ _ _ h => h) ?_ ?_; rotate_left; (solve | (simp only [Act.put, List.setIfInBounds_toArray, List.set_cons_zero, List.set_cons_succ, i64_w, i32_w]; rfl))) | (refine reg_load (v := ?_) (a' := ?_) rfl rfl rfl (by kernel_rfl) (fun _ _ _ h => h) (by rfl) ?_ hHeld ?_ ?_; rotate_left; (solve | (intro w' hb'; obtain ⟨hc', hf'⟩ := bcellA hb'; clear hb'; go_simp; with_reducible rfl)); rotate_left; (solve | (simp only [Act.put, List.setIfInBounds_toArray, List.set_cons_zero, List.set_cons_succ, i64_w, i32_w]; rfl)); intro hHeld))
        refine reg_done (by kernel_rfl) ?_
        have HQ := Aside0.mk hq
        clear hq hHeld hb HC HT2
        go_wp2_with fail
        go_roundg (l1_4.length - (kk + 1))
        case measure => omega
        case rel => exact ⟨kk + 1, by omega, Nat.le_refl _, by go_num, HQ, ⟨below_step HBr.out HD.out⟩⟩
      | false =>
        repeat (first | (refine reg_pure (v := ?_) (a' := ?_) rfl rfl rfl (by kernel_rfl) (fun _ _ _ h => h) (by rfl) ?_ ?_ ?_; rotate_left; (solve | (intro w'; go_simp; with_reducible rfl)); rotate_left; (solve | (simp only [Act.put, List.setIfInBounds_toArray, List.set_cons_zero, List.set_cons_succ, i64_w, i32_w]; rfl))) | (refine reg_skip (a' := ?_) rfl rfl rfl (by rfl) (by kernel_rfl) (fun _ _ _ h => h) ?_ ?_; rotate_left; (solve | (simp only [Act.put, List.setIfInBounds_toArray, List.set_cons_zero, List.set_cons_succ, i64_w, i32_w]; rfl))) | (refine reg_load (v := ?_) (a' := ?_) rfl rfl rfl (by kernel_rfl) (fun _ _ _ h => h) (by rfl) ?_ hHeld ?_ ?_; rotate_left; (solve | (intro w' hb'; obtain ⟨hc', hf'⟩ := bcellA hb'; clear hb'; go_simp; with_reducible rfl)); rotate_left; (solve | (simp only [Act.put, List.setIfInBounds_toArray, List.set_cons_zero, List.set_cons_succ, i64_w, i32_w]; rfl)); intro hHeld))
        refine reg_done (by kernel_rfl) ?_
        have HQ := Aside0.mk (HT2.out hq)
        clear hq hHeld hb HC HT2
        go_wp2_with fail
        rw [HT.out, HR.out, HQ.out]
        exact ⟨rfl, below_step HA.out (below_step HBr.out HD.out)⟩
    · have hkl : kk = l1_4.length := by omega
      subst hkl
      have hltz : ¬ ((l1_4.length : Int) < (l1_4.length : Int)) := by omega
      rw [List.take_length] at HNO
      go_wp2_with fail
      rw [HT.out, HR.out, HNO.out]
      exact ⟨rfl, below_step HA.out HBr.out⟩
theorem ratom_else (a0_0 : Int) (a0_1 : Int) (A0_2 : Option Addr) (c0_2 : Nat) (l0_2 : List (S55)) (a0_3 : Nat) (a0_4 : Nat) (A0_5 : Option Addr) (c0_5 : Nat) (l0_5 : List (S26)) (a1_0 : Int) (a1_1 : Int) (a1_2 : Int) (A1_3 : Option Addr) (c1_3 : Nat) (l1_3 : List (S55)) (A1_4 : Option Addr) (c1_4 : Nat) (l1_4 : List Int) (A1_5 : Option Addr) (c1_5 : Nat) (l1_5 : List Int) (r : Bool) (w : World) (hr0_2 : Kd.C k55 w A0_2 l0_2.length l0_2) (hc0_2 : l0_2.length ≤ c0_2) (hr0_5 : Kd.C k26 w A0_5 l0_5.length l0_5) (hc0_5 : l0_5.length ≤ c0_5) (hF : FaC w A1_3 c1_3 l1_3 A1_4 c1_4 l1_4 A1_5 c1_5 l1_5) (h : AtomOk a0_1 l0_2 a0_3 a0_4 a1_0 a1_1 a1_2 l1_3 l1_4 l1_5 r ∧ ¬ a0_1 = 1 ∧ ¬ a0_1 = 2 ∧ ¬ a0_1 = 3 ∧ ¬ a0_1 = 4 ∧ ¬ a0_1 = 5) :
    Calls Try.prog 35 #[.agg #[.int .i64 a0_0, .int .i64 a0_1, .slice A0_2 l0_2.length c0_2, .float .f64 a0_3, .float .f64 a0_4, .slice A0_5 l0_5.length c0_5], .agg #[.int .i64 a1_0, .int .i64 a1_1, .int .i64 a1_2, .slice A1_3 l1_3.length c1_3, .slice A1_4 l1_4.length c1_4, .slice A1_5 l1_5.length c1_5]] w fun e w' => e = .returned (.bool r) ∧ Below w.heap.size w w' := by
  obtain ⟨T, hT⟩ : ∃ T : Ending → World → Prop, T = fun e w' => e = .returned (.bool r) ∧ Below w.heap.size w w' := ⟨_, rfl⟩
  have HT := Aside0.mk hT
  rw [← hT]
  clear hT
  have HE2 := Aside0.mk hr0_2
  have HF := Aside0.mk hF
  have HH := Aside0.mk h
  clear hr0_2 hr0_5 hF h hc0_2 hc0_5
  have HA := Aside0.mk (hW2_below w #[.int .i64 a0_0, .int .i64 a0_1, .slice A0_2 l0_2.length c0_2, .float .f64 a0_3, .float .f64 a0_4, .slice A0_5 l0_5.length c0_5] #[.int .i64 a1_0, .int .i64 a1_1, .int .i64 a1_2, .slice A1_3 l1_3.length c1_3, .slice A1_4 l1_4.length c1_4, .slice A1_5 l1_5.length c1_5])
  have g0 : ((w.alloc (.cells #[.int .i64 a0_0, .int .i64 a0_1, .slice A0_2 l0_2.length c0_2, .float .f64 a0_3, .float .f64 a0_4, .slice A0_5 l0_5.length c0_5] 26)).alloc (.cells #[.int .i64 a1_0, .int .i64 a1_1, .int .i64 a1_2, .slice A1_3 l1_3.length c1_3, .slice A1_4 l1_4.length c1_4, .slice A1_5 l1_5.length c1_5] 30)).heap[w.heap.size]? = some (.cells #[.int .i64 a0_0, .int .i64 a0_1, .slice A0_2 l0_2.length c0_2, .float .f64 a0_3, .float .f64 a0_4, .slice A0_5 l0_5.length c0_5] 26 (0, 0)) := aW_b0 w _ _
  have g1 : ((w.alloc (.cells #[.int .i64 a0_0, .int .i64 a0_1, .slice A0_2 l0_2.length c0_2, .float .f64 a0_3, .float .f64 a0_4, .slice A0_5 l0_5.length c0_5] 26)).alloc (.cells #[.int .i64 a1_0, .int .i64 a1_1, .int .i64 a1_2, .slice A1_3 l1_3.length c1_3, .slice A1_4 l1_4.length c1_4, .slice A1_5 l1_5.length c1_5] 30)).heap[w.heap.size + 1]? = some (.cells #[.int .i64 a1_0, .int .i64 a1_1, .int .i64 a1_2, .slice A1_3 l1_3.length c1_3, .slice A1_4 l1_4.length c1_4, .slice A1_5 l1_5.length c1_5] 30 (0, 0)) := aW_b1 w _ _
  obtain ⟨h0, n1, n2, n3, n4, n5⟩ := HH.out
  have b1 : (a0_1 == 1) = false := beq_eq_false_iff_ne.mpr n1
  have b2 : (a0_1 == 2) = false := beq_eq_false_iff_ne.mpr n2
  have b3 : (a0_1 == 3) = false := beq_eq_false_iff_ne.mpr n3
  have b4 : (a0_1 == 4) = false := beq_eq_false_iff_ne.mpr n4
  have b5 : (a0_1 == 5) = false := beq_eq_false_iff_ne.mpr n5
  have HR := Aside0.mk (show r = (realsD l1_5 && (vals l1_5 (l1_5.length / 4)).all fun x => leF a0_3 x && leF x a0_4) from by
    have h := h0.ans
    unfold atomB at h
    rw [if_neg n1, if_neg n2, if_neg n3, if_neg n4, if_neg n5] at h
    exact h.symm)
  have HL := Aside0.mk h0.lg
  have G0 := Aside0.mk g0
  have G1 := Aside0.mk g1
  clear n1 n2 n3 n4 n5 HH h0 g0 g1
  have HC := Aside0.mk (rreals_calls A1_5 c1_5 l1_5 _ (Kd.C_below HF.out.r5 HA.out) HF.out.h5 HL.out)
  go_enter Try.func35, Try.ntmps35
  go_wp2_with fail
  generalize (w.alloc (.cells #[.int .i64 a0_0, .int .i64 a0_1, .slice A0_2 l0_2.length c0_2, .float .f64 a0_3, .float .f64 a0_4, .slice A0_5 l0_5.length c0_5] 26)).alloc (.cells #[.int .i64 a1_0, .int .i64 a1_1, .int .i64 a1_2, .slice A1_3 l1_3.length c1_3, .slice A1_4 l1_4.length c1_4, .slice A1_5 l1_5.length c1_5] 30) = W at HA G0 G1 HC ⊢
  refine HC.out.mono ?_
  rintro e w1 ⟨h | ⟨hn, rfl⟩, hb⟩
  · obtain ⟨hB, v, ys, rfl, ho, hs⟩ := h
    obtain ⟨Av, cv, rfl, hv⟩ := ys_row ho
    have HD := Aside0.mk ((realsD_iff l1_5).2 hB)
    rw [HD.out, Bool.true_and, same4_all hs] at HR
    have HV := Aside0.mk hv
    have HB1 := Aside0.mk (below_step HA.out hb)
    have HY := Aside0.mk (show ys.length ≤ 4000 from by rw [hs.1]; have := HL.out; omega)
    have HG0 := Aside0.mk (blk_below G0.out hb)
    have HG1 := Aside0.mk (blk_below G1.out hb)
    clear hv hb ho hs hB HC HD
    obtain ⟨g, hg⟩ : ∃ g : Nat → Bool, g = fun x => leF a0_3 x && leF x a0_4 := ⟨_, rfl⟩
    rw [← hg] at HR
    have HGG := Aside0.mk hg
    clear hg
    go_wp2_with fail
    go_loopg [8, 9] ys.length (fun gg s8 s9 wr => ∃ (kk : Nat), kk ≤ ys.length ∧ ys.length - kk ≤ gg ∧ s8 = .bool ((ys.take kk).all g) ∧ s9 = .int .i64 (kk : Int) ∧ Aside0 (Below w1.heap.size w1 wr))
    case atStart => exact ⟨0, Nat.zero_le _, by omega, rfl, rfl, ⟨Below.refl _ _⟩⟩
    case round =>
      obtain ⟨kk, hkk, hgg, rfl, rfl, HBr⟩ := hrel
      have hyl := HY.out
      have e3 : wr.cell? ⟨w.heap.size, 3, none⟩ = some (.float .f64 a0_3) := blk_cell (blk_below HG0.out HBr.out) 3
      have e4 : wr.cell? ⟨w.heap.size, 4, none⟩ = some (.float .f64 a0_4) := blk_cell (blk_below HG0.out HBr.out) 4
      by_cases hlt : kk < ys.length
      · have hltz : (kk : Int) < (ys.length : Int) := by omega
        obtain ⟨ad, hA, c0'⟩ := Kd.at_flt (Kd.C_below HV.out HBr.out) (kk : Int) (by omega) (by omega)
        subst hA
        rw [Int.toNat_natCast] at c0'
        have HX := Aside0.mk (show rdOf (0 : Nat) ys (kk : Int) = ys[kk] from by simp [rdOf, List.getD_eq_getElem?_getD, List.getElem?_eq_getElem hlt])
        generalize rdOf (0 : Nat) ys (kk : Int) = x at HX c0'
        have HT1 := Aside0.mk (show (ys.take (kk + 1)).all g = ((ys.take kk).all g && g x) from by
          rw [List.take_succ_eq_append_getElem hlt, List.all_append, ← HX.out]; simp)
        have hl1 : ((kk : Int) < (ys.length : Int)) = True := eq_true hltz
        have hl2 : (kk < ys.length) = True := eq_true hlt
        have t0 := blk_lt (blk_below HG0.out HBr.out)
        have t3 : (ad.add kk).block < wr.heap.size := World.block_lt_of_cell? wr _ c0'
        have HC := Aside0.mk (fun W' (hbW : Below wr.heap.size wr W') => rwithin_calls x a0_3 a0_4 W')
        cases hq : (ys.take kk).all g with
        | true =>
          have HQ := Aside0.mk hq
          clear hq
          go_upto_region 26 with (fail)
          refine reg_start (List.range 13) 13 (fun w' => Below wr.heap.size wr w') (by kernel_rfl) rfl (below_drew1 (Below.refl _ _)) (fun hHeld => ?_)
          generalize wr.drew = V1 at hHeld ⊢
          repeat (first | (refine reg_pure (v := ?_) (a' := ?_) rfl rfl rfl (by kernel_rfl) (fun _ _ _ h => h) (by rfl) ?_ ?_ ?_; rotate_left; (solve | (intro w'; go_simp; with_reducible rfl)); rotate_left; (solve | (simp only [Act.put, List.setIfInBounds_toArray, List.set_cons_zero, List.set_cons_succ, i64_w, i32_w]; rfl))) | (refine reg_skip (a' := ?_) rfl rfl rfl (by rfl) (by kernel_rfl) (fun _ _ _ h => h) ?_ ?_; rotate_left; (solve | (simp only [Act.put, List.setIfInBounds_toArray, List.set_cons_zero, List.set_cons_succ, i64_w, i32_w]; rfl))) | (refine reg_load (v := ?_) (a' := ?_) rfl rfl rfl (by kernel_rfl) (fun _ _ _ h => h) (by rfl) ?_ hHeld ?_ ?_; rotate_left; (solve | (intro w' hb'; obtain ⟨hc', hf'⟩ := bcellA hb'; clear hb'; go_simp; with_reducible rfl)); rotate_left; (solve | (simp only [Act.put, List.setIfInBounds_toArray, List.set_cons_zero, List.set_cons_succ, i64_w, i32_w]; rfl)); intro hHeld))
          refine reg_call rfl rfl rfl (by kernel_rfl) (by rfl) Try.func63 (by kernel_rfl) rfl #[.float .f64 x, .float .f64 a0_3, .float .f64 a0_4] rfl (by (try simp only [List.map_toArray, List.map_cons, List.map_nil]); first | done | rfl) ?_
          refine (HC.out V1 hHeld).mono ?_
          rintro e w5 ⟨rfl, hb⟩
          refine ⟨_, rfl, below_step hHeld hb, fun hHeld => ?_⟩
          rintro a' ha'
          simp only [Act.put, List.setIfInBounds_toArray, List.set_cons_zero, List.set_cons_succ, i64_w, i32_w] at ha'
          subst ha'
          repeat (first | (refine reg_pure (v := ?_) (a' := ?_) rfl rfl rfl (by kernel_rfl) (fun _ _ _ h => h) (by rfl) ?_ ?_ ?_; rotate_left; (solve | (intro w'; go_simp; with_reducible rfl)); rotate_left; (solve | (simp only [Act.put, List.setIfInBounds_toArray, List.set_cons_zero, List.set_cons_succ, i64_w, i32_w]; rfl))) | (refine reg_skip (a' := ?_) rfl rfl rfl (by rfl) (by kernel_rfl) (fun _ _ _ h => h) ?_ ?_; rotate_left; (solve | (simp only [Act.put, List.setIfInBounds_toArray, List.set_cons_zero, List.set_cons_succ, i64_w, i32_w]; rfl))) | (refine reg_load (v := ?_) (a' := ?_) rfl rfl rfl (by kernel_rfl) (fun _ _ _ h => h) (by rfl) ?_ hHeld ?_ ?_; rotate_left; (solve | (intro w' hb'; obtain ⟨hc', hf'⟩ := bcellA hb'; clear hb'; go_simp; with_reducible rfl)); rotate_left; (solve | (simp only [Act.put, List.setIfInBounds_toArray, List.set_cons_zero, List.set_cons_succ, i64_w, i32_w]; rfl)); intro hHeld))
          refine reg_done (by kernel_rfl) ?_
          clear hb
          have HD := Aside0.mk hHeld
          clear hHeld
          go_wp2_with fail
          go_roundg (ys.length - (kk + 1))
          case measure => omega
          case rel => exact ⟨kk + 1, by omega, Nat.le_refl _, by rw [HT1.out, HQ.out, HGG.out, Bool.true_and], by go_num, ⟨below_step HBr.out HD.out⟩⟩
        | false =>
          have HQ := Aside0.mk hq
          clear hq
          go_upto_region 26 with (fail)
          refine reg_start (List.range 13) 13 (fun w' => Below wr.heap.size wr w') (by kernel_rfl) rfl (below_drew1 (Below.refl _ _)) (fun hHeld => ?_)
          generalize wr.drew = V1 at hHeld ⊢
          repeat (first | (refine reg_pure (v := ?_) (a' := ?_) rfl rfl rfl (by kernel_rfl) (fun _ _ _ h => h) (by rfl) ?_ ?_ ?_; rotate_left; (solve | (intro w'; go_simp; with_reducible rfl)); rotate_left; (solve | (simp only [Act.put, List.setIfInBounds_toArray, List.set_cons_zero, List.set_cons_succ, i64_w, i32_w]; rfl))) | (refine reg_skip (a' := ?_) rfl rfl rfl (by rfl) (by kernel_rfl) (fun _ _ _ h => h) ?_ ?_; rotate_left; (solve | (simp only [Act.put, List.setIfInBounds_toArray, List.set_cons_zero, List.set_cons_succ, i64_w, i32_w]; rfl))) | (refine reg_load (v := ?_) (a' := ?_) rfl rfl rfl (by kernel_rfl) (fun _ _ _ h => h) (by rfl) ?_ hHeld ?_ ?_; rotate_left; (solve | (intro w' hb'; obtain ⟨hc', hf'⟩ := bcellA hb'; clear hb'; go_simp; with_reducible rfl)); rotate_left; (solve | (simp only [Act.put, List.setIfInBounds_toArray, List.set_cons_zero, List.set_cons_succ, i64_w, i32_w]; rfl)); intro hHeld))
          refine reg_done (by kernel_rfl) ?_
          have HD := Aside0.mk hHeld
          clear hHeld
          go_wp2_with fail
          go_roundg (ys.length - (kk + 1))
          case measure => omega
          case rel => exact ⟨kk + 1, by omega, Nat.le_refl _, by rw [HT1.out, HQ.out, Bool.false_and], by go_num, ⟨below_step HBr.out HD.out⟩⟩
      · have hkl : kk = ys.length := by omega
        subst hkl
        have hltz : ¬ ((ys.length : Int) < (ys.length : Int)) := by omega
        rw [List.take_length]
        go_wp2_with fail
        rw [HT.out, HR.out]
        exact ⟨rfl, below_step HB1.out HBr.out⟩
  · have HB1 := Aside0.mk (below_step HA.out hb)
    have HD := Aside0.mk (show realsD l1_5 = false from by
      cases h : realsD l1_5 with
      | false => rfl
      | true => exact absurd ((realsD_iff l1_5).1 h) hn)
    rw [HD.out, Bool.false_and] at HR
    clear hb hn
    go_wp2_with fail
    go_loopg [8, 9] 0 (fun gg s8 s9 wr => s8 = .bool false ∧ s9 = .int .i64 0 ∧ Aside0 (Below w1.heap.size w1 wr))
    case atStart => exact ⟨rfl, rfl, ⟨Below.refl _ _⟩⟩
    case round =>
      obtain ⟨rfl, rfl, HBr⟩ := hrel
      go_wp2_with fail
      rw [HT.out, HR.out]
      exact ⟨rfl, below_step HB1.out HBr.out⟩
theorem ratom_calls (a0_0 : Int) (a0_1 : Int) (A0_2 : Option Addr) (c0_2 : Nat) (l0_2 : List (S55)) (a0_3 : Nat) (a0_4 : Nat) (A0_5 : Option Addr) (c0_5 : Nat) (l0_5 : List (S26)) (a1_0 : Int) (a1_1 : Int) (a1_2 : Int) (A1_3 : Option Addr) (c1_3 : Nat) (l1_3 : List (S55)) (A1_4 : Option Addr) (c1_4 : Nat) (l1_4 : List Int) (A1_5 : Option Addr) (c1_5 : Nat) (l1_5 : List Int) (r : Bool) (w : World) (hr0_2 : Kd.C k55 w A0_2 l0_2.length l0_2) (hc0_2 : l0_2.length ≤ c0_2) (hr0_5 : Kd.C k26 w A0_5 l0_5.length l0_5) (hc0_5 : l0_5.length ≤ c0_5) (hr1_3 : Kd.C k55 w A1_3 l1_3.length l1_3) (hc1_3 : l1_3.length ≤ c1_3) (hr1_4 : Kd.C (Kd.int .i64) w A1_4 l1_4.length l1_4) (hc1_4 : l1_4.length ≤ c1_4) (hr1_5 : Kd.C (Kd.int .i64) w A1_5 l1_5.length l1_5) (hc1_5 : l1_5.length ≤ c1_5) (h : atomP a0_0 a0_1 l0_2 a0_3 a0_4 l0_5 a1_0 a1_1 a1_2 l1_3 l1_4 l1_5 = some r) :
    Calls Try.prog 35 #[.agg #[.int .i64 a0_0, .int .i64 a0_1, .slice A0_2 l0_2.length c0_2, .float .f64 a0_3, .float .f64 a0_4, .slice A0_5 l0_5.length c0_5], .agg #[.int .i64 a1_0, .int .i64 a1_1, .int .i64 a1_2, .slice A1_3 l1_3.length c1_3, .slice A1_4 l1_4.length c1_4, .slice A1_5 l1_5.length c1_5]] w fun e w' => e = .returned (.bool r) ∧ Below w.heap.size w w' := by
  have hF : FaC w A1_3 c1_3 l1_3 A1_4 c1_4 l1_4 A1_5 c1_5 l1_5 := ⟨hr1_3, hc1_3, hr1_4, hc1_4, hr1_5, hc1_5⟩
  have ho := atomP_ok h
  by_cases h1 : a0_1 = 1
  · subst h1
    exact ratom_one a0_0 A0_2 c0_2 l0_2 a0_3 a0_4 A0_5 c0_5 l0_5 a1_0 a1_1 a1_2 A1_3 c1_3 l1_3 A1_4 c1_4 l1_4 A1_5 c1_5 l1_5 r w hr0_2 hc0_2 hr0_5 hc0_5 hF ho
  by_cases h2 : a0_1 = 2
  · subst h2
    exact ratom_two a0_0 A0_2 c0_2 l0_2 a0_3 a0_4 A0_5 c0_5 l0_5 a1_0 a1_1 a1_2 A1_3 c1_3 l1_3 A1_4 c1_4 l1_4 A1_5 c1_5 l1_5 r w hr0_2 hc0_2 hr0_5 hc0_5 hF ho
  by_cases h3 : a0_1 = 3
  · subst h3
    exact ratom_three a0_0 A0_2 c0_2 l0_2 a0_3 a0_4 A0_5 c0_5 l0_5 a1_0 a1_1 a1_2 A1_3 c1_3 l1_3 A1_4 c1_4 l1_4 A1_5 c1_5 l1_5 r w hr0_2 hc0_2 hr0_5 hc0_5 hF ho
  by_cases h4 : a0_1 = 4
  · subst h4
    exact ratom_four a0_0 A0_2 c0_2 l0_2 a0_3 a0_4 A0_5 c0_5 l0_5 a1_0 a1_1 a1_2 A1_3 c1_3 l1_3 A1_4 c1_4 l1_4 A1_5 c1_5 l1_5 r w hr0_2 hc0_2 hr0_5 hc0_5 hF ho
  by_cases h5 : a0_1 = 5
  · subst h5
    exact ratom_five a0_0 A0_2 c0_2 l0_2 a0_3 a0_4 A0_5 c0_5 l0_5 a1_0 a1_1 a1_2 A1_3 c1_3 l1_3 A1_4 c1_4 l1_4 A1_5 c1_5 l1_5 r w hr0_2 hc0_2 hr0_5 hc0_5 hF ho
  exact ratom_else a0_0 a0_1 A0_2 c0_2 l0_2 a0_3 a0_4 A0_5 c0_5 l0_5 a1_0 a1_1 a1_2 A1_3 c1_3 l1_3 A1_4 c1_4 l1_4 A1_5 c1_5 l1_5 r w hr0_2 hc0_2 hr0_5 hc0_5 hF ⟨ho, h1, h2, h3, h4, h5⟩
end Go.Proofs.Ytppmcbkcohiodaa.PMeanTells
