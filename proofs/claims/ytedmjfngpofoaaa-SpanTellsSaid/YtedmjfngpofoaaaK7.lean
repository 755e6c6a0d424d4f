/- Texts of this claim, put together (wip/pack.py): SpanDelete, Sort. -/
import Derived.Test.YtedmjfngpofoaaaK6
import Derived.Shelf.SlSortCmp.WholeK
import Derived.Shelf.SlicesE.Clone
import Derived.Shelf.SlGeneric
import Derived.Ground.SlsfProg
import Derived.Ground.SlgnProg
import Derived.Test.YtedmjfngpofoaaaProg
namespace Go.Proofs.Ytedmjfngpofoaaa.PSpanTells
open Go Go.RowKit Go.Proofs.YtedmjfngpofoaaaW.PrintWords Go.Proofs.YtedmjfngpofoaaaW.PrintLast Go.Proofs.Ytedmjfngpofoaaa.Spans
set_option maxHeartbeats 2000000
set_option maxRecDepth 100000
set_option linter.unusedVariables false
set_option linter.unusedSimpArgs false
theorem setL_cells (g : Nat) : ∀ (vs : List Value) (w : World) (i : Nat), setL w g i vs = w.setCells g i vs
  | [], _, _ => rfl
  | v :: r, w, i => setL_cells g r _ (i + 1)
def zerosR (n : Nat) : List Value := List.replicate (n * 2) (.int .i64 0)
theorem run_clearR (w : World) (ty : TypeId) (g i n c : Nat) (hn : 0 < n) (l : List R) (rest : List Value) (h : Own w g l rest) (hl : i + n ≤ l.length) :
    (Builtin.clear_ #[22] ty #[.slice (some ⟨g, i * 2, none⟩) n c]).run Try.prog w = .ok (.tuple #[]) (setL w g (i * 2) (zerosR n)) := by
  have hz : (Builtin.zeroCells (Value.agg #[.int .i64 0, .int .i64 0]).cells n).toList = zerosR n := by
    simp only [Builtin.zeroCells, Value.cells, zerosR]
    apply List.ext_getElem
    · simp
    · intro k h1 h2
      simp only [List.getElem_replicate, Array.getElem_toList]
      simp at h1
      have hk : k % 2 = 0 ∨ k % 2 = 1 := by omega
      rcases hk with hk | hk <;> simp [hk]
  have hv : ∀ w, (zeroValue 26).run Try.prog w = .ok (.agg #[.int .i64 0, .int .i64 0]) w := Try.zeroValue26
  have hlen := flatR_length l
  have hcell : ∀ j, j < n * 2 → w.cell? ⟨g, i * 2 + j, none⟩ = (flatR l)[i * 2 + j]? := fun j hj => by
    rw [blk_cell h, List.getElem?_toArray, List.getElem?_append_left (by rw [hlen]; omega)]
  have hst := run_storeCells_cells (P := Try.prog) g (i * 2) (zerosR n) 0 w (by
      intro j hj
      simp [zerosR] at hj
      rw [Nat.add_zero, hcell j hj, List.getElem?_eq_getElem (by rw [hlen]; omega)]; rfl) (by intro j _; rw [Nat.add_zero]; exact h.frozen _) (by
      intro v hv'
      rw [List.eq_of_mem_replicate hv']; rfl)
  simp only [Nat.add_zero] at hst
  obtain ⟨m, rfl⟩ : ∃ m, n = m + 1 := ⟨n - 1, by omega⟩
  rw [setL_cells]
  simp [Builtin.clear_, run_underlying Try.underlying22, hv, hz, hst]
/-- What a predicate's function tells, wherever. -/
def PredAny (gf : Nat) (p : R → Bool) : Prop := ∀ (W : World) (x : R), Calls Try.prog gf #[.agg #[.int .i64 x.f0, .int .i64 x.f1]] W fun e w' => e = .returned (.bool (p x)) ∧ Below W.heap.size W w'
theorem idxR_spec {α : Type} (p : α → Bool) : ∀ (l : List α) (i : Nat), (idxR p l i = -1 ∧ ∀ x ∈ l, p x = false) ∨ ∃ k, ∃ h : k < l.length, idxR p l i = ((i + k : Nat) : Int) ∧ p l[k] = true ∧ ∀ x ∈ l.take k, p x = false
  | [], i => .inl ⟨rfl, fun x hx => by cases hx⟩
  | y :: l, i => by
    cases hy : p y with
    | true => exact .inr ⟨0, by simp, by rw [idxR, if_pos hy]; rfl, hy, fun x hx => by simp at hx⟩
    | false =>
      rcases idxR_spec p l (i + 1) with ⟨h1, h2⟩ | ⟨k, hk, h1, h2, h3⟩
      · refine .inl ⟨by rw [idxR, if_neg (by rw [hy]; decide), h1], fun x hx => ?_⟩
        rcases List.mem_cons.1 hx with rfl | hx
        · exact hy
        · exact h2 x hx
      · refine .inr ⟨k + 1, by simpa using hk, by rw [idxR, if_neg (by rw [hy]; decide), h1]; omega, by simpa using h2, fun x hx => ?_⟩
        rw [List.take_succ_cons] at hx
        rcases List.mem_cons.1 hx with rfl | hx
        · exact hy
        · exact h3 x hx
theorem below_far {base g : Nat} {w wr w2 : World} (h : Below base w wr) (hb : base ≤ g) (hg : g < wr.heap.size) (h2 : Below wr.heap.size wr w2) : Below base w w2 := h.trans (h2.mono (by omega))
structure Kept (p : R → Bool) (l lk : List R) (i j : Nat) : Prop where
  len : lk.length = l.length
  lt : i < j
  le : j ≤ l.length
  done : lk.take i = (l.take j).filter fun x => !p x
  left : lk.drop j = l.drop j
theorem Kept.skip {p : R → Bool} {l lk : List R} {i j : Nat} (h : Kept p l lk i j) (hj : j < l.length) (hp : p l[j] = true) : Kept p l lk i (j + 1) := by
  refine ⟨h.len, by have := h.lt; omega, hj, ?_, ?_⟩
  · rw [h.done, List.take_succ_eq_append_getElem hj, List.filter_append]
    simp [hp]
  · rw [← List.drop_drop, h.left, List.drop_drop]
theorem Kept.keep {p : R → Bool} {l lk : List R} {i j : Nat} (h : Kept p l lk i j) (hj : j < l.length) (hp : p l[j] = false) : Kept p l (lk.set i l[j]) (i + 1) (j + 1) := by
  have hi : i < lk.length := by have := h.lt; have := h.len; omega
  refine ⟨by rw [List.length_set]; exact h.len, by have := h.lt; omega, hj, ?_, ?_⟩
  · rw [List.take_succ_eq_append_getElem (by rw [List.length_set]; exact hi), List.getElem_set_self, List.take_set_of_le (Nat.le_refl i), h.done, List.take_succ_eq_append_getElem hj, List.filter_append]
    simp [hp]
  · rw [List.drop_set_of_lt (by have := h.lt; omega), ← List.drop_drop, h.left, List.drop_drop]
theorem Kept.at_ {p : R → Bool} {l lk : List R} {i j : Nat} (h : Kept p l lk i j) (hj : j < l.length) : lk[j]'(by rw [h.len]; exact hj) = l[j] := by
  have h1 : (lk.drop j)[0]? = (l.drop j)[0]? := by rw [h.left]
  rw [List.getElem?_drop, List.getElem?_drop, Nat.add_zero, List.getElem?_eq_getElem (by rw [h.len]; exact hj), List.getElem?_eq_getElem hj] at h1
  exact Option.some.inj h1
def DelTold (w : World) (g cap : Nat) (l : List R) (rest : List Value) (p : R → Bool) (e : Ending) (w' : World) : Prop :=
  e = .returned (.slice (some ⟨g, 0, none⟩) (l.filter fun x => !p x).length cap) ∧ (∃ rest', Own w' g (l.filter fun x => !p x) rest' ∧ (flatR (l.filter fun x => !p x) ++ rest').length = (flatR l ++ rest).length) ∧ ∀ base, base ≤ g → Below base w w'
theorem DeleteFuncR (g cap : Nat) (l : List R) (rest : List Value) (gf : Nat) (p : R → Bool) (w : World) (hO : Own w g l rest) (hm : l.length ≤ 1099511627776) (hc : l.length ≤ cap)
    (eg : ∀ args w, (callFunc gf args).run Try.prog w = .ok (.enter gf args) w) (hp : PredAny gf p) :
    Calls Try.prog 34 #[.slice (some ⟨g, 0, none⟩) l.length cap, .func (.func gf) #[] #[]] w (DelTold w g cap l rest p) := by
  have HI := Aside0.mk (IndexFuncR (some ⟨g, 0, none⟩) cap l gf #[] p w (hO.C hm) hm eg (fun W x _ => hp W x))
  have HO := Aside0.mk hO
  have HP := Aside0.mk hp
  obtain ⟨T, hT⟩ : ∃ T, T = DelTold w g cap l rest p := ⟨_, rfl⟩
  have HT := Aside0.mk hT
  rw [← hT]
  clear hO hp hT
  rcases idxR_spec p l 0 with ⟨h1, h2⟩ | ⟨k0, hk0, h1, h2, h3⟩
  · rw [h1] at HI
    have hf : (l.filter fun x => !p x) = l := List.filter_eq_self.2 (fun x hx => by simp [h2 x hx])
    have HF := Aside0.mk hf
    clear h1 h2 hf
    go_enter Try.func34, Try.ntmps34
    go_wp2_with fail
    refine HI.out.mono ?_
    rintro e w1 ⟨rfl, hb⟩
    have HB := Aside0.mk hb
    clear hb
    go_wp2_with fail
    rw [HT.out]
    unfold DelTold
    rw [HF.out]
    exact ⟨rfl, ⟨rest, HO.out.below HB.out, rfl⟩, fun base hb => HB.out.mono (Nat.le_of_lt (Nat.lt_of_le_of_lt hb HO.out.lt))⟩
  · rw [h1, Nat.zero_add] at HI
    have hK : Kept p l l k0 (k0 + 1) := by
      refine ⟨rfl, Nat.lt_succ_self _, hk0, ?_, rfl⟩
      rw [List.take_succ_eq_append_getElem hk0, List.filter_append, List.filter_eq_self.2 (fun x hx => by simp [h3 x hx])]
      simp [h2]
    have HK := Aside0.mk hK
    have hne : ((k0 : Int) == -1) = false := beq_eq_false_iff_ne.2 (by omega)
    clear h1 h2 h3 hK
    go_enter Try.func34, Try.ntmps34
    go_wp2_with fail
    refine HI.out.mono ?_
    rintro e w1 ⟨rfl, hb⟩
    have HB := Aside0.mk hb
    clear hb
    go_wp2_with fail
    go_loopg [5, 6, 7] l.length (fun gg s5 s6 _ wr => ∃ (i j : Nat) (lk : List R), s5 = .int .i64 i ∧ s6 = .int .i64 j ∧ l.length - j ≤ gg ∧ j ≤ l.length ∧ Aside0 (Kept p l lk i j) ∧ Aside0 (Own wr g lk rest) ∧ Aside0 (∀ base, base ≤ g → Below base w wr))
    case atStart => exact ⟨k0, k0 + 1, l, rfl, by go_num, by omega, by omega, HK, ⟨HO.out.below HB.out⟩, ⟨fun base hb => HB.out.mono (Nat.le_of_lt (Nat.lt_of_le_of_lt hb HO.out.lt))⟩⟩
    case round =>
      obtain ⟨i, j, lk, rfl, rfl, hgg, hjl, HKe, HOw, HBe⟩ := hrel
      by_cases hlt : j < l.length
      · have hltz : (j : Int) < (l.length : Int) := by omega
        have hij := HKe.out.lt
        have hll := HKe.out.len
        have c0 := HOw.out.get0 j (by omega)
        have c1 := HOw.out.get1 j (by omega)
        rw [HKe.out.at_ hlt] at c0 c1
        have hgl := HOw.out.lt
        obtain ⟨x, hx⟩ : ∃ x, x = l[j] := ⟨_, rfl⟩
        rw [← hx] at c0 c1
        have HX := Aside0.mk hx
        clear hx
        obtain ⟨x0, x1⟩ := x
        simp only at c0 c1
        obtain ⟨u0, d0⟩ : ∃ u, wr.cell? ⟨g, i * 2, none⟩ = some u := ⟨_, HOw.out.get0 i (by omega)⟩
        obtain ⟨u1, d1⟩ : ∃ u, wr.cell? ⟨g, i * 2 + 1, none⟩ = some u := ⟨_, HOw.out.get1 i (by omega)⟩
        have HN := Aside0.mk (blk_new wr (.cells #[.int .i64 x0, .int .i64 x1] 26))
        have HA := Aside0.mk (below_alloc (Below.refl _ wr) (.cells #[.int .i64 x0, .int .i64 x1] 26))
        have hcall := HP.out (wr.alloc (.cells #[.int .i64 x0, .int .i64 x1] 26)) ⟨x0, x1⟩
        simp only at hcall
        clear hll
        cases hq : p ⟨x0, x1⟩ with
        | false =>
          rw [hq] at hcall
          have HQ := Aside0.mk hq
          clear hq d0 d1
          go_wp2_with fail
          refine hcall.mono ?_
          rintro e w2 ⟨rfl, hw⟩
          have HO2 := Aside0.mk ((HOw.out.below HA.out).below hw)
          have HN2 := Aside0.mk (blk_below HN.out hw)
          have HB2 := Aside0.mk (fun base (hb : base ≤ g) => below_far (HBe.out base hb) hb HOw.out.lt (below_step HA.out hw))
          clear hw hcall c0 c1
          have n0 : w2.cell? ⟨wr.heap.size, 0, none⟩ = some (.int .i64 x0) := blk_cell HN2.out 0
          have n1 : w2.cell? ⟨wr.heap.size, 1, none⟩ = some (.int .i64 x1) := blk_cell HN2.out 1
          obtain ⟨u0, d0⟩ : ∃ u, w2.cell? ⟨g, i * 2, none⟩ = some u := ⟨_, HO2.out.get0 i (by have := HKe.out.len; omega)⟩
          obtain ⟨u1, d1⟩ : ∃ u, w2.cell? ⟨g, i * 2 + 1, none⟩ = some u := ⟨_, HO2.out.get1 i (by have := HKe.out.len; omega)⟩
          have fz := HO2.out.frozen
          go_wp2_with fail
          go_roundg (l.length - (j + 1))
          case measure => omega
          case rel =>
            have hk := HKe.out.keep hlt (by rw [← HX.out]; exact HQ.out)
            rw [← HX.out] at hk
            refine ⟨i + 1, j + 1, lk.set i ⟨x0, x1⟩, by go_num, by go_num, Nat.le_refl _, by omega, ⟨hk⟩, ⟨HO2.out.set i (by have := HKe.out.len; omega) ⟨x0, x1⟩⟩, ⟨fun base hb => ?_⟩⟩
            exact setL_below (g := g) hb [.int .i64 x0, .int .i64 x1] (i * 2) (HB2.out base hb)
        | true =>
          rw [hq] at hcall
          have HQ := Aside0.mk hq
          clear hq d0 d1
          go_wp2_with fail
          refine hcall.mono ?_
          rintro e w2 ⟨rfl, hw⟩
          have HO2 := Aside0.mk ((HOw.out.below HA.out).below hw)
          have HB2 := Aside0.mk (fun base (hb : base ≤ g) => below_far (HBe.out base hb) hb HOw.out.lt (below_step HA.out hw))
          clear hw hcall c0 c1
          go_wp2_with fail
          go_roundg (l.length - (j + 1))
          case measure => omega
          case rel => exact ⟨i, j + 1, lk, rfl, by go_num, Nat.le_refl _, by omega, ⟨HKe.out.skip hlt (by rw [← HX.out]; exact HQ.out)⟩, ⟨HO2.out⟩, ⟨HB2.out⟩⟩
      · obtain rfl : j = l.length := by omega
        have hltz : ¬ (l.length : Int) < (l.length : Int) := by omega
        have hij := HKe.out.lt
        have hll := HKe.out.len
        have hcl : ∀ ty, (Builtin.clear_ #[22] ty #[.slice (some ⟨g, i * 2, none⟩) (l.length - i) (cap - i)]).run Try.prog wr = .ok (.tuple #[]) (setL wr g (i * 2) (zerosR (l.length - i))) := fun ty => run_clearR wr ty g i (l.length - i) (cap - i) (by omega) lk rest HOw.out (by omega)
        have HLL := Aside0.mk hll
        clear hll
        go_wp2_with fail
        rw [HT.out]
        have hll := HLL.out
        have hd := HKe.out.done
        rw [List.take_length] at hd
        have hi : (l.filter fun x => !p x).length = i := by rw [← hd, List.length_take]; omega
        have hO := HOw.out
        have e1 : flatR lk ++ rest = flatR (lk.take i) ++ flatR (lk.drop i) ++ rest := by rw [← flatR_append, List.take_append_drop]
        have hlt : (flatR (lk.take i)).length = i * 2 := by rw [flatR_length, List.length_take]; omega
        have hld : (flatR (lk.drop i)).length = (zerosR (l.length - i)).length := by rw [flatR_length, List.length_drop, hll]; simp [zerosR]
        unfold Own at hO
        rw [e1] at hO
        have h2 := setL_mid (zerosR (l.length - i)) (flatR (lk.drop i)) (flatR (lk.take i)) rest hld hO
        rw [hlt, hd, List.append_assoc] at h2
        refine ⟨by rw [hi], ⟨zerosR (l.length - i) ++ rest, h2, ?_⟩, fun base hb => setL_below (g := g) hb _ _ (HBe.out base hb)⟩
        rw [List.length_append, List.length_append, flatR_length, hi, List.length_append, flatR_length, ← hld, flatR_length, List.length_drop]
        omega
end Go.Proofs.Ytedmjfngpofoaaa.PSpanTells
namespace Go.Proofs
open Go.Shelf
def Try.sortR_ren : Go.Shelf.Ren := ⟨fun | 6 => 37 | 15 => 53 | 14 => 52 | 28 => 77 | 29 => 78 | 20 => 69 | 21 => 70 | 22 => 71 | 23 => 72 | 24 => 73 | 25 => 74 | 26 => 75 | 27 => 76 | 46 => 86 | 47 => 87 | 48 => 88 | 49 => 89 | 50 => 90 | 57 => 97 | n => n, fun | 22 => 22 | 24 => 26 | 25 => 64 | 3 => 3 | 39 => 73 | 0 => 0 | 53 => 92 | 55 => 94 | 4 => 4 | 46 => 85 | 45 => 84 | 50 => 89 | 5 => 5 | 9 => 9 | 66 => 104 | 70 => 108 | 76 => 115 | 77 => 116 | n => n, fun | n => n⟩
theorem Try.sortR : Go.Proofs.SlLaysF0.n6 Try.prog Try.sortR_ren := {
  mixed := by kernel_rfl
  f6 := ⟨Try.f37.name, by decide, Try.func37.trans (congrArg some (by kernel_rfl))⟩
  f14 := ⟨Try.f52.name, by decide, Try.func52.trans (congrArg some (by kernel_rfl))⟩
  f15 := Try.func53.trans (congrArg some (by kernel_rfl))
  f20 := ⟨Try.f69.name, by decide, Try.func69.trans (congrArg some (by kernel_rfl))⟩
  f21 := ⟨Try.f70.name, by decide, Try.func70.trans (congrArg some (by kernel_rfl))⟩
  f22 := ⟨Try.f71.name, by decide, Try.func71.trans (congrArg some (by kernel_rfl))⟩
  f23 := ⟨Try.f72.name, by decide, Try.func72.trans (congrArg some (by kernel_rfl))⟩
  f24 := ⟨Try.f73.name, by decide, Try.func73.trans (congrArg some (by kernel_rfl))⟩
  f25 := ⟨Try.f74.name, by decide, Try.func74.trans (congrArg some (by kernel_rfl))⟩
  f26 := ⟨Try.f75.name, by decide, Try.func75.trans (congrArg some (by kernel_rfl))⟩
  f27 := ⟨Try.f76.name, by decide, Try.func76.trans (congrArg some (by kernel_rfl))⟩
  f28 := Try.func77.trans (congrArg some (by kernel_rfl))
  f29 := Try.func78.trans (congrArg some (by kernel_rfl))
  f46 := ⟨Try.f86.name, by decide, Try.func86.trans (congrArg some (by kernel_rfl))⟩
  f47 := Try.func87.trans (congrArg some (by kernel_rfl))
  f48 := Try.func88.trans (congrArg some (by kernel_rfl))
  f49 := ⟨Try.f89.name, by decide, Try.func89.trans (congrArg some (by kernel_rfl))⟩
  f50 := ⟨Try.f90.name, by decide, Try.func90.trans (congrArg some (by kernel_rfl))⟩
  f57 := ⟨Try.f97.name, by decide, Try.func97.trans (congrArg some (by kernel_rfl))⟩
  t0 := Try.underlying0
  a0 := Try.isAgg0
  z0 := Try.sizeOf0
  v0 := Try.zeroValue0
  t3 := Try.underlying3
  a3 := Try.isAgg3
  z3 := Try.sizeOf3
  v3 := Try.zeroValue3
  t4 := Try.underlying4
  a4 := Try.isAgg4
  z4 := Try.sizeOf4
  v4 := Try.zeroValue4
  t5 := Try.underlying5
  a5 := Try.isAgg5
  z5 := Try.sizeOf5
  v5 := Try.zeroValue5
  t9 := Try.underlying9
  a9 := Try.isAgg9
  z9 := Try.sizeOf9
  v9 := Try.zeroValue9
  t22 := Try.underlying22
  a22 := Try.isAgg22
  z22 := Try.sizeOf22
  v22 := Try.zeroValue22
  t25 := Try.underlying64
  a25 := Try.isAgg64
  z25 := Try.sizeOf64
  v25 := Try.zeroValue64
  t39 := Try.underlying73
  a39 := Try.isAgg73
  z39 := Try.sizeOf73
  v39 := Try.zeroValue73
  t45 := Try.underlying84
  a45 := Try.isAgg84
  z45 := Try.sizeOf84
  v45 := Try.zeroValue84
  t46 := Try.underlying85
  a46 := Try.isAgg85
  z46 := Try.sizeOf85
  v46 := Try.zeroValue85
  t50 := Try.underlying89
  a50 := Try.isAgg89
  z50 := Try.sizeOf89
  v50 := Try.zeroValue89
  t53 := Try.underlying92
  a53 := Try.isAgg92
  z53 := Try.sizeOf92
  v53 := Try.zeroValue92
  t55 := Try.underlying94
  a55 := Try.isAgg94
  z55 := Try.sizeOf94
  v55 := Try.zeroValue94
  t66 := Try.underlying104
  a66 := Try.isAgg104
  z66 := Try.sizeOf104
  v66 := Try.zeroValue104
  t70 := Try.underlying108
  a70 := Try.isAgg108
  z70 := Try.sizeOf108
  v70 := Try.zeroValue108
  t76 := Try.underlying115
  a76 := Try.isAgg115
  z76 := Try.sizeOf115
  v76 := Try.zeroValue115
  t77 := Try.underlying116
  a77 := Try.isAgg116
  z77 := Try.sizeOf116
  v77 := Try.zeroValue116 }
def Try.cloneR_ren : Go.Shelf.Ren := ⟨fun | 41 => 35 | n => n, fun | 22 => 22 | 23 => 26 | 4 => 4 | n => n, fun | n => n⟩
theorem Try.cloneR : Go.Proofs.SlLaysE0.n41 Try.prog Try.cloneR_ren := {
  mixed := by kernel_rfl
  f41 := ⟨Try.f35.name, by decide, Try.func35.trans (congrArg some (by kernel_rfl))⟩
  t4 := Try.underlying4
  a4 := Try.isAgg4
  z4 := Try.sizeOf4
  v4 := Try.zeroValue4
  t22 := Try.underlying22
  a22 := Try.isAgg22
  z22 := Try.sizeOf22
  v22 := Try.zeroValue22 }
end Go.Proofs
