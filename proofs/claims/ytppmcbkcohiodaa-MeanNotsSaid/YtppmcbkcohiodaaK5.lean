/- Texts of this claim, put together (wip/pack.py): SpanOwn, SpanDelete, Sort, SpanSort. -/
import Derived.Test.YtppmcbkcohiodaaK4
import Derived.Test.YtppmcbkcohiodaaK3
import Derived.Lib.SliceRun
import Derived.Shelf.SlSortCmp.WholeK
import Derived.Shelf.SlicesE.Clone
import Derived.Shelf.SlGeneric
import Derived.Ground.SlsfProg
import Derived.Ground.SlgnProg
import Derived.Test.YtppmcbkcohiodaaProg
import Derived.Lib.OwnBridge
namespace Go.Proofs.Ytppmcbkcohiodaa.PMeanTells
open Go Go.RowKit Go.Proofs.YtppmcbkcohiodaaW.PrintWords Go.Proofs.YtppmcbkcohiodaaW.PrintLast Go.Proofs.Ytppmcbkcohiodaa.Spans
set_option maxHeartbeats 2000000
set_option maxRecDepth 100000
set_option linter.unusedVariables false
set_option linter.unusedSimpArgs false
/-- The cells of ranges. -/
def flatR : List R → List Value
  | [] => []
  | x :: l => .int .i64 x.f0 :: .int .i64 x.f1 :: flatR l
theorem flatR_length : ∀ l : List R, (flatR l).length = l.length * 2
  | [] => rfl
  | x :: l => by simp only [flatR, List.length_cons, flatR_length l]; omega
theorem flatR_append : ∀ l m : List R, flatR (l ++ m) = flatR l ++ flatR m
  | [], m => rfl
  | x :: l, m => by simp only [flatR, List.cons_append, flatR_append l m]
theorem flatR_get0 : ∀ (l : List R) (i : Nat) (h : i < l.length), (flatR l)[i * 2]? = some (.int .i64 l[i].f0)
  | x :: l, 0, _ => rfl
  | x :: l, i + 1, h => by
    rw [show (i + 1) * 2 = i * 2 + 1 + 1 from by omega]
    show (flatR l)[i * 2]? = _
    exact flatR_get0 l i (by simpa using h)
theorem flatR_get1 : ∀ (l : List R) (i : Nat) (h : i < l.length), (flatR l)[i * 2 + 1]? = some (.int .i64 l[i].f1)
  | x :: l, 0, _ => rfl
  | x :: l, i + 1, h => by
    rw [show (i + 1) * 2 + 1 = i * 2 + 1 + 1 + 1 from by omega]
    show (flatR l)[i * 2 + 1]? = _
    exact flatR_get1 l i (by simpa using h)
/-- A block that holds ranges, and whatever behind. -/
def Own (w : World) (g : Nat) (l : List R) (rest : List Value) : Prop := w.heap[g]? = some (.cells (flatR l ++ rest).toArray 55 (0, 0))
theorem Own.below {w w' : World} {g : Nat} {l : List R} {rest : List Value} (h : Own w g l rest) (hb : Below w.heap.size w w') : Own w' g l rest := blk_below h hb
theorem Own.lt {w : World} {g : Nat} {l : List R} {rest : List Value} (h : Own w g l rest) : g < w.heap.size := blk_lt h
theorem Own.get0 {w : World} {g : Nat} {l : List R} {rest : List Value} (h : Own w g l rest) (i : Nat) (hi : i < l.length) : w.cell? ⟨g, i * 2, none⟩ = some (.int .i64 l[i].f0) := by
  rw [blk_cell h (i * 2), List.getElem?_toArray, List.getElem?_append_left (by rw [flatR_length]; omega)]
  exact flatR_get0 l i hi
theorem Own.get1 {w : World} {g : Nat} {l : List R} {rest : List Value} (h : Own w g l rest) (i : Nat) (hi : i < l.length) : w.cell? ⟨g, i * 2 + 1, none⟩ = some (.int .i64 l[i].f1) := by
  rw [blk_cell h (i * 2 + 1), List.getElem?_toArray, List.getElem?_append_left (by rw [flatR_length]; omega)]
  exact flatR_get1 l i hi
theorem Own.frozen {w : World} {g : Nat} {l : List R} {rest : List Value} (h : Own w g l rest) (i : Nat) : w.frozen? ⟨g, i, none⟩ = false := blk_frozen h i
theorem Own.C {w : World} {g : Nat} {l : List R} {rest : List Value} (h : Own w g l rest) (hl : l.length ≤ 1099511627776) : Kd.C k55 w (some ⟨g, 0, none⟩) l.length l := by
  refine ⟨rfl, by omega, fun _ => ⟨_, rfl, fun j p hp => ?_⟩⟩
  obtain ⟨hj, rfl⟩ := List.getElem?_eq_some_iff.1 hp
  refine ⟨_, rfl, k55_mk _ _, fun i u hu => ?_⟩
  have ha : (⟨g, 0, none⟩ : Addr).add (j * 2 + i) = ⟨g, j * 2 + i, none⟩ := by
    unfold Addr.add
    split
    · rename_i e; simp only [e]
    · simp
  show w.cell? ((⟨g, 0, none⟩ : Addr).add (j * 2 + i)) = some u
  rw [ha]
  match i, hu with
  | 0, hu => simp at hu; rw [← hu]; exact h.get0 j hj
  | 1, hu => simp at hu; rw [← hu]; exact h.get1 j hj
theorem setL_append {W : World} {g : Nat} : ∀ (a b : List Value) (i : Nat), setL W g i (a ++ b) = setL (setL W g i a) g (i + a.length) b := by
  intro a
  induction a generalizing W with
  | nil => intro b i; rfl
  | cons v a ih =>
    intro b i
    show setL (W.setCell ⟨g, i, none⟩ v) g (i + 1) (a ++ b) = setL (setL (W.setCell ⟨g, i, none⟩ v) g (i + 1) a) g (i + (a.length + 1)) b
    rw [ih, show i + (a.length + 1) = i + 1 + a.length from by omega]
/-- Cells stored in the middle of a block. -/
theorem setL_mid {g : Nat} {t : TypeId} : ∀ (vs us ws zs : List Value) {W : World}, us.length = vs.length → W.heap[g]? = some (.cells (ws ++ us ++ zs).toArray t (0, 0)) → (setL W g ws.length vs).heap[g]? = some (.cells (ws ++ vs ++ zs).toArray t (0, 0))
  | [], us, ws, zs, W, hl, h => by
    have : us = [] := List.length_eq_zero_iff.1 hl
    subst this
    exact h
  | v :: r, us, ws, zs, W, hl, h => by
    obtain ⟨u, us, rfl⟩ : ∃ u us', us = u :: us' := by cases us with | nil => simp at hl | cons u us' => exact ⟨u, us', rfl⟩
    have h' := blk_put h ws.length v rfl
    have e : (ws ++ u :: us ++ zs).toArray.setIfInBounds ws.length v = ((ws ++ [v]) ++ us ++ zs).toArray := by simp
    rw [e] at h'
    have h2 := setL_mid r us (ws ++ [v]) zs (by simpa using hl) h'
    rw [List.length_append] at h2
    rw [show ws ++ v :: r ++ zs = ws ++ [v] ++ r ++ zs from by simp]
    exact h2
theorem Own.set {w : World} {g : Nat} {l : List R} {rest : List Value} (h : Own w g l rest) (i : Nat) (hi : i < l.length) (x : R) : Own (setL w g (i * 2) [.int .i64 x.f0, .int .i64 x.f1]) g (l.set i x) rest := by
  have e : l = l.take i ++ l[i] :: l.drop (i + 1) := by rw [List.getElem_cons_drop, List.take_append_drop]
  have hl : (flatR (l.take i)).length = i * 2 := by rw [flatR_length, List.length_take]; omega
  have e1 : flatR l ++ rest = flatR (l.take i) ++ [.int .i64 l[i].f0, .int .i64 l[i].f1] ++ (flatR (l.drop (i + 1)) ++ rest) := by
    conv => lhs; rw [e, flatR_append]
    simp [flatR]
  have e2 : flatR (l.set i x) ++ rest = flatR (l.take i) ++ [.int .i64 x.f0, .int .i64 x.f1] ++ (flatR (l.drop (i + 1)) ++ rest) := by
    rw [List.set_eq_take_append_cons_drop, if_pos hi, flatR_append]
    simp [flatR]
  unfold Own at h ⊢
  rw [e1] at h
  have h2 := setL_mid [.int .i64 x.f0, .int .i64 x.f1] [.int .i64 l[i].f0, .int .i64 l[i].f1] (flatR (l.take i)) (flatR (l.drop (i + 1)) ++ rest) rfl h
  rw [hl] at h2
  rw [e2]
  exact h2
/-- What a printed row says, as a block. -/
theorem own_of {w : World} {base : Nat} {ok : Nat → Prop} {v : Value} {l : List R} (h : Kd.R k55 55 w base ok v l) : (v = .slice none 0 0 ∧ l = []) ∨ ∃ g cap rest, v = .slice (some ⟨g, 0, none⟩) l.length cap ∧ base ≤ g ∧ ok g ∧ l.length ≤ cap ∧ (flatR l ++ rest).length = cap * 2 ∧ Own w g l rest := by
  obtain ⟨hok, inner, ⟨hi, h | ⟨g, cap, cur, rfl, hg, hh, hc, hm, hs, ht⟩⟩, hr⟩ := h
  · exact .inl ⟨h.1, List.length_eq_zero_iff.1 h.2⟩
  · have e : inner = flatR l := by
      have key : ∀ (l : List R) (inner : List Value), inner.length = l.length * 2 → (∀ j p, l[j]? = some p → k55.M w base (fun k => ok k ∧ some k ≠ (Value.slice (some ⟨g, 0, none⟩) l.length cap).ownBlock) p ((inner.drop (j * 2)).take 2)) → inner = flatR l := by
        intro l
        induction l with
        | nil => intro inner h1 _; exact List.length_eq_zero_iff.1 (by simpa using h1)
        | cons x l ih =>
          intro inner h1 h2
          obtain ⟨a, b, t, rfl⟩ : ∃ a b t, inner = a :: b :: t := by
            match inner, h1 with
            | a :: b :: t, _ => exact ⟨a, b, t, rfl⟩
            | [a], h1 => simp at h1; omega
            | [], h1 => simp at h1
          have h0 := k55_openM (h2 0 x rfl)
          simp at h0
          rw [h0.1, h0.2]
          show _ = _ :: _ :: flatR l
          congr 2
          refine ih t (by simp at h1; omega) (fun j p hp => ?_)
          have := h2 (j + 1) p hp
          rw [show (j + 1) * 2 = j * 2 + 1 + 1 from by omega] at this
          exact this
      exact key l inner hr.1 hr.2
    have ht : cur.toList.take (l.length * 2) = inner := ht
    refine .inr ⟨g, cap, cur.toList.drop (l.length * 2), rfl, hg, hok g rfl, hc, ?_, ?_⟩
    · rw [← e, ← ht, List.take_append_drop]; have hs : cur.size = cap * 2 := hs; simpa using hs
    · unfold Own
      rw [← e, ← ht, List.take_append_drop]
      simpa using hh
/-- slices.Clone over ranges. -/
theorem CloneR (A0 : Option Addr) (c0 : Nat) (l0 : List R) (w : World) (hr0 : Kd.C k55 w A0 l0.length l0) (hm : l0.length ≤ 1099511627776) :
    Calls Try.prog 82 #[.slice A0 l0.length c0] w fun e w' => ∃ v, e = .returned v ∧ Kd.R k55 55 w' w.heap.size (fun _ => True) v l0 ∧ Below w.heap.size w w' := by
  have hnil : ∀ (A : Option Addr) (n c : Nat) (W : World), (binOp .eql 22 (.slice A n c) (.slice none 0 0)).run Try.prog W = .ok (.bool A.isNone) W := fun A n c W => Lib.run_eql_slice_nil W 22 55 A n c 0 0 Try.underlying22
  have HR0 := Aside0.mk hr0
  have HL := Aside0.mk hm
  cases A0 with
  | none =>
    have hz : l0 = [] := by
      cases l0 with
      | nil => rfl
      | cons a t => obtain ⟨ad, he, _⟩ := hr0.2.2 (by simp); cases he
    subst hz
    clear hr0
    go_enter Try.func82, Try.ntmps82
    go_wp2
    go_ret
    exact ⟨_, rfl, Kd.R_nil _ _ _ _ _, Below.refl _ _⟩
  | some ad =>
    clear hr0
    have HE : Aside0 (Kd.R k55 55 (w.alloc (.cells #[] 55)) w.heap.size (fun _ => True) (.slice (some ⟨w.heap.size, 0, none⟩) 0 0) []) :=
      ⟨⟨fun _ _ => trivial, [], ⟨rfl, .inr ⟨w.heap.size, 0, #[], rfl, Nat.le_refl _, blk_new w _, Nat.le_refl _, by unfold maxLen; omega, rfl, rfl⟩⟩, Reps.none _ _⟩⟩
    have HD : Aside0 (Below w.heap.size w (w.alloc (.cells #[] 55))) := ⟨below_alloc (Below.refl _ _) _⟩
    have HC := Aside0.mk (Kd.C_below HR0.out HD.out)
    go_enter Try.func82, Try.ntmps82
    go_wp2_with ((with_reducible refine gate_builtin (b := .append) (xs := #[.tmp 5, .tmp 6]) rfl ?_); at_builtin; go_loud (refine Kd.R_append_rows k55 (Rr := k55.K (w.alloc (.cells #[] 55))) (w0 := w) w.heap.size rfl (.tmp 5) (.tmp 6) 22 55 (.agg #[.int .i64 0, .int .i64 0]) 16 rfl Try.underlying22 info55 rfl (by decide) (by decide) _ [] l0 (some ad) l0.length c0 (fun _ => True) (fun k => k ≠ w.heap.size) rfl rfl HE.out HC.out (fun x cs h => by rw [k55_open h]; exact k55_mkM _ _ _ x) (fun k hk => ⟨trivial, fun e => hk (Option.some.inj e)⟩) (fun _ _ => trivial) HD.out HD.out.size (by have := HL.out; simp; omega) ?_); intro v1 w1 hR hB _ _; have HR1 := Aside0.mk hR; have HB1 := Aside0.mk hB; clear hR hB)
    go_ret
    exact ⟨_, rfl, HR1.out, HB1.out⟩
end Go.Proofs.Ytppmcbkcohiodaa.PMeanTells
namespace Go.Proofs.Ytppmcbkcohiodaa.PMeanTells
open Go Go.RowKit Go.Proofs.YtppmcbkcohiodaaW.PrintWords Go.Proofs.YtppmcbkcohiodaaW.PrintLast Go.Proofs.Ytppmcbkcohiodaa.Spans
set_option maxHeartbeats 2000000
set_option maxRecDepth 100000
set_option linter.unusedVariables false
set_option linter.unusedSimpArgs false
theorem setL_cells (g : Nat) : ∀ (vs : List Value) (w : World) (i : Nat), setL w g i vs = w.setCells g i vs
  | [], _, _ => rfl
  | v :: r, w, i => setL_cells g r _ (i + 1)
def zerosR (n : Nat) : List Value := List.replicate (n * 2) (.int .i64 0)
theorem run_clearR (w : World) (ty : TypeId) (g i n c : Nat) (hn : 0 < n) (l : List R) (rest : List Value) (h : Own w g l rest) (hl : i + n ≤ l.length) :
    (Builtin.clear_ #[22] ty #[.slice (some ⟨g, i * 2, none⟩) n c]).run Try.prog w = .ok (.tuple #[]) (setL w g (i * 2) (zerosR n)) := by
  have hz : (Builtin.zeroCells (Value.agg #[.int .i64 0, .int .i64 0]).cells n).toList = zerosR n := by
    simp only [Builtin.zeroCells, Value.cells, zerosR]
    apply List.ext_getElem
    · simp
    · intro k h1 h2
      simp only [List.getElem_replicate, Array.getElem_toList]
      simp at h1
      have hk : k % 2 = 0 ∨ k % 2 = 1 := by omega
      rcases hk with hk | hk <;> simp [hk]
  have hv : ∀ w, (zeroValue 55).run Try.prog w = .ok (.agg #[.int .i64 0, .int .i64 0]) w := Try.zeroValue55
  have hlen := flatR_length l
  have hcell : ∀ j, j < n * 2 → w.cell? ⟨g, i * 2 + j, none⟩ = (flatR l)[i * 2 + j]? := fun j hj => by
    rw [blk_cell h, List.getElem?_toArray, List.getElem?_append_left (by rw [hlen]; omega)]
  have hst := run_storeCells_cells (P := Try.prog) g (i * 2) (zerosR n) 0 w (by
      intro j hj
      simp [zerosR] at hj
      rw [Nat.add_zero, hcell j hj, List.getElem?_eq_getElem (by rw [hlen]; omega)]; rfl) (by intro j _; rw [Nat.add_zero]; exact h.frozen _) (by
      intro v hv'
      rw [List.eq_of_mem_replicate hv']; rfl)
  simp only [Nat.add_zero] at hst
  obtain ⟨m, rfl⟩ : ∃ m, n = m + 1 := ⟨n - 1, by omega⟩
  rw [setL_cells]
  simp [Builtin.clear_, run_underlying Try.underlying22, hv, hz, hst]
/-- What a predicate's function tells, wherever. -/
def PredAny (gf : Nat) (p : R → Bool) : Prop := ∀ (W : World) (x : R), Calls Try.prog gf #[.agg #[.int .i64 x.f0, .int .i64 x.f1]] W fun e w' => e = .returned (.bool (p x)) ∧ Below W.heap.size W w'
theorem idxR_spec {α : Type} (p : α → Bool) : ∀ (l : List α) (i : Nat), (idxR p l i = -1 ∧ ∀ x ∈ l, p x = false) ∨ ∃ k, ∃ h : k < l.length, idxR p l i = ((i + k : Nat) : Int) ∧ p l[k] = true ∧ ∀ x ∈ l.take k, p x = false
  | [], i => .inl ⟨rfl, fun x hx => by cases hx⟩
  | y :: l, i => by
    cases hy : p y with
    | true => exact .inr ⟨0, by simp, by rw [idxR, if_pos hy]; rfl, hy, fun x hx => by simp at hx⟩
    | false =>
      rcases idxR_spec p l (i + 1) with ⟨h1, h2⟩ | ⟨k, hk, h1, h2, h3⟩
      · refine .inl ⟨by rw [idxR, if_neg (by rw [hy]; decide), h1], fun x hx => ?_⟩
        rcases List.mem_cons.1 hx with rfl | hx
        · exact hy
        · exact h2 x hx
      · refine .inr ⟨k + 1, by simpa using hk, by rw [idxR, if_neg (by rw [hy]; decide), h1]; omega, by simpa using h2, fun x hx => ?_⟩
        rw [List.take_succ_cons] at hx
        rcases List.mem_cons.1 hx with rfl | hx
        · exact hy
        · exact h3 x hx
theorem below_far {base g : Nat} {w wr w2 : World} (h : Below base w wr) (hb : base ≤ g) (hg : g < wr.heap.size) (h2 : Below wr.heap.size wr w2) : Below base w w2 := h.trans (h2.mono (by omega))
structure Kept (p : R → Bool) (l lk : List R) (i j : Nat) : Prop where
  len : lk.length = l.length
  lt : i < j
  le : j ≤ l.length
  done : lk.take i = (l.take j).filter fun x => !p x
  left : lk.drop j = l.drop j
theorem Kept.skip {p : R → Bool} {l lk : List R} {i j : Nat} (h : Kept p l lk i j) (hj : j < l.length) (hp : p l[j] = true) : Kept p l lk i (j + 1) := by
  refine ⟨h.len, by have := h.lt; omega, hj, ?_, ?_⟩
  · rw [h.done, List.take_succ_eq_append_getElem hj, List.filter_append]
    simp [hp]
  · rw [← List.drop_drop, h.left, List.drop_drop]
theorem Kept.keep {p : R → Bool} {l lk : List R} {i j : Nat} (h : Kept p l lk i j) (hj : j < l.length) (hp : p l[j] = false) : Kept p l (lk.set i l[j]) (i + 1) (j + 1) := by
  have hi : i < lk.length := by have := h.lt; have := h.len; omega
  refine ⟨by rw [List.length_set]; exact h.len, by have := h.lt; omega, hj, ?_, ?_⟩
  · rw [List.take_succ_eq_append_getElem (by rw [List.length_set]; exact hi), List.getElem_set_self, List.take_set_of_le (Nat.le_refl i), h.done, List.take_succ_eq_append_getElem hj, List.filter_append]
    simp [hp]
  · rw [List.drop_set_of_lt (by have := h.lt; omega), ← List.drop_drop, h.left, List.drop_drop]
theorem Kept.at_ {p : R → Bool} {l lk : List R} {i j : Nat} (h : Kept p l lk i j) (hj : j < l.length) : lk[j]'(by rw [h.len]; exact hj) = l[j] := by
  have h1 : (lk.drop j)[0]? = (l.drop j)[0]? := by rw [h.left]
  rw [List.getElem?_drop, List.getElem?_drop, Nat.add_zero, List.getElem?_eq_getElem (by rw [h.len]; exact hj), List.getElem?_eq_getElem hj] at h1
  exact Option.some.inj h1
def DelTold (w : World) (g cap : Nat) (l : List R) (rest : List Value) (p : R → Bool) (e : Ending) (w' : World) : Prop :=
  e = .returned (.slice (some ⟨g, 0, none⟩) (l.filter fun x => !p x).length cap) ∧ (∃ rest', Own w' g (l.filter fun x => !p x) rest' ∧ (flatR (l.filter fun x => !p x) ++ rest').length = (flatR l ++ rest).length) ∧ ∀ base, base ≤ g → Below base w w'
theorem DeleteFuncR (g cap : Nat) (l : List R) (rest : List Value) (gf : Nat) (p : R → Bool) (w : World) (hO : Own w g l rest) (hm : l.length ≤ 1099511627776) (hc : l.length ≤ cap)
    (eg : ∀ args w, (callFunc gf args).run Try.prog w = .ok (.enter gf args) w) (hp : PredAny gf p) :
    Calls Try.prog 81 #[.slice (some ⟨g, 0, none⟩) l.length cap, .func (.func gf) #[] #[]] w (DelTold w g cap l rest p) := by
  have HI := Aside0.mk (IndexFuncR (some ⟨g, 0, none⟩) cap l gf #[] p w (hO.C hm) hm eg (fun W x _ => hp W x))
  have HO := Aside0.mk hO
  have HP := Aside0.mk hp
  obtain ⟨T, hT⟩ : ∃ T, T = DelTold w g cap l rest p := ⟨_, rfl⟩
  have HT := Aside0.mk hT
  rw [← hT]
  clear hO hp hT
  rcases idxR_spec p l 0 with ⟨h1, h2⟩ | ⟨k0, hk0, h1, h2, h3⟩
  · rw [h1] at HI
    have hf : (l.filter fun x => !p x) = l := List.filter_eq_self.2 (fun x hx => by simp [h2 x hx])
    have HF := Aside0.mk hf
    clear h1 h2 hf
    go_enter Try.func81, Try.ntmps81
    go_wp2_with fail
    refine HI.out.mono ?_
    rintro e w1 ⟨rfl, hb⟩
    have HB := Aside0.mk hb
    clear hb
    go_wp2_with fail
    rw [HT.out]
    unfold DelTold
    rw [HF.out]
    exact ⟨rfl, ⟨rest, HO.out.below HB.out, rfl⟩, fun base hb => HB.out.mono (Nat.le_of_lt (Nat.lt_of_le_of_lt hb HO.out.lt))⟩
  · rw [h1, Nat.zero_add] at HI
    have hK : Kept p l l k0 (k0 + 1) := by
      refine ⟨rfl, Nat.lt_succ_self _, hk0, ?_, rfl⟩
      rw [List.take_succ_eq_append_getElem hk0, List.filter_append, List.filter_eq_self.2 (fun x hx => by simp [h3 x hx])]
      simp [h2]
    have HK := Aside0.mk hK
    have hne : ((k0 : Int) == -1) = false := beq_eq_false_iff_ne.2 (by omega)
    clear h1 h2 h3 hK
    go_enter Try.func81, Try.ntmps81
    go_wp2_with fail
    refine HI.out.mono ?_
    rintro e w1 ⟨rfl, hb⟩
    have HB := Aside0.mk hb
    clear hb
    go_wp2_with fail
    go_loopg [5, 6, 7] l.length (fun gg s5 s6 _ wr => ∃ (i j : Nat) (lk : List R), s5 = .int .i64 i ∧ s6 = .int .i64 j ∧ l.length - j ≤ gg ∧ j ≤ l.length ∧ Aside0 (Kept p l lk i j) ∧ Aside0 (Own wr g lk rest) ∧ Aside0 (∀ base, base ≤ g → Below base w wr))
    case atStart => exact ⟨k0, k0 + 1, l, rfl, by go_num, by omega, by omega, HK, ⟨HO.out.below HB.out⟩, ⟨fun base hb => HB.out.mono (Nat.le_of_lt (Nat.lt_of_le_of_lt hb HO.out.lt))⟩⟩
    case round =>
      obtain ⟨i, j, lk, rfl, rfl, hgg, hjl, HKe, HOw, HBe⟩ := hrel
      by_cases hlt : j < l.length
      · have hltz : (j : Int) < (l.length : Int) := by omega
        have hij := HKe.out.lt
        have hll := HKe.out.len
        have c0 := HOw.out.get0 j (by omega)
        have c1 := HOw.out.get1 j (by omega)
        rw [HKe.out.at_ hlt] at c0 c1
        have hgl := HOw.out.lt
        obtain ⟨x, hx⟩ : ∃ x, x = l[j] := ⟨_, rfl⟩
        rw [← hx] at c0 c1
        have HX := Aside0.mk hx
        clear hx
        obtain ⟨x0, x1⟩ := x
        simp only at c0 c1
        obtain ⟨u0, d0⟩ : ∃ u, wr.cell? ⟨g, i * 2, none⟩ = some u := ⟨_, HOw.out.get0 i (by omega)⟩
        obtain ⟨u1, d1⟩ : ∃ u, wr.cell? ⟨g, i * 2 + 1, none⟩ = some u := ⟨_, HOw.out.get1 i (by omega)⟩
        have HN := Aside0.mk (blk_new wr (.cells #[.int .i64 x0, .int .i64 x1] 55))
        have HA := Aside0.mk (below_alloc (Below.refl _ wr) (.cells #[.int .i64 x0, .int .i64 x1] 55))
        have hcall := HP.out (wr.alloc (.cells #[.int .i64 x0, .int .i64 x1] 55)) ⟨x0, x1⟩
        simp only at hcall
        clear hll
        cases hq : p ⟨x0, x1⟩ with
        | false =>
          rw [hq] at hcall
          have HQ := Aside0.mk hq
          clear hq d0 d1
          go_wp2_with fail
          refine hcall.mono ?_
          rintro e w2 ⟨rfl, hw⟩
          have HO2 := Aside0.mk ((HOw.out.below HA.out).below hw)
          have HN2 := Aside0.mk (blk_below HN.out hw)
          have HB2 := Aside0.mk (fun base (hb : base ≤ g) => below_far (HBe.out base hb) hb HOw.out.lt (below_step HA.out hw))
          clear hw hcall c0 c1
          have n0 : w2.cell? ⟨wr.heap.size, 0, none⟩ = some (.int .i64 x0) := blk_cell HN2.out 0
          have n1 : w2.cell? ⟨wr.heap.size, 1, none⟩ = some (.int .i64 x1) := blk_cell HN2.out 1
          obtain ⟨u0, d0⟩ : ∃ u, w2.cell? ⟨g, i * 2, none⟩ = some u := ⟨_, HO2.out.get0 i (by have := HKe.out.len; omega)⟩
          obtain ⟨u1, d1⟩ : ∃ u, w2.cell? ⟨g, i * 2 + 1, none⟩ = some u := ⟨_, HO2.out.get1 i (by have := HKe.out.len; omega)⟩
          have fz := HO2.out.frozen
          go_wp2_with fail
          go_roundg (l.length - (j + 1))
          case measure => omega
          case rel =>
            have hk := HKe.out.keep hlt (by rw [← HX.out]; exact HQ.out)
            rw [← HX.out] at hk
            refine ⟨i + 1, j + 1, lk.set i ⟨x0, x1⟩, by go_num, by go_num, Nat.le_refl _, by omega, ⟨hk⟩, ⟨HO2.out.set i (by have := HKe.out.len; omega) ⟨x0, x1⟩⟩, ⟨fun base hb => ?_⟩⟩
            exact setL_below (g := g) hb [.int .i64 x0, .int .i64 x1] (i * 2) (HB2.out base hb)
        | true =>
          rw [hq] at hcall
          have HQ := Aside0.mk hq
          clear hq d0 d1
          go_wp2_with fail
          refine hcall.mono ?_
          rintro e w2 ⟨rfl, hw⟩
          have HO2 := Aside0.mk ((HOw.out.below HA.out).below hw)
          have HB2 := Aside0.mk (fun base (hb : base ≤ g) => below_far (HBe.out base hb) hb HOw.out.lt (below_step HA.out hw))
          clear hw hcall c0 c1
          go_wp2_with fail
          go_roundg (l.length - (j + 1))
          case measure => omega
          case rel => exact ⟨i, j + 1, lk, rfl, by go_num, Nat.le_refl _, by omega, ⟨HKe.out.skip hlt (by rw [← HX.out]; exact HQ.out)⟩, ⟨HO2.out⟩, ⟨HB2.out⟩⟩
      · obtain rfl : j = l.length := by omega
        have hltz : ¬ (l.length : Int) < (l.length : Int) := by omega
        have hij := HKe.out.lt
        have hll := HKe.out.len
        have hcl : ∀ ty, (Builtin.clear_ #[22] ty #[.slice (some ⟨g, i * 2, none⟩) (l.length - i) (cap - i)]).run Try.prog wr = .ok (.tuple #[]) (setL wr g (i * 2) (zerosR (l.length - i))) := fun ty => run_clearR wr ty g i (l.length - i) (cap - i) (by omega) lk rest HOw.out (by omega)
        have HLL := Aside0.mk hll
        clear hll
        go_wp2_with fail
        rw [HT.out]
        have hll := HLL.out
        have hd := HKe.out.done
        rw [List.take_length] at hd
        have hi : (l.filter fun x => !p x).length = i := by rw [← hd, List.length_take]; omega
        have hO := HOw.out
        have e1 : flatR lk ++ rest = flatR (lk.take i) ++ flatR (lk.drop i) ++ rest := by rw [← flatR_append, List.take_append_drop]
        have hlt : (flatR (lk.take i)).length = i * 2 := by rw [flatR_length, List.length_take]; omega
        have hld : (flatR (lk.drop i)).length = (zerosR (l.length - i)).length := by rw [flatR_length, List.length_drop, hll]; simp [zerosR]
        unfold Own at hO
        rw [e1] at hO
        have h2 := setL_mid (zerosR (l.length - i)) (flatR (lk.drop i)) (flatR (lk.take i)) rest hld hO
        rw [hlt, hd, List.append_assoc] at h2
        refine ⟨by rw [hi], ⟨zerosR (l.length - i) ++ rest, h2, ?_⟩, fun base hb => setL_below (g := g) hb _ _ (HBe.out base hb)⟩
        rw [List.length_append, List.length_append, flatR_length, hi, List.length_append, flatR_length, ← hld, flatR_length, List.length_drop]
        omega
end Go.Proofs.Ytppmcbkcohiodaa.PMeanTells
namespace Go.Proofs
open Go.Shelf
def Try.sortR_ren : Go.Shelf.Ren := ⟨fun | 6 => 84 | 15 => 94 | 14 => 93 | 28 => 104 | 29 => 105 | 20 => 96 | 21 => 97 | 22 => 98 | 23 => 99 | 24 => 100 | 25 => 101 | 26 => 102 | 27 => 103 | 46 => 106 | 47 => 107 | 48 => 108 | 49 => 109 | 50 => 110 | 57 => 111 | n => n, fun | 22 => 22 | 24 => 55 | 25 => 101 | 3 => 3 | 39 => 104 | 0 => 0 | 53 => 121 | 55 => 103 | 4 => 4 | 46 => 114 | 45 => 113 | 50 => 118 | 5 => 5 | 9 => 9 | 66 => 123 | 70 => 127 | 76 => 129 | 77 => 64 | n => n, fun | n => n⟩
theorem Try.sortR : Go.Proofs.SlLaysF0.n6 Try.prog Try.sortR_ren := {
  mixed := by kernel_rfl
  f6 := ⟨Try.f84.name, by decide, Try.func84.trans (congrArg some (by kernel_rfl))⟩
  f14 := ⟨Try.f93.name, by decide, Try.func93.trans (congrArg some (by kernel_rfl))⟩
  f15 := Try.func94.trans (congrArg some (by kernel_rfl))
  f20 := ⟨Try.f96.name, by decide, Try.func96.trans (congrArg some (by kernel_rfl))⟩
  f21 := ⟨Try.f97.name, by decide, Try.func97.trans (congrArg some (by kernel_rfl))⟩
  f22 := ⟨Try.f98.name, by decide, Try.func98.trans (congrArg some (by kernel_rfl))⟩
  f23 := ⟨Try.f99.name, by decide, Try.func99.trans (congrArg some (by kernel_rfl))⟩
  f24 := ⟨Try.f100.name, by decide, Try.func100.trans (congrArg some (by kernel_rfl))⟩
  f25 := ⟨Try.f101.name, by decide, Try.func101.trans (congrArg some (by kernel_rfl))⟩
  f26 := ⟨Try.f102.name, by decide, Try.func102.trans (congrArg some (by kernel_rfl))⟩
  f27 := ⟨Try.f103.name, by decide, Try.func103.trans (congrArg some (by kernel_rfl))⟩
  f28 := Try.func104.trans (congrArg some (by kernel_rfl))
  f29 := Try.func105.trans (congrArg some (by kernel_rfl))
  f46 := ⟨Try.f106.name, by decide, Try.func106.trans (congrArg some (by kernel_rfl))⟩
  f47 := Try.func107.trans (congrArg some (by kernel_rfl))
  f48 := Try.func108.trans (congrArg some (by kernel_rfl))
  f49 := ⟨Try.f109.name, by decide, Try.func109.trans (congrArg some (by kernel_rfl))⟩
  f50 := ⟨Try.f110.name, by decide, Try.func110.trans (congrArg some (by kernel_rfl))⟩
  f57 := ⟨Try.f111.name, by decide, Try.func111.trans (congrArg some (by kernel_rfl))⟩
  t0 := Try.underlying0
  a0 := Try.isAgg0
  z0 := Try.sizeOf0
  v0 := Try.zeroValue0
  t3 := Try.underlying3
  a3 := Try.isAgg3
  z3 := Try.sizeOf3
  v3 := Try.zeroValue3
  t4 := Try.underlying4
  a4 := Try.isAgg4
  z4 := Try.sizeOf4
  v4 := Try.zeroValue4
  t5 := Try.underlying5
  a5 := Try.isAgg5
  z5 := Try.sizeOf5
  v5 := Try.zeroValue5
  t9 := Try.underlying9
  a9 := Try.isAgg9
  z9 := Try.sizeOf9
  v9 := Try.zeroValue9
  t22 := Try.underlying22
  a22 := Try.isAgg22
  z22 := Try.sizeOf22
  v22 := Try.zeroValue22
  t25 := Try.underlying101
  a25 := Try.isAgg101
  z25 := Try.sizeOf101
  v25 := Try.zeroValue101
  t39 := Try.underlying104
  a39 := Try.isAgg104
  z39 := Try.sizeOf104
  v39 := Try.zeroValue104
  t45 := Try.underlying113
  a45 := Try.isAgg113
  z45 := Try.sizeOf113
  v45 := Try.zeroValue113
  t46 := Try.underlying114
  a46 := Try.isAgg114
  z46 := Try.sizeOf114
  v46 := Try.zeroValue114
  t50 := Try.underlying118
  a50 := Try.isAgg118
  z50 := Try.sizeOf118
  v50 := Try.zeroValue118
  t53 := Try.underlying121
  a53 := Try.isAgg121
  z53 := Try.sizeOf121
  v53 := Try.zeroValue121
  t55 := Try.underlying103
  a55 := Try.isAgg103
  z55 := Try.sizeOf103
  v55 := Try.zeroValue103
  t66 := Try.underlying123
  a66 := Try.isAgg123
  z66 := Try.sizeOf123
  v66 := Try.zeroValue123
  t70 := Try.underlying127
  a70 := Try.isAgg127
  z70 := Try.sizeOf127
  v70 := Try.zeroValue127
  t76 := Try.underlying129
  a76 := Try.isAgg129
  z76 := Try.sizeOf129
  v76 := Try.zeroValue129
  t77 := Try.underlying64
  a77 := Try.isAgg64
  z77 := Try.sizeOf64
  v77 := Try.zeroValue64 }
def Try.cloneR_ren : Go.Shelf.Ren := ⟨fun | 41 => 82 | n => n, fun | 22 => 22 | 23 => 55 | 4 => 4 | n => n, fun | n => n⟩
theorem Try.cloneR : Go.Proofs.SlLaysE0.n41 Try.prog Try.cloneR_ren := {
  mixed := by kernel_rfl
  f41 := ⟨Try.f82.name, by decide, Try.func82.trans (congrArg some (by kernel_rfl))⟩
  t4 := Try.underlying4
  a4 := Try.isAgg4
  z4 := Try.sizeOf4
  v4 := Try.zeroValue4
  t22 := Try.underlying22
  a22 := Try.isAgg22
  z22 := Try.sizeOf22
  v22 := Try.zeroValue22 }
end Go.Proofs
namespace Go.Proofs.Ytppmcbkcohiodaa.PMeanTells
open Go Go.RowKit Go.Proofs.YtppmcbkcohiodaaW.PrintWords Go.Proofs.YtppmcbkcohiodaaW.PrintLast Go.Proofs.Ytppmcbkcohiodaa.Spans
set_option maxHeartbeats 2000000
set_option maxRecDepth 100000
set_option linter.unusedVariables false
set_option linter.unusedSimpArgs false
instance : Inhabited R := ⟨z55⟩
def encR (x : R) : List Value := [.int .i64 x.f0, .int .i64 x.f1]
def cfR (x y : R) : Int := if x.f0 < y.f0 then -1 else if y.f0 < x.f0 then 1 else 0
theorem ltR (x y : R) : ltOf cfR x y = decide (x.f0 < y.f0) := by
  unfold ltOf cfR
  by_cases h1 : x.f0 < y.f0
  · simp [h1]
  · by_cases h2 : y.f0 < x.f0 <;> simp [h1, h2]
theorem swoR : Sort.SWO (ltOf cfR) where
  irrefl x := by rw [ltR]; simp
  trans x y z h1 h2 := by rw [ltR] at *; simp at *; omega
  ntrans x y z h1 h2 := by rw [ltR] at *; simp at *; omega
theorem closure2 (x y : R) (W : World) : Calls Try.prog 85 #[.agg #[.int .i64 x.f0, .int .i64 x.f1], .agg #[.int .i64 y.f0, .int .i64 y.f1]] W fun e w' => e = .returned (.int .i64 (cfR x y)) ∧ ∃ q os', w' = Sort.grow (W.drewN q) os' := by
  obtain ⟨x0, x1⟩ := x
  obtain ⟨y0, y1⟩ := y
  unfold cfR
  simp only
  have hW : ∀ o1 o2 : Obj, (W.alloc o1).alloc o2 = Sort.grow (W.drewN 0) #[o1, o2] := fun o1 o2 => by
    rw [Sort.alloc_eq_grow, Sort.alloc_eq_grow, Sort.grow_grow]; rfl
  have HW := Aside0.mk hW
  clear hW
  by_cases h1 : x0 < y0
  · rw [if_pos h1]
    go_enter Try.func85, Try.ntmps85
    go_wp2
    go_ret
    exact ⟨rfl, 0, _, HW.out _ _⟩
  · rw [if_neg h1]
    by_cases h2 : y0 < x0
    · rw [if_pos h2]
      go_enter Try.func85, Try.ntmps85
      go_wp2
      go_ret
      exact ⟨rfl, 0, _, HW.out _ _⟩
    · rw [if_neg h2]
      go_enter Try.func85, Try.ntmps85
      go_wp2
      go_ret
      exact ⟨rfl, 0, _, HW.out _ _⟩
theorem get_bang (l : List R) (i : Nat) (h : i < l.length) : l.toArray[i]! = l[i] := by
  rw [getElem!_pos l.toArray i (by simpa using h)]; simp
theorem holds_of {w : World} {g : Nat} {l : List R} {rest : List Value} (h : Own w g l rest) : Sort.HoldsK encR 2 w g 0 l.toArray := by
  intro j hj
  rw [Sort.size_flatK] at hj
  have hj' : j < l.length * 2 := by simpa using hj
  rw [Nat.zero_add, Sort.get_flatK _ _ _ _ hj, get_bang l (j / 2) (by omega)]
  refine ⟨?_, h.frozen j⟩
  have hk : j % 2 = 0 ∨ j % 2 = 1 := by omega
  rcases hk with hk | hk
  · have := h.get0 (j / 2) (by omega)
    rw [show j / 2 * 2 = j from by omega] at this
    rw [this, hk]; rfl
  · have := h.get1 (j / 2) (by omega)
    rw [show j / 2 * 2 + 1 = j from by omega] at this
    rw [this, hk]; rfl
theorem holds_C {w : World} {g : Nat} {d : Array R} (h : Sort.HoldsK encR 2 w g 0 d) (hl : d.size ≤ 1099511627776) : Kd.C k55 w (some ⟨g, 0, none⟩) d.size d.toList := by
  refine ⟨by simp, by omega, fun _ => ⟨_, rfl, fun j p hp => ?_⟩⟩
  obtain ⟨hj, rfl⟩ := List.getElem?_eq_some_iff.1 hp
  have hj' : j < d.size := by simpa using hj
  refine ⟨_, rfl, k55_mk _ _, fun i u hu => ?_⟩
  have ha : (⟨g, 0, none⟩ : Addr).add (j * 2 + i) = ⟨g, j * 2 + i, none⟩ := by
    unfold Addr.add
    split
    · rename_i e; simp only [e]
    · simp
  show w.cell? ((⟨g, 0, none⟩ : Addr).add (j * 2 + i)) = some u
  rw [ha]
  have hi : i < 2 := by
    match i, hu with
    | 0, _ => omega
    | 1, _ => omega
    | i + 2, hu => simp at hu
  have h1 := (h (j * 2 + i) (by rw [Sort.size_flatK]; omega)).1
  rw [Nat.zero_add, Sort.get_flatK _ _ _ _ (by omega), show (j * 2 + i) / 2 = j from by omega, show (j * 2 + i) % 2 = i from by omega, getElem!_pos d j hj'] at h1
  rw [h1]
  match i, hu with
  | 0, hu => simpa [encR] using hu
  | 1, hu => simpa [encR] using hu
theorem below_sort {g : Nat} {w : World} (hg : g < w.heap.size) (n : Nat) (d : Array R) (os : Array Obj) (base : Nat) (hb : base ≤ g) : Below base w (sortWorldK encR 2 w g 0 n d os) := by
  have h1 : Below base w (Sort.putRow id (Sort.ahead w n) g 0 (Sort.flatK encR 2 d)) := Lib.below_putRow (Below.refl base w) hb
  unfold sortWorldK Sort.putRowK
  refine h1.trans ⟨rfl, rfl, rfl, by simp [Sort.grow], fun k hk => ?_⟩
  show (_ ++ os)[k]? = _
  rw [Array.getElem?_append_left (by rw [Sort.size_putRow]; exact Nat.lt_trans (Nat.lt_of_lt_of_le hk hb) hg)]
/-- Sorted by the lower ends. -/
theorem SortFuncR (g cap : Nat) (l : List R) (rest : List Value) (w : World) (hO : Own w g l rest) (hm : l.length ≤ 1099511627776) :
    Calls Try.prog 84 #[.slice (some ⟨g, 0, none⟩) l.length cap, .func (.func 85) #[] #[]] w fun e w' =>
      e = .returned (.tuple #[]) ∧ ∃ s : List R, s.length = l.length ∧ s.Perm l ∧ s.Pairwise (fun a b => a.f0 ≤ b.f0) ∧ Kd.C k55 w' (some ⟨g, 0, none⟩) s.length s ∧ ∀ base, base ≤ g → Below base w w' := by
  have eg : ∀ args w, (callFunc 85 args).run Try.prog w = .ok (.enter 85 args) w := fun args w => enters_ Try.func85 (by kernel_rfl) rfl args w
  have hcon := AnyQ.slices_SortFunc Try.sortR 2 Try.isAgg55 Try.sizeOf55 encR (fun _ => rfl) (fun x v hv => by simp [encR] at hv; rcases hv with rfl | rfl <;> rfl) cfR swoR 85 #[] g 0 cap l.toArray w eg (fun _ _ _ _ x y => closure2 x y _) (holds_of hO) hO.lt (by simp; omega)
  have hsz : l.toArray.size = l.length := by simp
  rw [hsz] at hcon
  refine hcon.mono ?_
  rintro e w' ⟨he, d, n, os, hp, hs, rfl⟩
  have hd : d.size = l.length := by rw [hp.1]; simp
  have hperm : d.toList.Perm l := by
    have h := hp.2.2
    rw [Array.extract_eq_self_of_le (by omega), Array.extract_eq_self_of_le (by simp)] at h
    simpa using h
  have hH := holdsK_sortWorldK_c encR 2 w g 0 l.toArray d n os (holds_of hO) hO.lt (by rw [hd]; simp)
  have hC := holds_C hH (by omega)
  refine ⟨he, d.toList, by simpa using hd, hperm, ?_, by simpa using hC, fun base hb => below_sort hO.lt n d os base hb⟩
  rw [List.pairwise_iff_getElem]
  intro i j hi hj hij
  have h := hs i j (Nat.zero_le _) hij (by simpa [hd] using hj)
  rw [ltR, getElem!_pos d i (by simpa using hi), getElem!_pos d j (by simpa using hj)] at h
  simpa using h
end Go.Proofs.Ytppmcbkcohiodaa.PMeanTells
