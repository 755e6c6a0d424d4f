/- Texts of this claim, put together (wip/pack.py): SpanOwn. -/
import Derived.Test.YtedmjfngpofoaaaK4
import Derived.Test.YtedmjfngpofoaaaK5
import Derived.Lib.SliceRun
namespace Go.Proofs.Ytedmjfngpofoaaa.PSpanTells
open Go Go.RowKit Go.Proofs.YtedmjfngpofoaaaW.PrintWords Go.Proofs.YtedmjfngpofoaaaW.PrintLast Go.Proofs.Ytedmjfngpofoaaa.Spans
set_option maxHeartbeats 2000000
set_option maxRecDepth 100000
set_option linter.unusedVariables false
set_option linter.unusedSimpArgs false
/-- The cells of ranges. -/
def flatR : List R → List Value
  | [] => []
  | x :: l => .int .i64 x.f0 :: .int .i64 x.f1 :: flatR l
theorem flatR_length : ∀ l : List R, (flatR l).length = l.length * 2
  | [] => rfl
  | x :: l => by simp only [flatR, List.length_cons, flatR_length l]; omega
theorem flatR_append : ∀ l m : List R, flatR (l ++ m) = flatR l ++ flatR m
  | [], m => rfl
  | x :: l, m => by simp only [flatR, List.cons_append, flatR_append l m]
theorem flatR_get0 : ∀ (l : List R) (i : Nat) (h : i < l.length), (flatR l)[i * 2]? = some (.int .i64 l[i].f0)
  | x :: l, 0, _ => rfl
  | x :: l, i + 1, h => by
    rw [show (i + 1) * 2 = i * 2 + 1 + 1 from by omega]
    show (flatR l)[i * 2]? = _
    exact flatR_get0 l i (by simpa using h)
theorem flatR_get1 : ∀ (l : List R) (i : Nat) (h : i < l.length), (flatR l)[i * 2 + 1]? = some (.int .i64 l[i].f1)
  | x :: l, 0, _ => rfl
  | x :: l, i + 1, h => by
    rw [show (i + 1) * 2 + 1 = i * 2 + 1 + 1 + 1 from by omega]
    show (flatR l)[i * 2 + 1]? = _
    exact flatR_get1 l i (by simpa using h)
/-- A block that holds ranges, and whatever behind. -/
def Own (w : World) (g : Nat) (l : List R) (rest : List Value) : Prop := w.heap[g]? = some (.cells (flatR l ++ rest).toArray 26 (0, 0))
theorem Own.below {w w' : World} {g : Nat} {l : List R} {rest : List Value} (h : Own w g l rest) (hb : Below w.heap.size w w') : Own w' g l rest := blk_below h hb
theorem Own.lt {w : World} {g : Nat} {l : List R} {rest : List Value} (h : Own w g l rest) : g < w.heap.size := blk_lt h
theorem Own.get0 {w : World} {g : Nat} {l : List R} {rest : List Value} (h : Own w g l rest) (i : Nat) (hi : i < l.length) : w.cell? ⟨g, i * 2, none⟩ = some (.int .i64 l[i].f0) := by
  rw [blk_cell h (i * 2), List.getElem?_toArray, List.getElem?_append_left (by rw [flatR_length]; omega)]
  exact flatR_get0 l i hi
theorem Own.get1 {w : World} {g : Nat} {l : List R} {rest : List Value} (h : Own w g l rest) (i : Nat) (hi : i < l.length) : w.cell? ⟨g, i * 2 + 1, none⟩ = some (.int .i64 l[i].f1) := by
  rw [blk_cell h (i * 2 + 1), List.getElem?_toArray, List.getElem?_append_left (by rw [flatR_length]; omega)]
  exact flatR_get1 l i hi
theorem Own.frozen {w : World} {g : Nat} {l : List R} {rest : List Value} (h : Own w g l rest) (i : Nat) : w.frozen? ⟨g, i, none⟩ = false := blk_frozen h i
theorem Own.C {w : World} {g : Nat} {l : List R} {rest : List Value} (h : Own w g l rest) (hl : l.length ≤ 1099511627776) : Kd.C k26 w (some ⟨g, 0, none⟩) l.length l := by
  refine ⟨rfl, by omega, fun _ => ⟨_, rfl, fun j p hp => ?_⟩⟩
  obtain ⟨hj, rfl⟩ := List.getElem?_eq_some_iff.1 hp
  refine ⟨_, rfl, k26_mk _ _, fun i u hu => ?_⟩
  have ha : (⟨g, 0, none⟩ : Addr).add (j * 2 + i) = ⟨g, j * 2 + i, none⟩ := by
    unfold Addr.add
    split
    · rename_i e; simp only [e]
    · simp
  show w.cell? ((⟨g, 0, none⟩ : Addr).add (j * 2 + i)) = some u
  rw [ha]
  match i, hu with
  | 0, hu => simp at hu; rw [← hu]; exact h.get0 j hj
  | 1, hu => simp at hu; rw [← hu]; exact h.get1 j hj
theorem setL_append {W : World} {g : Nat} : ∀ (a b : List Value) (i : Nat), setL W g i (a ++ b) = setL (setL W g i a) g (i + a.length) b := by
  intro a
  induction a generalizing W with
  | nil => intro b i; rfl
  | cons v a ih =>
    intro b i
    show setL (W.setCell ⟨g, i, none⟩ v) g (i + 1) (a ++ b) = setL (setL (W.setCell ⟨g, i, none⟩ v) g (i + 1) a) g (i + (a.length + 1)) b
    rw [ih, show i + (a.length + 1) = i + 1 + a.length from by omega]
/-- Cells stored in the middle of a block. -/
theorem setL_mid {g : Nat} {t : TypeId} : ∀ (vs us ws zs : List Value) {W : World}, us.length = vs.length → W.heap[g]? = some (.cells (ws ++ us ++ zs).toArray t (0, 0)) → (setL W g ws.length vs).heap[g]? = some (.cells (ws ++ vs ++ zs).toArray t (0, 0))
  | [], us, ws, zs, W, hl, h => by
    have : us = [] := List.length_eq_zero_iff.1 hl
    subst this
    exact h
  | v :: r, us, ws, zs, W, hl, h => by
    obtain ⟨u, us, rfl⟩ : ∃ u us', us = u :: us' := by cases us with | nil => simp at hl | cons u us' => exact ⟨u, us', rfl⟩
    have h' := blk_put h ws.length v rfl
    have e : (ws ++ u :: us ++ zs).toArray.setIfInBounds ws.length v = ((ws ++ [v]) ++ us ++ zs).toArray := by simp
    rw [e] at h'
    have h2 := setL_mid r us (ws ++ [v]) zs (by simpa using hl) h'
    rw [List.length_append] at h2
    rw [show ws ++ v :: r ++ zs = ws ++ [v] ++ r ++ zs from by simp]
    exact h2
theorem Own.set {w : World} {g : Nat} {l : List R} {rest : List Value} (h : Own w g l rest) (i : Nat) (hi : i < l.length) (x : R) : Own (setL w g (i * 2) [.int .i64 x.f0, .int .i64 x.f1]) g (l.set i x) rest := by
  have e : l = l.take i ++ l[i] :: l.drop (i + 1) := by rw [List.getElem_cons_drop, List.take_append_drop]
  have hl : (flatR (l.take i)).length = i * 2 := by rw [flatR_length, List.length_take]; omega
  have e1 : flatR l ++ rest = flatR (l.take i) ++ [.int .i64 l[i].f0, .int .i64 l[i].f1] ++ (flatR (l.drop (i + 1)) ++ rest) := by
    conv => lhs; rw [e, flatR_append]
    simp [flatR]
  have e2 : flatR (l.set i x) ++ rest = flatR (l.take i) ++ [.int .i64 x.f0, .int .i64 x.f1] ++ (flatR (l.drop (i + 1)) ++ rest) := by
    rw [List.set_eq_take_append_cons_drop, if_pos hi, flatR_append]
    simp [flatR]
  unfold Own at h ⊢
  rw [e1] at h
  have h2 := setL_mid [.int .i64 x.f0, .int .i64 x.f1] [.int .i64 l[i].f0, .int .i64 l[i].f1] (flatR (l.take i)) (flatR (l.drop (i + 1)) ++ rest) rfl h
  rw [hl] at h2
  rw [e2]
  exact h2
/-- What a printed row says, as a block. -/
theorem own_of {w : World} {base : Nat} {ok : Nat → Prop} {v : Value} {l : List R} (h : Kd.R k26 26 w base ok v l) : (v = .slice none 0 0 ∧ l = []) ∨ ∃ g cap rest, v = .slice (some ⟨g, 0, none⟩) l.length cap ∧ base ≤ g ∧ ok g ∧ l.length ≤ cap ∧ (flatR l ++ rest).length = cap * 2 ∧ Own w g l rest := by
  obtain ⟨hok, inner, ⟨hi, h | ⟨g, cap, cur, rfl, hg, hh, hc, hm, hs, ht⟩⟩, hr⟩ := h
  · exact .inl ⟨h.1, List.length_eq_zero_iff.1 h.2⟩
  · have e : inner = flatR l := by
      have key : ∀ (l : List R) (inner : List Value), inner.length = l.length * 2 → (∀ j p, l[j]? = some p → k26.M w base (fun k => ok k ∧ some k ≠ (Value.slice (some ⟨g, 0, none⟩) l.length cap).ownBlock) p ((inner.drop (j * 2)).take 2)) → inner = flatR l := by
        intro l
        induction l with
        | nil => intro inner h1 _; exact List.length_eq_zero_iff.1 (by simpa using h1)
        | cons x l ih =>
          intro inner h1 h2
          obtain ⟨a, b, t, rfl⟩ : ∃ a b t, inner = a :: b :: t := by
            match inner, h1 with
            | a :: b :: t, _ => exact ⟨a, b, t, rfl⟩
            | [a], h1 => simp at h1; omega
            | [], h1 => simp at h1
          have h0 := k26_openM (h2 0 x rfl)
          simp at h0
          rw [h0.1, h0.2]
          show _ = _ :: _ :: flatR l
          congr 2
          refine ih t (by simp at h1; omega) (fun j p hp => ?_)
          have := h2 (j + 1) p hp
          rw [show (j + 1) * 2 = j * 2 + 1 + 1 from by omega] at this
          exact this
      exact key l inner hr.1 hr.2
    have ht : cur.toList.take (l.length * 2) = inner := ht
    refine .inr ⟨g, cap, cur.toList.drop (l.length * 2), rfl, hg, hok g rfl, hc, ?_, ?_⟩
    · rw [← e, ← ht, List.take_append_drop]; have hs : cur.size = cap * 2 := hs; simpa using hs
    · unfold Own
      rw [← e, ← ht, List.take_append_drop]
      simpa using hh
/-- slices.Clone over ranges. -/
theorem CloneR (A0 : Option Addr) (c0 : Nat) (l0 : List R) (w : World) (hr0 : Kd.C k26 w A0 l0.length l0) (hm : l0.length ≤ 1099511627776) :
    Calls Try.prog 35 #[.slice A0 l0.length c0] w fun e w' => ∃ v, e = .returned v ∧ Kd.R k26 26 w' w.heap.size (fun _ => True) v l0 ∧ Below w.heap.size w w' := by
  have hnil : ∀ (A : Option Addr) (n c : Nat) (W : World), (binOp .eql 22 (.slice A n c) (.slice none 0 0)).run Try.prog W = .ok (.bool A.isNone) W := fun A n c W => Lib.run_eql_slice_nil W 22 26 A n c 0 0 Try.underlying22
  have HR0 := Aside0.mk hr0
  have HL := Aside0.mk hm
  cases A0 with
  | none =>
    have hz : l0 = [] := by
      cases l0 with
      | nil => rfl
      | cons a t => obtain ⟨ad, he, _⟩ := hr0.2.2 (by simp); cases he
    subst hz
    clear hr0
    go_enter Try.func35, Try.ntmps35
    go_wp2
    go_ret
    exact ⟨_, rfl, Kd.R_nil _ _ _ _ _, Below.refl _ _⟩
  | some ad =>
    clear hr0
    have HE : Aside0 (Kd.R k26 26 (w.alloc (.cells #[] 26)) w.heap.size (fun _ => True) (.slice (some ⟨w.heap.size, 0, none⟩) 0 0) []) :=
      ⟨⟨fun _ _ => trivial, [], ⟨rfl, .inr ⟨w.heap.size, 0, #[], rfl, Nat.le_refl _, blk_new w _, Nat.le_refl _, by unfold maxLen; omega, rfl, rfl⟩⟩, Reps.none _ _⟩⟩
    have HD : Aside0 (Below w.heap.size w (w.alloc (.cells #[] 26))) := ⟨below_alloc (Below.refl _ _) _⟩
    have HC := Aside0.mk (Kd.C_below HR0.out HD.out)
    go_enter Try.func35, Try.ntmps35
    go_wp2_with ((with_reducible refine gate_builtin (b := .append) (xs := #[.tmp 5, .tmp 6]) rfl ?_); at_builtin; go_loud (refine Kd.R_append_rows k26 (Rr := k26.K (w.alloc (.cells #[] 26))) (w0 := w) w.heap.size rfl (.tmp 5) (.tmp 6) 22 26 (.agg #[.int .i64 0, .int .i64 0]) 16 rfl Try.underlying22 info26 rfl (by decide) (by decide) _ [] l0 (some ad) l0.length c0 (fun _ => True) (fun k => k ≠ w.heap.size) rfl rfl HE.out HC.out (fun x cs h => by rw [k26_open h]; exact k26_mkM _ _ _ x) (fun k hk => ⟨trivial, fun e => hk (Option.some.inj e)⟩) (fun _ _ => trivial) HD.out HD.out.size (by have := HL.out; simp; omega) ?_); intro v1 w1 hR hB _ _; have HR1 := Aside0.mk hR; have HB1 := Aside0.mk hB; clear hR hB)
    go_ret
    exact ⟨_, rfl, HR1.out, HB1.out⟩
end Go.Proofs.Ytedmjfngpofoaaa.PSpanTells
