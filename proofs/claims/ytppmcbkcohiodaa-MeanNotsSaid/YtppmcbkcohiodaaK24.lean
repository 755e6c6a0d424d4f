/- Texts of this claim, put together (wip/pack.py): OpensN, MeanPure. -/
import Derived.Test.YtppmcbkcohiodaaK23
import Derived.Test.YtppmcbkcohiodaaK0
import Derived.Test.YtppmcbkcohiodaaK18
import Derived.Test.YtppmcbkcohiodaaK16
namespace Go.Proofs.YtppmcbkcohiodaaW.PrintWords
open Go.ChangeShapes Go.WideShapes Go.RowKit Go.Deep
set_option linter.unusedVariables false
/-- Data below a size, of type t, read as something of kind d, of which 'good' holds. -/
def OpensN (N : Nat) (P : Program) (t : TypeId) {α : Type} (d : Kd α) (good : α → Prop) : Prop :=
  ∀ (fuel : Nat) {H : Type} (enc : TypeId × Value → H) (w : World) (cs : List Value) (x : DataW H × List MemPlace), DataW.trod enc P w 0 (fun _ => true) true fuel t cs = some x → (∀ n ∈ x.1.weights P t, n ≤ reachBytes) → SizeOf.sizeOf x.1 < N → ∃ y, d.K w y cs ∧ good y
theorem Opens.N {P : Program} {t : TypeId} {α : Type} {d : Kd α} {good : α → Prop} (h : Opens P t d good) (N : Nat) : OpensN N P t d good := fun fuel _ enc w cs x hx hs _ => h fuel enc w cs x hx hs
theorem opens_of_N {P : Program} {t : TypeId} {α : Type} {d : Kd α} {good : α → Prop} (h : ∀ N, OpensN N P t d good) : Opens P t d good := fun fuel _ enc w cs x hx hs => h _ fuel enc w cs x hx hs (Nat.lt_succ_self _)
theorem OpensN.le {N M : Nat} {P : Program} {t : TypeId} {α : Type} {d : Kd α} {good : α → Prop} (h : OpensN N P t d good) (hm : M ≤ N) : OpensN M P t d good := fun fuel _ enc w cs x hx hs hn => h fuel enc w cs x hx hs (by omega)
theorem opensN_slice {N : Nat} {P : Program} {t e : TypeId} {α : Type} {d : Kd α} {good : α → Prop} {B : Nat} (ht : P.underlying t = some (.slice e)) (hc : P.cellsOf e = d.sz) (hB : P.bytesOf e = B) (he : OpensN N P e d good) :
    OpensN (N + 1) P t (Kd.slice e d) (fun xs => xs.length ≤ maxLen ∧ xs.length * B ≤ 140737488351232 ∧ ∀ x ∈ xs, good x) := by
  intro fuel H enc w cs x hx hs hN
  rcases open_slice ht hx with ⟨rfl, rfl⟩ | ⟨a, len, cap, m, n, D, Pl, rfl, _, hl, hm, hme, rfl, hel⟩
  · exact ⟨[], ⟨none, 0, rfl, Nat.le_refl _, Kd.C_nil _ _⟩, Nat.zero_le _, by simp, fun x hx => by cases hx⟩
  · have hmc : m = cap := by simpa using hme
    have hw : ∀ q ∈ (DataW.slice ((List.range len).map D) ((List.range (m - len)).map fun j => D (len + j)) : DataW H).weights P t, q ≤ reachBytes := hs
    rw [DataW.weights, ht] at hw
    have hb := hw _ List.mem_cons_self
    simp only [List.length_map, List.length_range] at hb
    have hsz : ∀ i, i < len → SizeOf.sizeOf (D i) < N := by
      intro i hi
      have h1 : SizeOf.sizeOf (D i) < SizeOf.sizeOf ((List.range len).map D) := List.sizeOf_lt_of_mem (List.mem_map.2 ⟨i, List.mem_range.2 hi, rfl⟩)
      have h2 : SizeOf.sizeOf (DataW.slice ((List.range len).map D) ((List.range (m - len)).map fun j => D (len + j)) : DataW H) < N + 1 := hN
      rw [DataW.slice.sizeOf_spec] at h2
      omega
    have hex : ∀ i, i < len → ∃ y, (∃ cs', w.cells? 0 (a.add (i * P.cellsOf e)) (P.cellsOf e) = some cs' ∧ d.K w y cs') ∧ good y := by
      intro i hi
      obtain ⟨cs', hcs, htr⟩ := hel i (by omega)
      obtain ⟨y, hy, hg⟩ := he n enc w cs' (D i, Pl i) htr (fun q hq => hw q (List.mem_cons_of_mem _ (List.mem_append_left _ (weightsAll_mem (List.mem_map.2 ⟨i, List.mem_range.2 hi, rfl⟩) q hq)))) (hsz i hi)
      exact ⟨y, ⟨cs', hcs, hy⟩, hg⟩
    have hys : ∃ ys : List α, ys.length = len ∧ ∀ i (h : i < ys.length), (∃ cs', w.cells? 0 (a.add (i * P.cellsOf e)) (P.cellsOf e) = some cs' ∧ d.K w ys[i] cs') ∧ good ys[i] := by
      have key : ∀ j, j ≤ len → ∃ ys : List α, ys.length = j ∧ ∀ i (h : i < ys.length), (∃ cs', w.cells? 0 (a.add (i * P.cellsOf e)) (P.cellsOf e) = some cs' ∧ d.K w ys[i] cs') ∧ good ys[i] := by
        intro j
        induction j with
        | zero => intro _; exact ⟨[], rfl, fun i h => absurd h (Nat.not_lt_zero _)⟩
        | succ j ih =>
          intro hj
          obtain ⟨ys, hy1, hy2⟩ := ih (by omega)
          obtain ⟨y, hy⟩ := hex j (by omega)
          refine ⟨ys ++ [y], by rw [List.length_append, hy1]; rfl, fun i h => ?_⟩
          by_cases hi : i < ys.length
          · rw [List.getElem_append_left hi]; exact hy2 i hi
          · have e : i = ys.length := by rw [List.length_append, List.length_singleton] at h; omega
            subst e
            rw [List.getElem_append_right (Nat.le_refl _)]
            simp only [Nat.sub_self, List.getElem_cons_zero]
            rw [hy1]; exact hy
      exact key len (Nat.le_refl _)
    obtain ⟨ys, hy1, hy2⟩ := hys
    subst hy1
    refine ⟨ys, ⟨some a, cap, rfl, hl, rfl, by unfold maxLen at hm; omega, fun _ => ⟨a, rfl, fun j p hp => ?_⟩⟩, by omega, ?_, fun x hx => ?_⟩
    · obtain ⟨hj, rfl⟩ := List.getElem?_eq_some_iff.1 hp
      obtain ⟨⟨cs', hcs, hk⟩, _⟩ := hy2 j hj
      obtain ⟨_, hlen, hcell⟩ := World.cells?_some hcs
      refine ⟨cs', by rw [hlen, hc], hk, fun i u hu => ?_⟩
      have hi : i < cs'.length := (List.getElem?_eq_some_iff.1 hu).1
      have := hcell i (by omega)
      rw [add_add, hc] at this
      rw [this, hu]
    · rw [← hB]
      have : ys.length * P.bytesOf e ≤ (ys.length + (m - ys.length)) * P.bytesOf e := Nat.mul_le_mul_right _ (by omega)
      exact Nat.le_trans this hb
    · obtain ⟨i, hi, rfl⟩ := List.getElem_of_mem hx
      exact (hy2 i hi).2
def OpensFN (N : Nat) (P : Program) (fs : List Field) (off : Nat) {α : Type} (d : Kd α) (good : α → Prop) : Prop :=
  ∀ (fuel : Nat) {H : Type} (enc : TypeId × Value → H) (w : World) (cs : List Value) (xs : List (DataW H × List MemPlace)), xs.length = fs.length →
    (∀ (j : Nat) (f : Field), fs[j]? = some f → DataW.trod enc P w 0 (fun _ => true) true fuel f.type ((cs.drop f.offset).take (P.cellsOf f.type)) = xs[j]?) → (∀ n ∈ DataW.weightsEach P (fs.map (·.type)) (xs.map (·.1)), n ≤ reachBytes) → (∀ x ∈ xs, SizeOf.sizeOf x.1 < N) →
    ∃ y, d.K w y ((cs.drop off).take d.sz) ∧ good y
theorem opensFN_one {N : Nat} {P : Program} {f : Field} {off : Nat} {α : Type} {d : Kd α} {good : α → Prop} (ho : f.offset = off) (hc : P.cellsOf f.type = d.sz) (h : OpensN N P f.type d good) : OpensFN N P [f] off d good := by
  intro fuel H enc w cs xs hl hf hs hN
  obtain ⟨x, rfl⟩ : ∃ x, xs = [x] := by
    match xs, hl with
    | [x], _ => exact ⟨x, rfl⟩
  have h0 := hf 0 f rfl
  rw [ho, hc] at h0
  exact h fuel enc w _ x h0 (fun n hn => hs n (by simpa [DataW.weightsEach] using hn)) (hN x List.mem_cons_self)
theorem opensFN_cons {N : Nat} {P : Program} {f : Field} {fs : List Field} {off : Nat} {α β : Type} {d : Kd α} {d' : Kd β} {good : α → Prop} {good' : β → Prop} (ho : f.offset = off) (hc : P.cellsOf f.type = d.sz) (h : OpensN N P f.type d good) (h' : OpensFN N P fs (off + d.sz) d' good') :
    OpensFN N P (f :: fs) off (Kd.pair d d') (fun y => good y.1 ∧ good' y.2) := by
  intro fuel H enc w cs xs hl hf hs hN
  obtain ⟨x, xt, rfl⟩ : ∃ x xt, xs = x :: xt := by
    match xs, hl with
    | x :: xt, _ => exact ⟨x, xt, rfl⟩
  have h0 := hf 0 f rfl
  rw [ho, hc] at h0
  obtain ⟨y, hy, hg⟩ := h fuel enc w _ x h0 (fun n hn => hs n (by simp only [List.map_cons, DataW.weightsEach]; exact List.mem_append_left _ hn)) (hN x List.mem_cons_self)
  obtain ⟨z, hz, hg'⟩ := h' fuel enc w cs xt (by simpa using hl) (fun j f' hj => hf (j + 1) f' hj) (fun n hn => hs n (by simp only [List.map_cons, DataW.weightsEach]; exact List.mem_append_right _ hn)) (fun x hx => hN x (List.mem_cons_of_mem _ hx))
  refine ⟨(y, z), ⟨(cs.drop off).take d.sz, (cs.drop (off + d.sz)).take d'.sz, ?_, hy, hz⟩, hg, hg'⟩
  show List.take (d.sz + d'.sz) (List.drop off cs) = _
  rw [List.take_add, List.drop_drop]
theorem opensN_struct {N : Nat} {P : Program} {t : TypeId} {fs : Array Field} {α : Type} {d : Kd α} {good : α → Prop} (ht : P.underlying t = some (.struct fs)) (hc : P.cellsOf t = d.sz) (h : OpensFN N P fs.toList 0 d good) : OpensN (N + 1) P t d good := by
  intro fuel H enc w cs x hx hs hN
  obtain ⟨xs, n, _, rfl, hl, hlen, hf⟩ := DataW.trod_struct ht hx
  rw [show ((DataW.agg (xs.map (·.1)), xs.flatMap (·.2)) : DataW H × List MemPlace).1 = DataW.agg (xs.map (·.1)) from rfl, DataW.weights, ht] at hs
  have hsz : ∀ x ∈ xs, SizeOf.sizeOf x.1 < N := by
    intro x hx
    have h1 : SizeOf.sizeOf x.1 < SizeOf.sizeOf (xs.map (·.1)) := List.sizeOf_lt_of_mem (List.mem_map.2 ⟨x, hx, rfl⟩)
    have h2 : SizeOf.sizeOf (DataW.agg (xs.map (·.1)) : DataW H) < N + 1 := hN
    rw [DataW.agg.sizeOf_spec] at h2
    omega
  obtain ⟨y, hy, hg⟩ := h n enc w cs xs (by rw [hlen, Array.length_toList]) (fun j f hj => hf j f (by rw [← Array.getElem?_toList]; exact hj)) hs hsz
  rw [List.drop_zero, List.take_of_length_le (by omega)] at hy
  exact ⟨y, hy, hg⟩
theorem opensN_iso {N : Nat} {P : Program} {t : TypeId} {α β : Type} {d : Kd α} {good : α → Prop} {f : β → α} (mk : α → β) (hmk : ∀ a, f (mk a) = a) (h : OpensN N P t d good) : OpensN N P t (Kd.iso d f) (fun b => good (f b)) := by
  intro fuel H enc w cs x hx hs hN
  obtain ⟨y, hy, hg⟩ := h fuel enc w cs x hx hs hN
  exact ⟨mk y, (by show d.K w (f (mk y)) cs; rw [hmk]; exact hy), (by show good (f (mk y)); rw [hmk]; exact hg)⟩
theorem opens_flt0 {P : Program} {t : TypeId} (ht : P.underlying t = some (.float .f64)) : Opens P t (Kd.scalar (Value.float .f64) (fun _ => rfl)) (fun n => (Lit.float .f64 n).wf = true) := by
  intro fuel H enc w cs x hx _
  cases fuel with
  | zero => simp [DataW.trod] at hx
  | succ n =>
    unfold DataW.trod at hx
    rw [ht] at hx
    split at hx <;> simp_all [Kd.scalar]
theorem opens_flt {P : Program} {t : TypeId} (ht : P.underlying t = some (.float .f64)) : Opens P t Kd.flt (fun n => n < 18446744073709551616) := by
  intro fuel H enc w cs x hx hs
  obtain ⟨y, hy, hg⟩ := opens_flt0 ht fuel enc w cs x hx hs
  exact ⟨y, hy, by simpa [Lit.wf] using hg⟩
end Go.Proofs.YtppmcbkcohiodaaW.PrintWords
namespace Go.Proofs.Ytppmcbkcohiodaa.PMeanTells
open Go.ChangeShapes Go.WideShapes Go.RowKit Go.Deep Go.Proofs.YtppmcbkcohiodaaW.PrintWords
set_option linter.unusedVariables false
/-- Of Go's numbers, all of it. -/
def G55 (r : S55) : Prop := (Lit.int .i64 r.f0).wf = true ∧ (Lit.int .i64 r.f1).wf = true
theorem opens_k55 : Opens Try.prog 55 k55 G55 := by
  have h := opens_iso (f := fun x : S55 => (x.f0, x.f1)) (fun p => (⟨p.1, p.2⟩ : S55)) (fun _ => rfl) (opens_struct Try.underlying55 (by kernel_rfl) (opensF_cons rfl (by kernel_rfl) (opens_int Try.underlying3) (opensF_one rfl (by kernel_rfl) (opens_int Try.underlying3))))
  exact h
inductive G26 : S26 → Prop
  | mk (x : S26) (h0 : (Lit.int .i64 x.f0).wf = true) (h1 : (Lit.int .i64 x.f1).wf = true) (h2 : x.f2.length ≤ maxLen ∧ x.f2.length * 16 ≤ 140737488351232 ∧ ∀ r ∈ x.f2, G55 r) (h3 : x.f3 < 18446744073709551616) (h4 : x.f4 < 18446744073709551616) (h5 : x.f5.length ≤ maxLen) (h6 : x.f5.length * 80 ≤ 140737488351232) (h7 : ∀ y ∈ x.f5, G26 y) : G26 x
theorem fold26 {w : World} {x : S26} {cs : List Value} (h : (F26 k26).K w x cs) : k26.K w x cs := by
  obtain ⟨_, _, rfl, rfl, ⟨_, _, rfl, rfl, ⟨_, _, rfl, ⟨A2, c2, rfl, l2, g2⟩, ⟨_, _, rfl, rfl, ⟨_, _, rfl, rfl, ⟨A5, c5, rfl, l5, g5⟩⟩⟩⟩⟩⟩ := h
  exact k26_mk w x l2 g2 l5 g5
theorem opensN_k26 : ∀ N, OpensN N Try.prog 26 k26 G26
  | 0 => fun fuel _ enc w cs x hx hs hn => absurd hn (Nat.not_lt_zero _)
  | N + 1 => by
    have ih := opensN_k26 N
    have h := opensN_iso (f := fun x : S26 => (x.f0, x.f1, x.f2, x.f3, x.f4, x.f5)) (fun p => (⟨p.1, p.2.1, p.2.2.1, p.2.2.2.1, p.2.2.2.2.1, p.2.2.2.2.2⟩ : S26)) (fun _ => rfl) (opensN_struct Try.underlying26 (by kernel_rfl)
      (opensFN_cons rfl (by kernel_rfl) ((opens_int Try.underlying3).N (N + 1)) (opensFN_cons rfl (by kernel_rfl) ((opens_int Try.underlying3).N (N + 1)) (opensFN_cons rfl (by kernel_rfl) ((opens_slice (B := 16) Try.underlying22 (by kernel_rfl) (by kernel_rfl) opens_k55).N (N + 1))
        (opensFN_cons rfl (by kernel_rfl) ((opens_flt Try.underlying23).N (N + 1)) (opensFN_cons rfl (by kernel_rfl) ((opens_flt Try.underlying23).N (N + 1)) (opensFN_one rfl (by kernel_rfl) (opensN_slice (B := 80) Try.underlying24 (by kernel_rfl) (by kernel_rfl) ih))))))))
    intro fuel H enc w cs x hx hs hn
    obtain ⟨y, hy, hg0, hg1, hg2, hg3, hg4, hg5, hg6, hg7⟩ := h fuel enc w cs x hx hs (by omega)
    exact ⟨y, fold26 hy, .mk y hg0 hg1 hg2 hg3 hg4 hg5 hg6 hg7⟩
theorem opens_k26 : Opens Try.prog 26 k26 G26 := opens_of_N opensN_k26
theorem opens_k37 : Opens Try.prog 37 k37 (fun r => (Lit.int .i64 r.f0).wf = true ∧ (Lit.int .i64 r.f1).wf = true ∧ (Lit.int .i64 r.f2).wf = true) := by
  have h := opens_iso (f := fun x : S37 => (x.f0, x.f1, x.f2)) (fun p => (⟨p.1, p.2.1, p.2.2⟩ : S37)) (fun _ => rfl) (opens_struct Try.underlying37 (by kernel_rfl) (opensF_cons rfl (by kernel_rfl) (opens_int Try.underlying3) (opensF_cons rfl (by kernel_rfl) (opens_int Try.underlying3) (opensF_one rfl (by kernel_rfl) (opens_int Try.underlying3)))))
  exact h
/-- Of Go's numbers: a rule. -/
def G39 (r : S39) : Prop := G26 r.f1 ∧ (Lit.int .i64 r.f3).wf = true
theorem opens_k39 : Opens Try.prog 39 k39 G39 := by
  have h := opens_iso (f := fun x : S39 => (x.f0, x.f1, x.f2, x.f3)) (fun p => (⟨p.1, p.2.1, p.2.2.1, p.2.2.2⟩ : S39)) (fun _ => rfl) (opens_struct Try.underlying39 (by kernel_rfl) (opensF_cons rfl (by kernel_rfl) (opens_bool Try.underlying4) (opensF_cons rfl (by kernel_rfl) opens_k26 (opensF_cons rfl (by kernel_rfl) opens_k37 (opensF_one rfl (by kernel_rfl) (opens_int Try.underlying3))))))
  intro fuel H enc w cs x hx hs
  obtain ⟨y, hy, _, hg1, _, hg3⟩ := h fuel enc w cs x hx hs
  exact ⟨y, hy, hg1, hg3⟩
/-- Facts, part by part. -/
abbrev kFacts : Kd (Int × Int × Int × List S55 × List Int × List Int) := Kd.pair (Kd.int .i64) (Kd.pair (Kd.int .i64) (Kd.pair (Kd.int .i64) (Kd.pair (Kd.slice 55 k55) (Kd.pair (Kd.slice 3 (Kd.int .i64)) (Kd.slice 3 (Kd.int .i64))))))
theorem opens_facts : Opens Try.prog 30 kFacts (fun _ => True) := by
  have h := opens_struct Try.underlying30 (d := kFacts) (by kernel_rfl) (opensF_cons rfl (by kernel_rfl) (opens_int Try.underlying3) (opensF_cons rfl (by kernel_rfl) (opens_int Try.underlying3) (opensF_cons rfl (by kernel_rfl) (opens_int Try.underlying3) (opensF_cons rfl (by kernel_rfl) (opens_slice (B := 16) Try.underlying22 (by kernel_rfl) (by kernel_rfl) opens_k55)
    (opensF_cons rfl (by kernel_rfl) (opens_slice (B := 8) Try.underlying28 (by kernel_rfl) (by kernel_rfl) (opens_int Try.underlying3)) (opensF_one rfl (by kernel_rfl) (opens_slice (B := 8) Try.underlying28 (by kernel_rfl) (by kernel_rfl) (opens_int Try.underlying3))))))))
  intro fuel H enc w cs x hx hs
  obtain ⟨y, hy, _⟩ := h fuel enc w cs x hx hs
  exact ⟨y, hy, trivial⟩
theorem kFacts_open {w : World} {y : Int × Int × Int × List S55 × List Int × List Int} {cs : List Value} (h : kFacts.K w y cs) : ∃ A3 c3 A4 c4 A5 c5, cs = [.int .i64 y.1, .int .i64 y.2.1, .int .i64 y.2.2.1, .slice A3 y.2.2.2.1.length c3, .slice A4 y.2.2.2.2.1.length c4, .slice A5 y.2.2.2.2.2.length c5] ∧ y.2.2.2.1.length ≤ c3 ∧ k55.C w A3 y.2.2.2.1.length y.2.2.2.1 ∧ y.2.2.2.2.1.length ≤ c4 ∧ (Kd.int .i64).C w A4 y.2.2.2.2.1.length y.2.2.2.2.1 ∧ y.2.2.2.2.2.length ≤ c5 ∧ (Kd.int .i64).C w A5 y.2.2.2.2.2.length y.2.2.2.2.2 := by
  obtain ⟨_, _, rfl, rfl, ⟨_, _, rfl, rfl, ⟨_, _, rfl, rfl, ⟨_, _, rfl, ⟨A3, c3, rfl, l3, g3⟩, ⟨_, _, rfl, ⟨A4, c4, rfl, l4, g4⟩, ⟨A5, c5, rfl, l5, g5⟩⟩⟩⟩⟩⟩ := h
  exact ⟨A3, c3, A4, c4, A5, c5, rfl, l3, g3, l4, g4, l5, g5⟩
end Go.Proofs.Ytppmcbkcohiodaa.PMeanTells
namespace Go.Proofs.Ytppmcbkcohiodaa.PMeanTells
open Go Go.RowKit Go.Proofs.YtppmcbkcohiodaaW.PrintWords Go.Proofs.Ytppmcbkcohiodaa.Loops Go.Proofs.Ytppmcbkcohiodaa.Base Go.Proofs.Ytppmcbkcohiodaa.Fl
set_option linter.unusedVariables false
theorem S26.ind {P : S26 → Prop} (h : ∀ x, (∀ y ∈ x.f5, P y) → P x) : ∀ x, P x := by
  have key : ∀ n x, SizeOf.sizeOf x < n → P x := by
    intro n
    induction n with
    | zero => intro x hx; omega
    | succ n ih =>
      intro x hx
      refine h x (fun y hy => ih y ?_)
      have h1 := List.sizeOf_lt_of_mem hy
      have h2 : SizeOf.sizeOf x.f5 < SizeOf.sizeOf x := by cases x; simp; omega
      omega
  exact fun x => key _ x (Nat.lt_succ_self _)
theorem rdE (l : List S26) (j : Nat) (h : j < l.length) : rd_T26 l (j : Int) = l[j] := by unfold rd_T26; rw [Int.toNat_natCast, List.getD_eq_getElem?_getD, List.getElem?_eq_getElem h]; rfl
theorem rdU (l : List S39) (j : Nat) (h : j < l.length) : rd_T39 l (j : Int) = l[j] := by unfold rd_T39; rw [Int.toNat_natCast, List.getD_eq_getElem?_getD, List.getElem?_eq_getElem h]; rfl
theorem rdRg (l : List S55) (j : Nat) (h : j < l.length) : rd_T55 l (j : Int) = l[j] := by unfold rd_T55; rw [Int.toNat_natCast, List.getD_eq_getElem?_getD, List.getElem?_eq_getElem h]; rfl
/-- Small, to the bottom. -/
inductive Sm : S26 → Prop
  | mk (x : S26) (h5 : x.f5.length ≤ 6) (h2 : x.f2.length ≤ 8) (hs : ∀ y ∈ x.f5, Sm y) : Sm x
theorem Sm.of {x : S26} (h : Sm x) : x.f5.length ≤ 6 ∧ x.f2.length ≤ 8 ∧ ∀ y ∈ x.f5, Sm y := by
  cases h with
  | mk _ a b c => exact ⟨a, b, c⟩
abbrev smF (k : Nat) (x : S26) (d : Int) : Option Bool := gatewardenref11_Small.f k x.f0 x.f1 x.f2 x.f3 x.f4 x.f5 d
theorem smF_mono (x : S26) (d : Int) (k : Nat) : LeO (smF k x d) (smF (k + 1) x d) := gatewardenref11_Small.mono _ _ _ _ _ _ _ k
theorem small_told : ∀ x : S26, ∀ d : Int, -1 ≤ d → d ≤ 100 → ∃ k b, smF k x d = some b ∧ (b = true → Sm x) := by
  refine S26.ind (fun x ih => ?_)
  intro d hd0 hd1
  by_cases h1 : d < 0
  · exact ⟨2, false, by unfold smF; rw [gatewardenref11_Small.f, if_pos h1, gatewardenref11_Small.j0, if_pos rfl], fun h => by cases h⟩
  by_cases h2 : (x.f5.length : Int) > 6
  · exact ⟨2, false, by unfold smF; rw [gatewardenref11_Small.f, if_neg h1, if_pos h2, gatewardenref11_Small.j0, if_pos rfl], fun h => by cases h⟩
  by_cases h3 : (x.f2.length : Int) > 8
  · exact ⟨2, false, by unfold smF; rw [gatewardenref11_Small.f, if_neg h1, if_neg h2, gatewardenref11_Small.j0, if_pos (decide_eq_true h3)], fun h => by cases h⟩
  obtain ⟨K, v, hv⟩ := gather (p := fun k i => smF k (rd_T26 x.f5 i) (wrap64 (d - 1))) (fun i k => smF_mono _ _ k) (Q := fun j b => b = true → Sm (rd_T26 x.f5 (j : Int))) x.f5.length (fun j hj => by
    rw [rdE x.f5 j hj, w64 (by omega) (by omega)]
    exact ih _ (List.getElem_mem hj) (d - 1) (by omega) (by omega))
  have hl := loop_all (n := x.f5.length) (by omega) (L := fun k i => gatewardenref11_Small.l0 k d i x.f0 x.f1 x.f2 x.f3 x.f4 x.f5) (p := fun k i => smF k (rd_T26 x.f5 i) (wrap64 (d - 1))) (e := some true) (fun k i => by rw [gatewardenref11_Small.l0]) (fun i k => smF_mono _ _ k) (fun j hj => (hv j hj).1) x.f5.length 0 (by omega)
  refine ⟨K + x.f5.length + 3, (List.range' 0 x.f5.length).all v, ?_, fun h => .mk x (by omega) (by omega) (fun y hy => ?_)⟩
  · unfold smF
    rw [gatewardenref11_Small.f, if_neg h1, if_neg h2, gatewardenref11_Small.j0, if_neg (by rw [decide_eq_false h3]; decide)]
    refine hl.trans ?_
    cases (List.range' 0 x.f5.length).all v <;> rfl
  · obtain ⟨j, hj, rfl⟩ := List.getElem_of_mem hy
    have := (hv j hj).2 (List.all_eq_true.1 h j (by simp [List.mem_range'_1, hj]))
    rwa [rdE x.f5 j hj] at this
/-- An atom that may be. -/
structure AtR (x : S26) : Prop where
  of : x.f5 = []
  lo : 1 ≤ x.f1
  hi : x.f1 ≤ 6
  six : x.f1 = 6 → x.f2 = [] ∧ (textB x.f3).2 = true ∧ (textB x.f4).2 = true
  oth : x.f1 ≠ 6 → 0 < x.f2.length ∧ sameF x.f3 0 = true ∧ sameF x.f4 0 = true
  num : x.f1 ≠ 6 → ∀ r ∈ x.f2, (0 ≤ r.f0 ∧ r.f0 ≤ 9007199254740992) ∧ (0 ≤ r.f1 ∧ r.f1 ≤ 9007199254740992)
/-- What may be, to the bottom. -/
inductive Rgt : S26 → Prop
  | atom (x : S26) (h0 : x.f0 = 1) (ha : AtR x) : Rgt x
  | all (x : S26) (h0 : x.f0 = 0) (h5 : x.f5 = []) (h1 : x.f1 = 0) (h2 : x.f2 = []) (h3 : sameF x.f3 0 = true) (h4 : sameF x.f4 0 = true) : Rgt x
  | inner (x : S26) (h0 : (x.f0 = 2 ∧ x.f5.length = 1) ∨ ((x.f0 = 3 ∨ x.f0 = 4) ∧ 2 ≤ x.f5.length)) (h1 : x.f1 = 0) (h2 : x.f2 = []) (h3 : sameF x.f3 0 = true) (h4 : sameF x.f4 0 = true) (hk : ∀ y ∈ x.f5, y.f0 ≠ 0) (hs : ∀ y ∈ x.f5, Rgt y) : Rgt x
abbrev atF (k : Nat) (x : S26) : Option Bool := gatewardenref11_atom.f k x.f0 x.f1 x.f2 x.f3 x.f4 x.f5
theorem num_eq (a : Int) : gatewardenref11_num.f a = some (decide (0 ≤ a) && decide (a ≤ 9007199254740992)) := by
  unfold gatewardenref11_num.f
  by_cases h : a ≥ 0
  · rw [if_pos h, decide_eq_true (show 0 ≤ a from h), Bool.true_and]
  · rw [if_neg h, decide_eq_false (show ¬ 0 ≤ a from h), Bool.false_and]
theorem plain_eq {a : Nat} (h : a < 18446744073709551616) : gatewardenref11_plain.f a = some (sameF a 0) := by
  unfold gatewardenref11_plain.f gatewardenref03_Same.f
  rw [if_pos ⟨h, by decide⟩]; rfl
theorem bound_eq {a : Nat} (h : a < 18446744073709551616) : gatewardenref11_bound.f a = some (textB a).2 := by
  unfold gatewardenref11_bound.f gatewardenref03_Text.f
  rw [if_pos h]; rfl
theorem atom_told {x : S26} (hg : G26 x) (hs : Sm x) : ∃ k b, atF k x = some b ∧ (b = true → AtR x) := by
  obtain ⟨h5, h2, _⟩ := hs.of
  have g3 : x.f3 < 18446744073709551616 := by cases hg; assumption
  have g4 : x.f4 < 18446744073709551616 := by cases hg; assumption
  unfold atF
  by_cases a1 : (x.f5.length : Int) > 0
  · exact ⟨1, false, by rw [gatewardenref11_atom.f, if_pos a1, gatewardenref11_atom.j0, if_pos rfl], fun h => by cases h⟩
  by_cases a2 : x.f1 < 1
  · exact ⟨1, false, by rw [gatewardenref11_atom.f, if_neg a1, if_pos a2, gatewardenref11_atom.j0, if_pos rfl], fun h => by cases h⟩
  by_cases a3 : x.f1 > 6
  · exact ⟨1, false, by rw [gatewardenref11_atom.f, if_neg a1, if_neg a2, gatewardenref11_atom.j0, if_pos (decide_eq_true a3)], fun h => by cases h⟩
  have e5 : x.f5 = [] := List.length_eq_zero_iff.1 (by omega)
  by_cases a4 : x.f1 = 6
  · by_cases a5 : (x.f2.length : Int) = 0
    · refine ⟨1, (textB x.f3).2 && (textB x.f4).2, ?_, fun h => ?_⟩
      · rw [gatewardenref11_atom.f, if_neg a1, if_neg a2, gatewardenref11_atom.j0, if_neg (by rw [decide_eq_false a3]; decide), if_pos a4, if_pos a5, bound_eq g3, bound_eq g4]
        simp only [Option.bind_some]
        cases (textB x.f3).2 <;> rfl
      · rw [Bool.and_eq_true] at h
        exact ⟨e5, by omega, by omega, fun _ => ⟨List.length_eq_zero_iff.1 (by omega), h.1, h.2⟩, fun h => absurd a4 h, fun h => absurd a4 h⟩
    · exact ⟨1, false, by rw [gatewardenref11_atom.f, if_neg a1, if_neg a2, gatewardenref11_atom.j0, if_neg (by rw [decide_eq_false a3]; decide), if_pos a4, if_neg a5], fun h => by cases h⟩
  · obtain ⟨e, he⟩ : ∃ e : Bool, e = (decide ((x.f2.length : Int) > 0) && (sameF x.f3 0 && sameF x.f4 0)) := ⟨_, rfl⟩
    have hl := loop_all (n := x.f2.length) (by omega) (L := fun k i => gatewardenref11_atom.l0 k i x.f0 x.f1 x.f2 x.f3 x.f4 x.f5) (p := fun k i => some ((decide (0 ≤ (rd_T55 x.f2 i).f0) && decide ((rd_T55 x.f2 i).f0 ≤ 9007199254740992)) && (decide (0 ≤ (rd_T55 x.f2 i).f1) && decide ((rd_T55 x.f2 i).f1 ≤ 9007199254740992)))) (e := some e) (fun k i => by
      rw [gatewardenref11_atom.l0, num_eq, num_eq, plain_eq g3, plain_eq g4]
      by_cases hi : i < (x.f2.length : Int)
      · rw [if_pos hi, if_pos hi]
        by_cases h0 : 0 ≤ i
        · rw [if_pos h0, if_pos h0]
          simp only [Option.bind_some]
          cases (decide (0 ≤ (rd_T55 x.f2 i).f0) && decide ((rd_T55 x.f2 i).f0 ≤ 9007199254740992)) <;> simp
        · rw [if_neg h0, if_neg h0]
      · rw [if_neg hi, if_neg hi, he]
        by_cases h0 : (x.f2.length : Int) > 0
        · rw [if_pos h0, decide_eq_true h0]
          simp only [Option.bind_some]
          cases sameF x.f3 0 <;> rfl
        · rw [if_neg h0, decide_eq_false h0]; rfl) (fun i k r h => h) (K := 0) (fun j hj => rfl) x.f2.length 0 (by omega)
    generalize hA : ((List.range' 0 x.f2.length).all fun j : Nat => ((decide (0 ≤ (rd_T55 x.f2 (j : Int)).f0) && decide ((rd_T55 x.f2 (j : Int)).f0 ≤ 9007199254740992)) && (decide (0 ≤ (rd_T55 x.f2 (j : Int)).f1) && decide ((rd_T55 x.f2 (j : Int)).f1 ≤ 9007199254740992)))) = A at hl
    refine ⟨0 + x.f2.length + 2, A && e, ?_, fun h => ?_⟩
    · rw [gatewardenref11_atom.f, if_neg a1, if_neg a2, gatewardenref11_atom.j0, if_neg (by rw [decide_eq_false a3]; decide), if_neg a4]
      refine hl.trans ?_
      cases A <;> rfl
    · rw [Bool.and_eq_true, he, Bool.and_eq_true, Bool.and_eq_true, decide_eq_true_eq, ← hA] at h
      refine ⟨e5, by omega, by omega, fun h => absurd h a4, fun _ => ⟨by omega, h.2.2.1, h.2.2.2⟩, fun _ r hr => ?_⟩
      obtain ⟨j, hj, rfl⟩ := List.getElem_of_mem hr
      have := List.all_eq_true.1 h.1 j (by simp [List.mem_range'_1, hj])
      rw [rdRg x.f2 j hj] at this
      simp only [Bool.and_eq_true, decide_eq_true_eq] at this
      exact this
abbrev rtF (k : Nat) (x : S26) : Option Bool := gatewardenref11_Right.f k x.f0 x.f1 x.f2 x.f3 x.f4 x.f5
theorem rtF_mono (x : S26) (k : Nat) : LeO (rtF k x) (rtF (k + 1) x) := gatewardenref11_Right.mono _ _ _ _ _ _ k
theorem right_told : ∀ x : S26, G26 x → Sm x → ∃ k b, rtF k x = some b ∧ (b = true → Rgt x) := by
  refine S26.ind (fun x ih => ?_)
  intro hg hs
  have hsm := hs.of
  have g3 : x.f3 < 18446744073709551616 := by cases hg; assumption
  have g4 : x.f4 < 18446744073709551616 := by cases hg; assumption
  have g7 : ∀ y ∈ x.f5, G26 y := by cases hg; assumption
  by_cases h1 : x.f0 = 1
  · obtain ⟨k, b, hb, hq⟩ := atom_told hg hs
    exact ⟨k + 1, b, by unfold rtF; rw [gatewardenref11_Right.f, if_pos h1]; unfold atF at hb; rw [hb]; rfl, fun h => .atom x h1 (hq h)⟩
  by_cases h2 : x.f1 = 0
  rotate_left
  · exact ⟨2, false, by unfold rtF; rw [gatewardenref11_Right.f, if_neg h1, if_neg h2, gatewardenref11_Right.j0, if_pos rfl], fun h => by cases h⟩
  by_cases h3 : (x.f2.length : Int) > 0
  · exact ⟨2, false, by unfold rtF; rw [gatewardenref11_Right.f, if_neg h1, if_pos h2, if_pos h3, gatewardenref11_Right.j0, if_pos rfl], fun h => by cases h⟩
  have e2 : x.f2 = [] := List.length_eq_zero_iff.1 (by omega)
  cases p3 : sameF x.f3 0 with
  | false => exact ⟨2, false, by unfold rtF; rw [gatewardenref11_Right.f, if_neg h1, if_pos h2, if_neg h3, plain_eq g3, p3, Option.bind_some, if_neg (by decide), gatewardenref11_Right.j0, if_pos rfl], fun h => by cases h⟩
  | true =>
  cases p4 : sameF x.f4 0 with
  | false => exact ⟨2, false, by unfold rtF; rw [gatewardenref11_Right.f, if_neg h1, if_pos h2, if_neg h3, plain_eq g3, p3, Option.bind_some, if_pos rfl, plain_eq g4, p4, Option.bind_some, gatewardenref11_Right.j0, if_pos (by rfl)], fun h => by cases h⟩
  | true =>
  have hf : ∀ k, rtF (k + 2) x = if x.f0 = 0 then some ((x.f5.length : Int) == 0) else if x.f0 = 2 then (if (x.f5.length : Int) = 1 then gatewardenref11_Right.j2 k x.f0 x.f1 x.f2 x.f3 x.f4 x.f5 else some false) else if x.f0 = 3 then gatewardenref11_Right.j1 k (x.f0 == 3) x.f0 x.f1 x.f2 x.f3 x.f4 x.f5 else gatewardenref11_Right.j1 k (x.f0 == 4) x.f0 x.f1 x.f2 x.f3 x.f4 x.f5 := by
    intro k
    unfold rtF
    rw [gatewardenref11_Right.f, if_neg h1, if_pos h2, if_neg h3, plain_eq g3, p3, Option.bind_some, if_pos rfl, plain_eq g4, p4, Option.bind_some, gatewardenref11_Right.j0, if_neg (by decide)]
  by_cases k0 : x.f0 = 0
  · exact ⟨2, _, by rw [hf 0, if_pos k0], fun h => .all x k0 (List.length_eq_zero_iff.1 (by have := eq_of_beq h; omega)) h2 e2 p3 p4⟩
  obtain ⟨K, v, hv⟩ := gather (p := fun k i => if (rd_T26 x.f5 i).f0 = 0 then some false else rtF k (rd_T26 x.f5 i)) (fun i k r h => by
      by_cases hz : (rd_T26 x.f5 i).f0 = 0
      · simp only [if_pos hz] at h ⊢; exact h
      · simp only [if_neg hz] at h ⊢; exact rtF_mono _ k r h) (Q := fun j b => b = true → (rd_T26 x.f5 (j : Int)).f0 ≠ 0 ∧ Rgt (rd_T26 x.f5 (j : Int))) x.f5.length (fun j hj => by
    rw [rdE x.f5 j hj]
    by_cases hz : (x.f5[j]).f0 = 0
    · exact ⟨0, false, by rw [if_pos hz], fun h => by cases h⟩
    · obtain ⟨k, b, hb, hq⟩ := ih _ (List.getElem_mem hj) (g7 _ (List.getElem_mem hj)) (hsm.2.2 _ (List.getElem_mem hj))
      exact ⟨k, b, by rw [if_neg hz]; exact hb, fun h => ⟨hz, hq h⟩⟩)
  have hl := loop_all (n := x.f5.length) (by omega) (L := fun k i => gatewardenref11_Right.l0 k i x.f0 x.f1 x.f2 x.f3 x.f4 x.f5) (p := fun k i => if (rd_T26 x.f5 i).f0 = 0 then some false else rtF k (rd_T26 x.f5 i)) (e := some true) (fun k i => by
      rw [gatewardenref11_Right.l0]
      by_cases hi : i < (x.f5.length : Int)
      · rw [if_pos hi, if_pos hi]
        by_cases h0 : 0 ≤ i
        · rw [if_pos h0, if_pos h0]
          by_cases hz : (rd_T26 x.f5 i).f0 = 0
          · rw [if_pos hz, if_pos hz]; rfl
          · rw [if_neg hz, if_neg hz]
        · rw [if_neg h0, if_neg h0]
      · rw [if_neg hi, if_neg hi]) (fun i k r h => by
      by_cases hz : (rd_T26 x.f5 i).f0 = 0
      · simp only [if_pos hz] at h ⊢; exact h
      · simp only [if_neg hz] at h ⊢; exact rtF_mono _ k r h) (fun j hj => (hv j hj).1) x.f5.length 0 (by omega)
  have hall : (List.range' 0 x.f5.length).all v = true → (∀ y ∈ x.f5, y.f0 ≠ 0) ∧ ∀ y ∈ x.f5, Rgt y := by
    intro h
    have : ∀ y ∈ x.f5, y.f0 ≠ 0 ∧ Rgt y := fun y hy => by
      obtain ⟨j, hj, rfl⟩ := List.getElem_of_mem hy
      have := (hv j hj).2 (List.all_eq_true.1 h j (by simp [List.mem_range'_1, hj]))
      rwa [rdE x.f5 j hj] at this
    exact ⟨fun y hy => (this y hy).1, fun y hy => (this y hy).2⟩
  have hj2 : gatewardenref11_Right.j2 (K + x.f5.length + 2) x.f0 x.f1 x.f2 x.f3 x.f4 x.f5 = some ((List.range' 0 x.f5.length).all v) := by
    rw [gatewardenref11_Right.j2]
    refine hl.trans ?_
    cases (List.range' 0 x.f5.length).all v <;> rfl
  by_cases k2 : x.f0 = 2
  · by_cases l1 : (x.f5.length : Int) = 1
    · exact ⟨K + x.f5.length + 4, _, by rw [hf (K + x.f5.length + 2), if_neg k0, if_pos k2, if_pos l1, hj2], fun h => .inner x (.inl ⟨k2, by omega⟩) h2 e2 p3 p4 (hall h).1 (hall h).2⟩
    · exact ⟨2, false, by rw [hf 0, if_neg k0, if_pos k2, if_neg l1], fun h => by cases h⟩
  have hj1 : ∀ q : Bool, gatewardenref11_Right.j1 (K + x.f5.length + 3) q x.f0 x.f1 x.f2 x.f3 x.f4 x.f5 = some (q && (!decide ((x.f5.length : Int) < 2) && (List.range' 0 x.f5.length).all v)) := by
    intro q
    rw [gatewardenref11_Right.j1, hj2]
    cases q with
    | false => rfl
    | true =>
      rw [if_pos rfl]
      by_cases hl2 : (x.f5.length : Int) < 2
      · rw [if_pos hl2, decide_eq_true hl2]; rfl
      · rw [if_neg hl2, decide_eq_false hl2]; simp
  refine ⟨K + x.f5.length + 5, ((x.f0 == 3) || (x.f0 == 4)) && (!decide ((x.f5.length : Int) < 2) && (List.range' 0 x.f5.length).all v), ?_, fun h => ?_⟩
  · rw [hf (K + x.f5.length + 3), if_neg k0, if_neg k2, hj1, hj1]
    by_cases k3 : x.f0 = 3
    · rw [if_pos k3]; simp [k3]
    · rw [if_neg k3]; simp [beq_eq_false_iff_ne.mpr k3]
  · simp only [Bool.and_eq_true, Bool.or_eq_true, beq_iff_eq, Bool.not_eq_true', decide_eq_false_iff_not] at h
    exact .inner x (.inr ⟨h.1, by omega⟩) h2 e2 p3 p4 (hall h.2.2).1 (hall h.2.2).2
end Go.Proofs.Ytppmcbkcohiodaa.PMeanTells
