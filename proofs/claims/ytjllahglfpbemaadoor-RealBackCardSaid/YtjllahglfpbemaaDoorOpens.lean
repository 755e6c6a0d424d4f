/- Data that come in, as the printed words read them: by the type, to the bottom. -/
import Derived.Test.YtjllahglfpbemaaDoorWMore
import Derived.ProofKit
import Derived.Deep.Slices
import Derived.SizedLaws
import Derived.OpenShut
namespace Go.Proofs.YtjllahglfpbemaaDoorW.PrintWords
open Go.ChangeShapes Go.WideShapes Go.RowKit Go.Deep
/-- Data of type t read as something of kind d, of which 'good' holds. -/
def Opens (P : Program) (t : TypeId) {α : Type} (d : Kd α) (good : α → Prop) : Prop :=
  ∀ (fuel : Nat) {H : Type} (enc : TypeId × Value → H) (w : World) (cs : List Value) (x : DataW H × List MemPlace), DataW.trod enc P w 0 (fun _ => true) true fuel t cs = some x → (∀ n ∈ x.1.weights P t, n ≤ reachBytes) → ∃ y, d.K w y cs ∧ good y
theorem opens_int {P : Program} {t : TypeId} {k : IntKind} (ht : P.underlying t = some (.int k)) : Opens P t (Kd.int k) (fun n => (Lit.int k n).wf = true) := by
  intro fuel H enc w cs x hx _
  obtain ⟨n, rfl, rfl, hw⟩ := DataW.trod_int ht hx
  exact ⟨n, rfl, hw⟩
theorem opens_bool {P : Program} {t : TypeId} (ht : P.underlying t = some .bool) : Opens P t Kd.bool (fun _ => True) := by
  intro fuel H enc w cs x hx _
  obtain ⟨b, rfl, rfl⟩ := DataW.trod_bool ht hx
  exact ⟨b, rfl, trivial⟩
theorem opens_string {P : Program} {t : TypeId} (ht : P.underlying t = some .string) : Opens P t Kd.string (fun s => s.size ≤ 140737488351232) := by
  intro fuel H enc w cs x hx hs
  obtain ⟨s, rfl, rfl, _⟩ := DataW.trod_string ht hx
  have := hs s.data.toList.length (by simp [DataW.weights])
  rw [Array.length_toList] at this
  exact ⟨s, rfl, this⟩
theorem weightsAll_mem {H : Type} {P : Program} {e : TypeId} : ∀ {ds : List (DataW H)} {d : DataW H}, d ∈ ds → ∀ n ∈ d.weights P e, n ∈ DataW.weightsAll P e ds := by
  intro ds
  induction ds with
  | nil => intro d hd; cases hd
  | cons a t ih =>
    intro d hd n hn
    rw [DataW.weightsAll, List.mem_append]
    rcases List.mem_cons.1 hd with rfl | hd
    · exact .inl hn
    · exact .inr (ih hd n hn)
theorem opens_slice {P : Program} {t e : TypeId} {α : Type} {d : Kd α} {good : α → Prop} {B : Nat} (ht : P.underlying t = some (.slice e)) (hc : P.cellsOf e = d.sz) (hB : P.bytesOf e = B) (he : Opens P e d good) :
    Opens P t (Kd.slice e d) (fun xs => xs.length ≤ maxLen ∧ xs.length * B ≤ 140737488351232 ∧ ∀ x ∈ xs, good x) := by
  intro fuel H enc w cs x hx hs
  rcases open_slice ht hx with ⟨rfl, rfl⟩ | ⟨a, len, cap, m, n, D, Pl, rfl, _, hl, hm, hme, rfl, hel⟩
  · exact ⟨[], ⟨none, 0, rfl, Nat.le_refl _, Kd.C_nil _ _⟩, Nat.zero_le _, by simp, fun x hx => by cases hx⟩
  · have hmc : m = cap := by simpa using hme
    have hw : ∀ q ∈ (DataW.slice ((List.range len).map D) ((List.range (m - len)).map fun j => D (len + j)) : DataW H).weights P t, q ≤ reachBytes := hs
    rw [DataW.weights, ht] at hw
    have hb := hw _ List.mem_cons_self
    simp only [List.length_map, List.length_range] at hb
    have hex : ∀ i, i < len → ∃ y, (∃ cs', w.cells? 0 (a.add (i * P.cellsOf e)) (P.cellsOf e) = some cs' ∧ d.K w y cs') ∧ good y := by
      intro i hi
      obtain ⟨cs', hcs, htr⟩ := hel i (by omega)
      obtain ⟨y, hy, hg⟩ := he n enc w cs' (D i, Pl i) htr (fun q hq => hw q (List.mem_cons_of_mem _ (List.mem_append_left _ (weightsAll_mem (List.mem_map.2 ⟨i, List.mem_range.2 hi, rfl⟩) q hq))))
      exact ⟨y, ⟨cs', hcs, hy⟩, hg⟩
    have hys : ∃ ys : List α, ys.length = len ∧ ∀ i (h : i < ys.length), (∃ cs', w.cells? 0 (a.add (i * P.cellsOf e)) (P.cellsOf e) = some cs' ∧ d.K w ys[i] cs') ∧ good ys[i] := by
      have key : ∀ j, j ≤ len → ∃ ys : List α, ys.length = j ∧ ∀ i (h : i < ys.length), (∃ cs', w.cells? 0 (a.add (i * P.cellsOf e)) (P.cellsOf e) = some cs' ∧ d.K w ys[i] cs') ∧ good ys[i] := by
        intro j
        induction j with
        | zero => intro _; exact ⟨[], rfl, fun i h => absurd h (Nat.not_lt_zero _)⟩
        | succ j ih =>
          intro hj
          obtain ⟨ys, hy1, hy2⟩ := ih (by omega)
          obtain ⟨y, hy⟩ := hex j (by omega)
          refine ⟨ys ++ [y], by rw [List.length_append, hy1]; rfl, fun i h => ?_⟩
          by_cases hi : i < ys.length
          · rw [List.getElem_append_left hi]; exact hy2 i hi
          · have e : i = ys.length := by rw [List.length_append, List.length_singleton] at h; omega
            subst e
            rw [List.getElem_append_right (Nat.le_refl _)]
            simp only [Nat.sub_self, List.getElem_cons_zero]
            rw [hy1]; exact hy
      exact key len (Nat.le_refl _)
    obtain ⟨ys, hy1, hy2⟩ := hys
    subst hy1
    refine ⟨ys, ⟨some a, cap, rfl, hl, rfl, by unfold maxLen at hm; omega, fun _ => ⟨a, rfl, fun j p hp => ?_⟩⟩, by omega, ?_, fun x hx => ?_⟩
    · obtain ⟨hj, rfl⟩ := List.getElem?_eq_some_iff.1 hp
      obtain ⟨⟨cs', hcs, hk⟩, _⟩ := hy2 j hj
      obtain ⟨_, hlen, hcell⟩ := World.cells?_some hcs
      refine ⟨cs', by rw [hlen, hc], hk, fun i u hu => ?_⟩
      have hi : i < cs'.length := (List.getElem?_eq_some_iff.1 hu).1
      have := hcell i (by omega)
      rw [add_add, hc] at this
      rw [this, hu]
    · rw [← hB]
      have : ys.length * P.bytesOf e ≤ (ys.length + (m - ys.length)) * P.bytesOf e := Nat.mul_le_mul_right _ (by omega)
      exact Nat.le_trans this hb
    · obtain ⟨i, hi, rfl⟩ := List.getElem_of_mem hx
      exact (hy2 i hi).2
/-- Fields, one behind the other, from a cell on. -/
def OpensF (P : Program) (fs : List Field) (off : Nat) {α : Type} (d : Kd α) (good : α → Prop) : Prop :=
  ∀ (fuel : Nat) {H : Type} (enc : TypeId × Value → H) (w : World) (cs : List Value) (xs : List (DataW H × List MemPlace)), xs.length = fs.length →
    (∀ (j : Nat) (f : Field), fs[j]? = some f → DataW.trod enc P w 0 (fun _ => true) true fuel f.type ((cs.drop f.offset).take (P.cellsOf f.type)) = xs[j]?) → (∀ n ∈ DataW.weightsEach P (fs.map (·.type)) (xs.map (·.1)), n ≤ reachBytes) →
    ∃ y, d.K w y ((cs.drop off).take d.sz) ∧ good y
theorem opensF_one {P : Program} {f : Field} {off : Nat} {α : Type} {d : Kd α} {good : α → Prop} (ho : f.offset = off) (hc : P.cellsOf f.type = d.sz) (h : Opens P f.type d good) : OpensF P [f] off d good := by
  intro fuel H enc w cs xs hl hf hs
  obtain ⟨x, rfl⟩ : ∃ x, xs = [x] := by
    match xs, hl with
    | [x], _ => exact ⟨x, rfl⟩
  have h0 := hf 0 f rfl
  rw [ho, hc] at h0
  exact h fuel enc w _ x h0 (fun n hn => hs n (by simpa [DataW.weightsEach] using hn))
theorem opensF_cons {P : Program} {f : Field} {fs : List Field} {off : Nat} {α β : Type} {d : Kd α} {d' : Kd β} {good : α → Prop} {good' : β → Prop} (ho : f.offset = off) (hc : P.cellsOf f.type = d.sz) (h : Opens P f.type d good) (h' : OpensF P fs (off + d.sz) d' good') :
    OpensF P (f :: fs) off (Kd.pair d d') (fun y => good y.1 ∧ good' y.2) := by
  intro fuel H enc w cs xs hl hf hs
  obtain ⟨x, xt, rfl⟩ : ∃ x xt, xs = x :: xt := by
    match xs, hl with
    | x :: xt, _ => exact ⟨x, xt, rfl⟩
  have h0 := hf 0 f rfl
  rw [ho, hc] at h0
  obtain ⟨y, hy, hg⟩ := h fuel enc w _ x h0 (fun n hn => hs n (by simp only [List.map_cons, DataW.weightsEach]; exact List.mem_append_left _ hn))
  obtain ⟨z, hz, hg'⟩ := h' fuel enc w cs xt (by simpa using hl) (fun j f' hj => hf (j + 1) f' hj) (fun n hn => hs n (by simp only [List.map_cons, DataW.weightsEach]; exact List.mem_append_right _ hn))
  refine ⟨(y, z), ⟨(cs.drop off).take d.sz, (cs.drop (off + d.sz)).take d'.sz, ?_, hy, hz⟩, hg, hg'⟩
  show List.take (d.sz + d'.sz) (List.drop off cs) = _
  rw [List.take_add, List.drop_drop]
theorem opens_struct {P : Program} {t : TypeId} {fs : Array Field} {α : Type} {d : Kd α} {good : α → Prop} (ht : P.underlying t = some (.struct fs)) (hc : P.cellsOf t = d.sz) (h : OpensF P fs.toList 0 d good) : Opens P t d good := by
  intro fuel H enc w cs x hx hs
  obtain ⟨xs, n, _, rfl, hl, hlen, hf⟩ := DataW.trod_struct ht hx
  rw [show ((DataW.agg (xs.map (·.1)), xs.flatMap (·.2)) : DataW H × List MemPlace).1 = DataW.agg (xs.map (·.1)) from rfl, DataW.weights, ht] at hs
  obtain ⟨y, hy, hg⟩ := h n enc w cs xs (by rw [hlen, Array.length_toList]) (fun j f hj => hf j f (by rw [← Array.getElem?_toList]; exact hj)) hs
  rw [List.drop_zero, List.take_of_length_le (by omega)] at hy
  exact ⟨y, hy, hg⟩
theorem opens_iso {P : Program} {t : TypeId} {α β : Type} {d : Kd α} {good : α → Prop} {f : β → α} (mk : α → β) (hmk : ∀ a, f (mk a) = a) (h : Opens P t d good) : Opens P t (Kd.iso d f) (fun b => good (f b)) := by
  intro fuel H enc w cs x hx hs
  obtain ⟨y, hy, hg⟩ := h fuel enc w cs x hx hs
  exact ⟨mk y, (by show d.K w (f (mk y)) cs; rw [hmk]; exact hy), (by show good (f (mk y)); rw [hmk]; exact hg)⟩
theorem opens_at {P : Program} {t : TypeId} {α : Type} {d : Kd α} {good : α → Prop} (h : Opens P t d good) {H : Type} {enc : TypeId × Value → H} {w : World} {v : Value} {x : DataW H} {p : List MemPlace} (ht : DataW.Trod enc P w 0 (fun _ => true) true t v x p)
    {ts : List TypeId} {ds : List (DataW H)} (hsz : (DataW.weightsEach P ts ds).all (· ≤ reachBytes) = true) {j : Nat} (hj : ts[j]? = some t) (hd : ds[j]? = some x) : ∃ y, d.K w y v.cells.toList ∧ good y := by
  obtain ⟨fuel, hf⟩ := ht
  refine h fuel enc w _ _ hf (fun n hn => ?_)
  have := List.all_eq_true.1 hsz n (DataW.weights_mem_each hj hd n hn)
  simpa using this
end Go.Proofs.YtjllahglfpbemaaDoorW.PrintWords
