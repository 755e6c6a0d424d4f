/- Texts of this claim, put together (wip/pack.py): SpanJoinsLaw, Opens. -/
import Derived.Test.YtedmjfngpofoaaaK13
import Derived.Test.YtedmjfngpofoaaaWMore
import Derived.ProofKit
import Derived.Deep.Slices
import Derived.SizedLaws
import Derived.OpenShut
namespace Go.Proofs.Ytedmjfngpofoaaa.PSpanTells
open Go Go.RowKit Go.Proofs.YtedmjfngpofoaaaW.PrintWords Go.Proofs.YtedmjfngpofoaaaW.PrintLast Go.Proofs.Ytedmjfngpofoaaa.Spans Go.Proofs.Ytedmjfngpofoaaa.Base
set_option maxHeartbeats 2000000
set_option maxRecDepth 100000
set_option linter.unusedVariables false
set_option linter.unusedSimpArgs false
theorem SpanJoins_calls (A B : Option Addr) (ca cb : Nat) (a b : List R) (w : World) (ha : Kd.C k26 w A a.length a) (hb : Kd.C k26 w B b.length b) (hfa : Fit a) (hfb : Fit b) :
    Calls Try.prog 6 #[.slice A a.length ca, .slice B b.length cb] w fun e w' => e = .returned (.bool true) ∧ Below w.heap.size w w' := by
  obtain ⟨T, hT⟩ : ∃ T : Ending → World → Prop, T = fun e w' => e = .returned (.bool true) ∧ Below w.heap.size w w' := ⟨_, rfl⟩
  have HT := Aside0.mk hT
  rw [← hT]
  clear hT
  have HA := Aside0.mk ha
  have HB := Aside0.mk hb
  have HFA := Aside0.mk hfa
  have HFB := Aside0.mk hfb
  have hma := ha.2.1
  have hmb := hb.2.1
  clear ha hb hfa hfb
  by_cases h1 : (a.length : Int) > 30
  · have h1' : decide ((a.length : Int) > 30) = true := decide_eq_true h1
    go_enter Try.func6, Try.ntmps6
    go_wp2_with fail
    refine (awake04 _).mono ?_
    rintro e w9 ⟨rfl, hb⟩
    go_wp2
    rw [HT.out]
    exact ⟨rfl, hb⟩
  have h1' : decide ((a.length : Int) > 30) = false := decide_eq_false h1
  by_cases h2 : (b.length : Int) > 30
  · have h2' : decide ((b.length : Int) > 30) = true := decide_eq_true h2
    go_enter Try.func6, Try.ntmps6
    go_wp2_with fail
    refine (awake04 _).mono ?_
    rintro e w9 ⟨rfl, hb⟩
    go_wp2
    rw [HT.out]
    exact ⟨rfl, hb⟩
  have h2' : decide ((b.length : Int) > 30) = false := decide_eq_false h2
  have HE := Aside0.mk (empty_R w)
  have HBE := Aside0.mk (below_alloc (Below.refl w.heap.size w) (.cells #[] 26))
  have HA0 := Aside0.mk (Kd.C_below HA.out (below_alloc (Below.refl _ w) (.cells #[] 26)))
  go_enter Try.func6, Try.ntmps6
  go_wp2_with fail
  refine (span_Norm_calls A ca a _ HA0.out (by omega) HFA.out).mono ?_
  rintro e w1 ⟨v1, na, rfl, hR, hN, hb⟩
  obtain ⟨A1, c1, rfl, _, hC1⟩ := Kd.R_reads hR
  have HB1 := Aside0.mk (below_step HBE.out hb)
  have HC1 := Aside0.mk hC1
  have HNA := Aside0.mk hN
  have HE1 := Aside0.mk (Kd.R_below HE.out hb)
  have hla : na.length ≤ 30 := by have := hN.len; omega
  clear hR hC1 hb hN HE HBE HA0
  go_wp2_with ((with_reducible refine gate_builtin (b := .append) (xs := #[.tmp 16, .tmp 18]) rfl ?_); at_builtin; go_loud (refine Kd.R_append_rows k26 (Rr := k26.K _) (w0 := w) w.heap.size rfl (.tmp 16) (.tmp 18) 22 26 (.agg #[.int .i64 0, .int .i64 0]) 16 rfl Try.underlying22 info26 rfl (by decide) (by decide) (.slice (some ⟨w.heap.size, 0, none⟩) 0 0) ([]) na (A1) (na.length) (c1) (fun _ => True) (fun k => some k ≠ Value.ownBlock (.slice (some ⟨w.heap.size, 0, none⟩) 0 0)) rfl rfl HE1.out HC1.out (fun x cs h => by rw [k26_open h]; exact k26_mkM _ _ _ x) (fun k hk => ⟨trivial, hk⟩) (fun _ _ => trivial) HB1.out HB1.out.size (by first | omega | (simp; omega) | simp) ?_); intro v2 w2 hR hB hG _; have HR2 := Aside0.mk hR; have HB2 := Aside0.mk hB; have HG2 := Aside0.mk hG; clear hR hB hG)
  rw [List.nil_append] at HR2
  have HB02 := Aside0.mk (Kd.C_below HB.out HB2.out)
  refine (span_Norm_calls B cb b _ HB02.out (by omega) HFB.out).mono ?_
  rintro e w3 ⟨v3, nb, rfl, hR, hN, hb⟩
  obtain ⟨A3, c3, rfl, _, hC3⟩ := Kd.R_reads hR
  have HB3 := Aside0.mk (below_step HB2.out hb)
  have HC3 := Aside0.mk hC3
  have HNB := Aside0.mk hN
  have HR3 := Aside0.mk (Kd.R_below HR2.out hb)
  have hlb : nb.length ≤ 30 := by have := hN.len; omega
  clear hR hC3 hb hN HR2 HB2 HB02 HB1 HC1 HE1
  go_wp2_with ((with_reducible refine gate_builtin (b := .append) (xs := #[.tmp 19, .tmp 21]) rfl ?_); at_builtin; go_loud (refine Kd.R_append_rows k26 (Rr := k26.K _) (w0 := w) w.heap.size rfl (.tmp 19) (.tmp 21) 22 26 (.agg #[.int .i64 0, .int .i64 0]) 16 rfl Try.underlying22 info26 rfl (by decide) (by decide) (v2) (na) nb (A3) (nb.length) (c3) (fun _ => True) (fun k => some k ≠ Value.ownBlock (v2)) rfl rfl HR3.out HC3.out (fun x cs h => by rw [k26_open h]; exact k26_mkM _ _ _ x) (fun k hk => ⟨trivial, hk⟩) (fun _ _ => trivial) HB3.out HB3.out.size (by first | omega | (simp; omega) | simp) ?_); intro v4 w4 hR hB hG _; have HR4 := Aside0.mk hR; have HB4 := Aside0.mk hB; have HG4 := Aside0.mk hG; clear hR hB hG)
  obtain ⟨A4, c4, rfl, _, hC4⟩ := Kd.R_reads HR4.out
  have HC4 := Aside0.mk hC4
  have HF4 := Aside0.mk (show Fit (na ++ nb) from fun x hx => (List.mem_append.1 hx).elim (HNA.out.fit x) (HNB.out.fit x))
  have HL4 := Aside0.mk (show (na ++ nb).length ≤ 60 by rw [List.length_append]; omega)
  have HH4 := Aside0.mk (show ∀ n, hasB (na ++ nb) n = hasB (a ++ b) n from fun n => by rw [hasB_append, hasB_append, HNA.out.has, HNB.out.has])
  clear hC4 HR4 HR3 HC3 HB3 HNA HNB
  generalize na ++ nb = nab at HC4 HF4 HL4 HH4 ⊢
  refine (span_Norm_calls A4 c4 nab _ HC4.out (by have := HL4.out; omega) HF4.out).mono ?_
  rintro e w5 ⟨v5, x, rfl, hR, hN, hb⟩
  obtain ⟨A5, c5, rfl, hc5, hC5⟩ := Kd.R_reads hR
  have HB5 := Aside0.mk (below_step HB4.out hb)
  have HNX := Aside0.mk hN
  have HCC5 := Aside0.mk hc5
  have HE5 := Aside0.mk (empty_R w5)
  have HBA5 := Aside0.mk (below_alloc (Below.refl w5.heap.size w5) (.cells #[] 26))
  have HC5 := Aside0.mk hC5
  have HA5 := Aside0.mk (Kd.C_below HA.out (below_step HB5.out HBA5.out))
  have hlx : x.length ≤ 60 := by have := hN.len; have := HL4.out; omega
  clear hR hC5 hb hN HC4 hc5
  go_wp2_with (first | ((with_reducible refine gate_builtin (b := .append) (xs := #[.tmp 24, .tmp 25]) rfl ?_); at_builtin; go_loud (refine Kd.R_append_rows k26 (Rr := k26.K _) (w0 := w5) w5.heap.size rfl (.tmp 24) (.tmp 25) 22 26 (.agg #[.int .i64 0, .int .i64 0]) 16 rfl Try.underlying22 info26 rfl (by decide) (by decide) (.slice (some ⟨w5.heap.size, 0, none⟩) 0 0) ([]) a (A) (a.length) (ca) (fun _ => True) (fun k => some k ≠ Value.ownBlock (.slice (some ⟨w5.heap.size, 0, none⟩) 0 0)) rfl rfl HE5.out HA5.out (fun x cs h => by rw [k26_open h]; exact k26_mkM _ _ _ x) (fun k hk => ⟨trivial, hk⟩) (fun _ _ => trivial) HBA5.out HBA5.out.size (by first | omega | (simp; omega) | simp) ?_); intro v6 w6 hR hB hG _; rw [List.nil_append] at hR; have HB06 := Aside0.mk (Kd.C_below HB.out (below_step HB5.out hB)); have HR6 := Aside0.mk hR; have HB6 := Aside0.mk hB; have HG6 := Aside0.mk hG; clear hR hB hG) | ((with_reducible refine gate_builtin (b := .append) (xs := #[.tmp 26, .tmp 27]) rfl ?_); at_builtin; go_loud (refine Kd.R_append_rows k26 (Rr := k26.K _) (w0 := w5) w5.heap.size rfl (.tmp 26) (.tmp 27) 22 26 (.agg #[.int .i64 0, .int .i64 0]) 16 rfl Try.underlying22 info26 rfl (by decide) (by decide) (v6) (a) b (B) (b.length) (cb) (fun _ => True) (fun k => some k ≠ Value.ownBlock (v6)) rfl rfl HR6.out HB06.out (fun x cs h => by rw [k26_open h]; exact k26_mkM _ _ _ x) (fun k hk => ⟨trivial, hk⟩) (fun _ _ => trivial) HB6.out HB6.out.size (by first | omega | (simp; omega) | simp) ?_); intro v7 w7 hR hB hG _; have HR7 := Aside0.mk hR; have HB7 := Aside0.mk hB; have HG7 := Aside0.mk hG; clear hR hB hG))
  clear HE5 HA5 HBA5
  obtain ⟨A7, c7, rfl, _, hC7⟩ := Kd.R_reads HR7.out
  have HC7 := Aside0.mk hC7
  have HF7 := Aside0.mk (show Fit (a ++ b) from fun x hx => (List.mem_append.1 hx).elim (HFA.out x) (HFB.out x))
  have HL7 := Aside0.mk (show (a ++ b).length ≤ 60 by rw [List.length_append]; omega)
  have HCX := Aside0.mk (Kd.C_below HC5.out HB7.out)
  have HBX := Aside0.mk (below_step HB5.out HB7.out)
  clear hC7 HR7 HB06 HR6 HB6 HC5 HB5 HB7
  generalize a ++ b = ab at HC7 HF7 HL7 HH4 ⊢
  refine (span_Norm_calls A7 c7 ab _ HC7.out (by have := HL7.out; omega) HF7.out).mono ?_
  rintro e w8 ⟨v8, y, rfl, hR, hN, hb⟩
  obtain rfl : x = y := HNX.out.uniq hN HH4.out
  obtain ⟨A8, c8, rfl, hc8, hC8⟩ := Kd.R_reads hR
  have HB8 := Aside0.mk (below_step HBX.out hb)
  have HCX8 := Aside0.mk (Kd.C_below HCX.out hb)
  have HCY8 := Aside0.mk hC8
  have HCC8 := Aside0.mk hc8
  clear hR hC8 hb hN HC7 hc8 HBX HCX
  have HRT := Aside0.mk ((right_eq x HNX.out.fit (by omega) 100 (by omega)).1)
  have hok : okFrom none x = true := okFrom_none.2 HNX.out.rt
  rw [hok] at HRT
  clear hok
  have HSA := Aside0.mk ((same_eq x x (by omega) 100 (by omega)).2)
  rw [decide_eq_true (rfl : x = x)] at HSA
  go_wp2_with fail
  refine (awake04 _).mono ?_
  rintro e w9 ⟨rfl, hb⟩
  have HB9 := Aside0.mk (below_step HB8.out hb)
  have HCX9 := Aside0.mk (Kd.C_below HCX8.out hb)
  have HCY9 := Aside0.mk (Kd.C_below HCY8.out hb)
  clear hb HB8 HCX8 HCY8
  go_wp2_with fail
  refine (span_Same.calls 100 A5 c5 x A8 c8 x true _ HCX9.out HCC5.out HCY9.out HCC8.out HSA.out).mono ?_
  rintro e w10 ⟨rfl, hd⟩
  have hb := hd.below
  have HB10 := Aside0.mk (below_step HB9.out hb)
  have HCX10 := Aside0.mk (Kd.C_below HCX9.out hb)
  clear hb hd HB9 HCX9 HCY9
  go_wp2_with fail
  refine (span_Right.calls 100 A5 c5 x true _ HCX10.out HCC5.out HRT.out).mono ?_
  rintro e w11 ⟨rfl, hb⟩
  have HB11 := Aside0.mk (below_step HB10.out hb)
  clear hb HB10
  go_wp2_with fail
  rw [HT.out]
  exact ⟨rfl, HB11.out⟩
end Go.Proofs.Ytedmjfngpofoaaa.PSpanTells
namespace Go.Proofs.YtedmjfngpofoaaaW.PrintWords
open Go.ChangeShapes Go.WideShapes Go.RowKit Go.Deep
/-- Data of type t read as something of kind d, of which 'good' holds. -/
def Opens (P : Program) (t : TypeId) {α : Type} (d : Kd α) (good : α → Prop) : Prop :=
  ∀ (fuel : Nat) {H : Type} (enc : TypeId × Value → H) (w : World) (cs : List Value) (x : DataW H × List MemPlace), DataW.trod enc P w 0 (fun _ => true) true fuel t cs = some x → (∀ n ∈ x.1.weights P t, n ≤ reachBytes) → ∃ y, d.K w y cs ∧ good y
theorem opens_int {P : Program} {t : TypeId} {k : IntKind} (ht : P.underlying t = some (.int k)) : Opens P t (Kd.int k) (fun n => (Lit.int k n).wf = true) := by
  intro fuel H enc w cs x hx _
  obtain ⟨n, rfl, rfl, hw⟩ := DataW.trod_int ht hx
  exact ⟨n, rfl, hw⟩
theorem opens_bool {P : Program} {t : TypeId} (ht : P.underlying t = some .bool) : Opens P t Kd.bool (fun _ => True) := by
  intro fuel H enc w cs x hx _
  obtain ⟨b, rfl, rfl⟩ := DataW.trod_bool ht hx
  exact ⟨b, rfl, trivial⟩
theorem opens_string {P : Program} {t : TypeId} (ht : P.underlying t = some .string) : Opens P t Kd.string (fun s => s.size ≤ 140737488351232) := by
  intro fuel H enc w cs x hx hs
  obtain ⟨s, rfl, rfl, _⟩ := DataW.trod_string ht hx
  have := hs s.data.toList.length (by simp [DataW.weights])
  rw [Array.length_toList] at this
  exact ⟨s, rfl, this⟩
theorem weightsAll_mem {H : Type} {P : Program} {e : TypeId} : ∀ {ds : List (DataW H)} {d : DataW H}, d ∈ ds → ∀ n ∈ d.weights P e, n ∈ DataW.weightsAll P e ds := by
  intro ds
  induction ds with
  | nil => intro d hd; cases hd
  | cons a t ih =>
    intro d hd n hn
    rw [DataW.weightsAll, List.mem_append]
    rcases List.mem_cons.1 hd with rfl | hd
    · exact .inl hn
    · exact .inr (ih hd n hn)
theorem opens_slice {P : Program} {t e : TypeId} {α : Type} {d : Kd α} {good : α → Prop} {B : Nat} (ht : P.underlying t = some (.slice e)) (hc : P.cellsOf e = d.sz) (hB : P.bytesOf e = B) (he : Opens P e d good) :
    Opens P t (Kd.slice e d) (fun xs => xs.length ≤ maxLen ∧ xs.length * B ≤ 140737488351232 ∧ ∀ x ∈ xs, good x) := by
  intro fuel H enc w cs x hx hs
  rcases open_slice ht hx with ⟨rfl, rfl⟩ | ⟨a, len, cap, m, n, D, Pl, rfl, _, hl, hm, hme, rfl, hel⟩
  · exact ⟨[], ⟨none, 0, rfl, Nat.le_refl _, Kd.C_nil _ _⟩, Nat.zero_le _, by simp, fun x hx => by cases hx⟩
  · have hmc : m = cap := by simpa using hme
    have hw : ∀ q ∈ (DataW.slice ((List.range len).map D) ((List.range (m - len)).map fun j => D (len + j)) : DataW H).weights P t, q ≤ reachBytes := hs
    rw [DataW.weights, ht] at hw
    have hb := hw _ List.mem_cons_self
    simp only [List.length_map, List.length_range] at hb
    have hex : ∀ i, i < len → ∃ y, (∃ cs', w.cells? 0 (a.add (i * P.cellsOf e)) (P.cellsOf e) = some cs' ∧ d.K w y cs') ∧ good y := by
      intro i hi
      obtain ⟨cs', hcs, htr⟩ := hel i (by omega)
      obtain ⟨y, hy, hg⟩ := he n enc w cs' (D i, Pl i) htr (fun q hq => hw q (List.mem_cons_of_mem _ (List.mem_append_left _ (weightsAll_mem (List.mem_map.2 ⟨i, List.mem_range.2 hi, rfl⟩) q hq))))
      exact ⟨y, ⟨cs', hcs, hy⟩, hg⟩
    have hys : ∃ ys : List α, ys.length = len ∧ ∀ i (h : i < ys.length), (∃ cs', w.cells? 0 (a.add (i * P.cellsOf e)) (P.cellsOf e) = some cs' ∧ d.K w ys[i] cs') ∧ good ys[i] := by
      have key : ∀ j, j ≤ len → ∃ ys : List α, ys.length = j ∧ ∀ i (h : i < ys.length), (∃ cs', w.cells? 0 (a.add (i * P.cellsOf e)) (P.cellsOf e) = some cs' ∧ d.K w ys[i] cs') ∧ good ys[i] := by
        intro j
        induction j with
        | zero => intro _; exact ⟨[], rfl, fun i h => absurd h (Nat.not_lt_zero _)⟩
        | succ j ih =>
          intro hj
          obtain ⟨ys, hy1, hy2⟩ := ih (by omega)
          obtain ⟨y, hy⟩ := hex j (by omega)
          refine ⟨ys ++ [y], by rw [List.length_append, hy1]; rfl, fun i h => ?_⟩
          by_cases hi : i < ys.length
          · rw [List.getElem_append_left hi]; exact hy2 i hi
          · have e : i = ys.length := by rw [List.length_append, List.length_singleton] at h; omega
            subst e
            rw [List.getElem_append_right (Nat.le_refl _)]
            simp only [Nat.sub_self, List.getElem_cons_zero]
            rw [hy1]; exact hy
      exact key len (Nat.le_refl _)
    obtain ⟨ys, hy1, hy2⟩ := hys
    subst hy1
    refine ⟨ys, ⟨some a, cap, rfl, hl, rfl, by unfold maxLen at hm; omega, fun _ => ⟨a, rfl, fun j p hp => ?_⟩⟩, by omega, ?_, fun x hx => ?_⟩
    · obtain ⟨hj, rfl⟩ := List.getElem?_eq_some_iff.1 hp
      obtain ⟨⟨cs', hcs, hk⟩, _⟩ := hy2 j hj
      obtain ⟨_, hlen, hcell⟩ := World.cells?_some hcs
      refine ⟨cs', by rw [hlen, hc], hk, fun i u hu => ?_⟩
      have hi : i < cs'.length := (List.getElem?_eq_some_iff.1 hu).1
      have := hcell i (by omega)
      rw [add_add, hc] at this
      rw [this, hu]
    · rw [← hB]
      have : ys.length * P.bytesOf e ≤ (ys.length + (m - ys.length)) * P.bytesOf e := Nat.mul_le_mul_right _ (by omega)
      exact Nat.le_trans this hb
    · obtain ⟨i, hi, rfl⟩ := List.getElem_of_mem hx
      exact (hy2 i hi).2
/-- Fields, one behind the other, from a cell on. -/
def OpensF (P : Program) (fs : List Field) (off : Nat) {α : Type} (d : Kd α) (good : α → Prop) : Prop :=
  ∀ (fuel : Nat) {H : Type} (enc : TypeId × Value → H) (w : World) (cs : List Value) (xs : List (DataW H × List MemPlace)), xs.length = fs.length →
    (∀ (j : Nat) (f : Field), fs[j]? = some f → DataW.trod enc P w 0 (fun _ => true) true fuel f.type ((cs.drop f.offset).take (P.cellsOf f.type)) = xs[j]?) → (∀ n ∈ DataW.weightsEach P (fs.map (·.type)) (xs.map (·.1)), n ≤ reachBytes) →
    ∃ y, d.K w y ((cs.drop off).take d.sz) ∧ good y
theorem opensF_one {P : Program} {f : Field} {off : Nat} {α : Type} {d : Kd α} {good : α → Prop} (ho : f.offset = off) (hc : P.cellsOf f.type = d.sz) (h : Opens P f.type d good) : OpensF P [f] off d good := by
  intro fuel H enc w cs xs hl hf hs
  obtain ⟨x, rfl⟩ : ∃ x, xs = [x] := by
    match xs, hl with
    | [x], _ => exact ⟨x, rfl⟩
  have h0 := hf 0 f rfl
  rw [ho, hc] at h0
  exact h fuel enc w _ x h0 (fun n hn => hs n (by simpa [DataW.weightsEach] using hn))
theorem opensF_cons {P : Program} {f : Field} {fs : List Field} {off : Nat} {α β : Type} {d : Kd α} {d' : Kd β} {good : α → Prop} {good' : β → Prop} (ho : f.offset = off) (hc : P.cellsOf f.type = d.sz) (h : Opens P f.type d good) (h' : OpensF P fs (off + d.sz) d' good') :
    OpensF P (f :: fs) off (Kd.pair d d') (fun y => good y.1 ∧ good' y.2) := by
  intro fuel H enc w cs xs hl hf hs
  obtain ⟨x, xt, rfl⟩ : ∃ x xt, xs = x :: xt := by
    match xs, hl with
    | x :: xt, _ => exact ⟨x, xt, rfl⟩
  have h0 := hf 0 f rfl
  rw [ho, hc] at h0
  obtain ⟨y, hy, hg⟩ := h fuel enc w _ x h0 (fun n hn => hs n (by simp only [List.map_cons, DataW.weightsEach]; exact List.mem_append_left _ hn))
  obtain ⟨z, hz, hg'⟩ := h' fuel enc w cs xt (by simpa using hl) (fun j f' hj => hf (j + 1) f' hj) (fun n hn => hs n (by simp only [List.map_cons, DataW.weightsEach]; exact List.mem_append_right _ hn))
  refine ⟨(y, z), ⟨(cs.drop off).take d.sz, (cs.drop (off + d.sz)).take d'.sz, ?_, hy, hz⟩, hg, hg'⟩
  show List.take (d.sz + d'.sz) (List.drop off cs) = _
  rw [List.take_add, List.drop_drop]
theorem opens_struct {P : Program} {t : TypeId} {fs : Array Field} {α : Type} {d : Kd α} {good : α → Prop} (ht : P.underlying t = some (.struct fs)) (hc : P.cellsOf t = d.sz) (h : OpensF P fs.toList 0 d good) : Opens P t d good := by
  intro fuel H enc w cs x hx hs
  obtain ⟨xs, n, _, rfl, hl, hlen, hf⟩ := DataW.trod_struct ht hx
  rw [show ((DataW.agg (xs.map (·.1)), xs.flatMap (·.2)) : DataW H × List MemPlace).1 = DataW.agg (xs.map (·.1)) from rfl, DataW.weights, ht] at hs
  obtain ⟨y, hy, hg⟩ := h n enc w cs xs (by rw [hlen, Array.length_toList]) (fun j f hj => hf j f (by rw [← Array.getElem?_toList]; exact hj)) hs
  rw [List.drop_zero, List.take_of_length_le (by omega)] at hy
  exact ⟨y, hy, hg⟩
theorem opens_iso {P : Program} {t : TypeId} {α β : Type} {d : Kd α} {good : α → Prop} {f : β → α} (mk : α → β) (hmk : ∀ a, f (mk a) = a) (h : Opens P t d good) : Opens P t (Kd.iso d f) (fun b => good (f b)) := by
  intro fuel H enc w cs x hx hs
  obtain ⟨y, hy, hg⟩ := h fuel enc w cs x hx hs
  exact ⟨mk y, (by show d.K w (f (mk y)) cs; rw [hmk]; exact hy), (by show good (f (mk y)); rw [hmk]; exact hg)⟩
theorem opens_at {P : Program} {t : TypeId} {α : Type} {d : Kd α} {good : α → Prop} (h : Opens P t d good) {H : Type} {enc : TypeId × Value → H} {w : World} {v : Value} {x : DataW H} {p : List MemPlace} (ht : DataW.Trod enc P w 0 (fun _ => true) true t v x p)
    {ts : List TypeId} {ds : List (DataW H)} (hsz : (DataW.weightsEach P ts ds).all (· ≤ reachBytes) = true) {j : Nat} (hj : ts[j]? = some t) (hd : ds[j]? = some x) : ∃ y, d.K w y v.cells.toList ∧ good y := by
  obtain ⟨fuel, hf⟩ := ht
  refine h fuel enc w _ _ hf (fun n hn => ?_)
  have := List.all_eq_true.1 hsz n (DataW.weights_mem_each hj hd n hn)
  simpa using this
end Go.Proofs.YtedmjfngpofoaaaW.PrintWords
