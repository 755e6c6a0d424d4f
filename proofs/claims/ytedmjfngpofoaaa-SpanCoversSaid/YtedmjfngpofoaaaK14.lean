/- Texts of this claim, put together (wip/pack.py): SpanCoversLaw, Opens. -/
import Derived.Test.YtedmjfngpofoaaaK13
import Derived.Test.YtedmjfngpofoaaaWMore
import Derived.ProofKit
import Derived.Deep.Slices
import Derived.SizedLaws
import Derived.OpenShut
namespace Go.Proofs.Ytedmjfngpofoaaa.PSpanTells
open Go Go.RowKit Go.Proofs.YtedmjfngpofoaaaW.PrintWords Go.Proofs.YtedmjfngpofoaaaW.PrintLast Go.Proofs.Ytedmjfngpofoaaa.Spans Go.Proofs.Ytedmjfngpofoaaa.Base
set_option maxHeartbeats 2000000
set_option maxRecDepth 100000
set_option linter.unusedVariables false
set_option linter.unusedSimpArgs false
theorem wfi16 {n : Int} (h : (Lit.int .i16 n).wf = true) : -32768 ≤ n ∧ n ≤ 32767 := by
  have : IntKind.i16.min ≤ n ∧ n ≤ IntKind.i16.max := by simpa [Lit.wf] using h
  exact this
def allB (l : List R) (low : Int) (j : Nat) : Bool := (List.range j).all fun i => hasB l (low + (i : Int))
theorem allB_succ (l : List R) (low : Int) (j : Nat) : allB l low (j + 1) = (allB l low j && hasB l (low + (j : Int))) := by
  unfold allB; rw [List.range_succ, List.all_append]; simp
theorem allB_in (l : List R) (low : Int) (m : Nat) : allB l low m = true ↔ AllIn l ⟨low, low + (m : Int) - 1⟩ := by
  unfold allB AllIn
  rw [List.all_eq_true]
  constructor
  · intro h n h1 h2
    simp only at h1 h2
    have := h (n - low).toNat (List.mem_range.2 (by omega))
    rwa [show low + ((n - low).toNat : Int) = n from by omega] at this
  · intro h i hi
    exact h _ (by show low ≤ _; omega) (by show _ ≤ low + (m : Int) - 1; have := List.mem_range.1 hi; omega)
theorem SpanCovers_calls (A : Option Addr) (c : Nat) (l : List R) (low n : Int) (w : World) (ha : Kd.C k26 w A l.length l) (hf : Fit l) (hlow : -32768 ≤ low ∧ low ≤ 32767) (hn : 0 ≤ n ∧ n ≤ 255) :
    Calls Try.prog 3 #[.slice A l.length c, .int .i16 low, .int .u8 n] w fun e w' => e = .returned (.bool true) ∧ Below w.heap.size w w' := by
  obtain ⟨T, hT⟩ : ∃ T : Ending → World → Prop, T = fun e w' => e = .returned (.bool true) ∧ Below w.heap.size w w' := ⟨_, rfl⟩
  have HT := Aside0.mk hT
  rw [← hT]
  clear hT
  have HA := Aside0.mk ha
  have HF := Aside0.mk hf
  have hma := ha.2.1
  clear ha hf
  by_cases h1 : (l.length : Int) > 30
  · have h1' : decide ((l.length : Int) > 30) = true := decide_eq_true h1
    go_enter Try.func3, Try.ntmps3
    go_wp2_with fail
    refine (awake04 _).mono ?_
    rintro e w9 ⟨rfl, hb⟩
    go_wp2
    rw [HT.out]
    exact ⟨rfl, hb⟩
  have h1' : decide ((l.length : Int) > 30) = false := decide_eq_false h1
  obtain ⟨m, hm, hm99⟩ : ∃ m : Nat, n % 100 = (m : Int) ∧ m ≤ 99 := ⟨(n % 100).toNat, by omega, by omega⟩
  obtain ⟨hi, hhi⟩ : ∃ hi : Int, hi = low + (m : Int) - 1 := ⟨_, rfl⟩
  have HHI := Aside0.mk hhi
  have HM := Aside0.mk hm
  have hib : -32769 ≤ hi ∧ hi ≤ 40000 := by omega
  have hw1 : IntKind.i64.wrap low = low := by rw [i64_w, w64 (by omega) (by omega)]
  have hw2 : IntKind.i64.wrap (n % 100) = (m : Int) := by rw [hm, i64_w, w64 (by omega) (by omega)]
  have hw3 : wrap64 (low + (m : Int) - 1) = hi := by rw [w64 (by omega) (by omega)]; omega
  clear hm hhi
  go_enter Try.func3, Try.ntmps3
  go_upto_region 4 with (fail)
  have HN := Aside0.mk (blk_new w (.cells #[.int .i64 low, .int .i64 (low + (m : Int) - 1)] 26))
  have HB := Aside0.mk (below_alloc (Below.refl w.heap.size w) (.cells #[.int .i64 low, .int .i64 (low + (m : Int) - 1)] 26))
  obtain ⟨rb, hrb⟩ : ∃ rb, rb = w.heap.size := ⟨_, rfl⟩
  rw [← hrb] at HN ⊢
  have HRB := Aside0.mk (Nat.le_of_eq hrb.symm)
  clear hrb
  generalize w.alloc (.cells #[.int .i64 low, .int .i64 (low + (m : Int) - 1)] 26) = w0 at HN HB ⊢
  have r0 : w0.cell? ⟨rb, 0, none⟩ = some (.int .i64 low) := blk_cell HN.out 0
  clear hw1 hw2 hw3
  go_wp2_with fail
  clear r0
  go_loopg [8, 9] m (fun gg s8 s9 wr => ∃ (j : Nat) (ab : Bool), j ≤ m ∧ m - j ≤ gg ∧ s8 = .bool ab ∧ s9 = .int .i64 (low + (j : Int)) ∧ Aside0 (ab = allB l low j) ∧ Aside0 (wr.heap[rb]? = some (.cells #[.int .i64 low, .int .i64 (low + (m : Int) - 1)] 26 (0, 0))) ∧ Aside0 (Below w.heap.size w wr))
  case atStart => exact ⟨0, true, Nat.zero_le _, by omega, rfl, by simp, ⟨rfl⟩, HN, HB⟩
  case round =>
    obtain ⟨j, ab, hjm, hgg, rfl, rfl, HAB, HNr, HBr⟩ := hrel
    have r1 : wr.cell? ⟨rb, 1, none⟩ = some (.int .i64 (low + (m : Int) - 1)) := blk_cell HNr.out 1
    have r0 : wr.cell? ⟨rb, 0, none⟩ = some (.int .i64 low) := blk_cell HNr.out 0
    by_cases hlt : j < m
    · have hle : low + (j : Int) ≤ low + (m : Int) - 1 := by omega
      have hled : decide (low + (j : Int) ≤ low + (m : Int) - 1) = true := decide_eq_true hle
      have X := Aside0.mk (span_Has_calls A c l (low + (j : Int)) wr (Kd.C_below HA.out HBr.out) (by omega))
      obtain ⟨hh, hhe⟩ : ∃ hh, hh = (l.any fun r => decide (r.f0 ≤ low + (j : Int)) && decide (low + (j : Int) ≤ r.f1)) := ⟨_, rfl⟩
      rw [← hhe] at X
      have HH := Aside0.mk hhe
      clear hhe
      cases ab with
      | false =>
        go_wp2_with fail
        go_roundg (m - (j + 1))
        case measure => omega
        case rel => exact ⟨j + 1, false, by omega, Nat.le_refl _, rfl, by first | go_num | (congr 1; omega), ⟨by rw [allB_succ, ← HAB.out, Bool.false_and]⟩, HNr, HBr⟩
      | true =>
        go_wp2_with fail
        refine X.out.mono ?_
        rintro e w2 ⟨rfl, hb⟩
        have HN2 := Aside0.mk (blk_below HNr.out hb)
        have HB2 := Aside0.mk (below_step HBr.out hb)
        clear hb r0 r1
        go_wp2_with fail
        go_roundg (m - (j + 1))
        case measure => omega
        case rel => exact ⟨j + 1, hh, by omega, Nat.le_refl _, rfl, by first | go_num | (congr 1; omega), ⟨by rw [allB_succ, ← HAB.out, Bool.true_and, HH.out]; rfl⟩, HN2, HB2⟩
    · obtain rfl : j = m := by omega
      have hle : ¬ low + (j : Int) ≤ low + (j : Int) - 1 := by omega
      have hled : decide (low + (j : Int) ≤ low + (j : Int) - 1) = false := decide_eq_false hle
      go_wp2_with fail
      refine (awake04 _).mono ?_
      rintro e w2 ⟨rfl, hb⟩
      have HN2 := Aside0.mk (blk_below HNr.out hb)
      have HB2 := Aside0.mk (below_step HBr.out hb)
      clear hb r0 r1
      have r1 : w2.cell? ⟨rb, 1, none⟩ = some (.int .i64 (low + (j : Int) - 1)) := blk_cell HN2.out 1
      have r0 : w2.cell? ⟨rb, 0, none⟩ = some (.int .i64 low) := blk_cell HN2.out 0
      go_wp2_with fail
      refine (span_Covers_calls A c l ⟨low, low + (j : Int) - 1⟩ _ (Kd.C_below HA.out HB2.out) (by omega) HF.out).mono ?_
      rintro e w3 ⟨b, rfl, hbc, hb⟩
      obtain rfl : b = ab := by
        have h := HAB.out
        rw [h, Bool.eq_iff_iff, hbc, allB_in]
      have HB3 := Aside0.mk (below_step HB2.out hb)
      clear hb hbc
      go_wp2_with fail
      rw [HT.out]
      exact ⟨rfl, HB3.out⟩
end Go.Proofs.Ytedmjfngpofoaaa.PSpanTells
namespace Go.Proofs.YtedmjfngpofoaaaW.PrintWords
open Go.ChangeShapes Go.WideShapes Go.RowKit Go.Deep
/-- Data of type t read as something of kind d, of which 'good' holds. -/
def Opens (P : Program) (t : TypeId) {α : Type} (d : Kd α) (good : α → Prop) : Prop :=
  ∀ (fuel : Nat) {H : Type} (enc : TypeId × Value → H) (w : World) (cs : List Value) (x : DataW H × List MemPlace), DataW.trod enc P w 0 (fun _ => true) true fuel t cs = some x → (∀ n ∈ x.1.weights P t, n ≤ reachBytes) → ∃ y, d.K w y cs ∧ good y
theorem opens_int {P : Program} {t : TypeId} {k : IntKind} (ht : P.underlying t = some (.int k)) : Opens P t (Kd.int k) (fun n => (Lit.int k n).wf = true) := by
  intro fuel H enc w cs x hx _
  obtain ⟨n, rfl, rfl, hw⟩ := DataW.trod_int ht hx
  exact ⟨n, rfl, hw⟩
theorem opens_bool {P : Program} {t : TypeId} (ht : P.underlying t = some .bool) : Opens P t Kd.bool (fun _ => True) := by
  intro fuel H enc w cs x hx _
  obtain ⟨b, rfl, rfl⟩ := DataW.trod_bool ht hx
  exact ⟨b, rfl, trivial⟩
theorem opens_string {P : Program} {t : TypeId} (ht : P.underlying t = some .string) : Opens P t Kd.string (fun s => s.size ≤ 140737488351232) := by
  intro fuel H enc w cs x hx hs
  obtain ⟨s, rfl, rfl, _⟩ := DataW.trod_string ht hx
  have := hs s.data.toList.length (by simp [DataW.weights])
  rw [Array.length_toList] at this
  exact ⟨s, rfl, this⟩
theorem weightsAll_mem {H : Type} {P : Program} {e : TypeId} : ∀ {ds : List (DataW H)} {d : DataW H}, d ∈ ds → ∀ n ∈ d.weights P e, n ∈ DataW.weightsAll P e ds := by
  intro ds
  induction ds with
  | nil => intro d hd; cases hd
  | cons a t ih =>
    intro d hd n hn
    rw [DataW.weightsAll, List.mem_append]
    rcases List.mem_cons.1 hd with rfl | hd
    · exact .inl hn
    · exact .inr (ih hd n hn)
theorem opens_slice {P : Program} {t e : TypeId} {α : Type} {d : Kd α} {good : α → Prop} {B : Nat} (ht : P.underlying t = some (.slice e)) (hc : P.cellsOf e = d.sz) (hB : P.bytesOf e = B) (he : Opens P e d good) :
    Opens P t (Kd.slice e d) (fun xs => xs.length ≤ maxLen ∧ xs.length * B ≤ 140737488351232 ∧ ∀ x ∈ xs, good x) := by
  intro fuel H enc w cs x hx hs
  rcases open_slice ht hx with ⟨rfl, rfl⟩ | ⟨a, len, cap, m, n, D, Pl, rfl, _, hl, hm, hme, rfl, hel⟩
  · exact ⟨[], ⟨none, 0, rfl, Nat.le_refl _, Kd.C_nil _ _⟩, Nat.zero_le _, by simp, fun x hx => by cases hx⟩
  · have hmc : m = cap := by simpa using hme
    have hw : ∀ q ∈ (DataW.slice ((List.range len).map D) ((List.range (m - len)).map fun j => D (len + j)) : DataW H).weights P t, q ≤ reachBytes := hs
    rw [DataW.weights, ht] at hw
    have hb := hw _ List.mem_cons_self
    simp only [List.length_map, List.length_range] at hb
    have hex : ∀ i, i < len → ∃ y, (∃ cs', w.cells? 0 (a.add (i * P.cellsOf e)) (P.cellsOf e) = some cs' ∧ d.K w y cs') ∧ good y := by
      intro i hi
      obtain ⟨cs', hcs, htr⟩ := hel i (by omega)
      obtain ⟨y, hy, hg⟩ := he n enc w cs' (D i, Pl i) htr (fun q hq => hw q (List.mem_cons_of_mem _ (List.mem_append_left _ (weightsAll_mem (List.mem_map.2 ⟨i, List.mem_range.2 hi, rfl⟩) q hq))))
      exact ⟨y, ⟨cs', hcs, hy⟩, hg⟩
    have hys : ∃ ys : List α, ys.length = len ∧ ∀ i (h : i < ys.length), (∃ cs', w.cells? 0 (a.add (i * P.cellsOf e)) (P.cellsOf e) = some cs' ∧ d.K w ys[i] cs') ∧ good ys[i] := by
      have key : ∀ j, j ≤ len → ∃ ys : List α, ys.length = j ∧ ∀ i (h : i < ys.length), (∃ cs', w.cells? 0 (a.add (i * P.cellsOf e)) (P.cellsOf e) = some cs' ∧ d.K w ys[i] cs') ∧ good ys[i] := by
        intro j
        induction j with
        | zero => intro _; exact ⟨[], rfl, fun i h => absurd h (Nat.not_lt_zero _)⟩
        | succ j ih =>
          intro hj
          obtain ⟨ys, hy1, hy2⟩ := ih (by omega)
          obtain ⟨y, hy⟩ := hex j (by omega)
          refine ⟨ys ++ [y], by rw [List.length_append, hy1]; rfl, fun i h => ?_⟩
          by_cases hi : i < ys.length
          · rw [List.getElem_append_left hi]; exact hy2 i hi
          · have e : i = ys.length := by rw [List.length_append, List.length_singleton] at h; omega
            subst e
            rw [List.getElem_append_right (Nat.le_refl _)]
            simp only [Nat.sub_self, List.getElem_cons_zero]
            rw [hy1]; exact hy
      exact key len (Nat.le_refl _)
    obtain ⟨ys, hy1, hy2⟩ := hys
    subst hy1
    refine ⟨ys, ⟨some a, cap, rfl, hl, rfl, by unfold maxLen at hm; omega, fun _ => ⟨a, rfl, fun j p hp => ?_⟩⟩, by omega, ?_, fun x hx => ?_⟩
    · obtain ⟨hj, rfl⟩ := List.getElem?_eq_some_iff.1 hp
      obtain ⟨⟨cs', hcs, hk⟩, _⟩ := hy2 j hj
      obtain ⟨_, hlen, hcell⟩ := World.cells?_some hcs
      refine ⟨cs', by rw [hlen, hc], hk, fun i u hu => ?_⟩
      have hi : i < cs'.length := (List.getElem?_eq_some_iff.1 hu).1
      have := hcell i (by omega)
      rw [add_add, hc] at this
      rw [this, hu]
    · rw [← hB]
      have : ys.length * P.bytesOf e ≤ (ys.length + (m - ys.length)) * P.bytesOf e := Nat.mul_le_mul_right _ (by omega)
      exact Nat.le_trans this hb
    · obtain ⟨i, hi, rfl⟩ := List.getElem_of_mem hx
      exact (hy2 i hi).2
/-- Fields, one behind the other, from a cell on. -/
def OpensF (P : Program) (fs : List Field) (off : Nat) {α : Type} (d : Kd α) (good : α → Prop) : Prop :=
  ∀ (fuel : Nat) {H : Type} (enc : TypeId × Value → H) (w : World) (cs : List Value) (xs : List (DataW H × List MemPlace)), xs.length = fs.length →
    (∀ (j : Nat) (f : Field), fs[j]? = some f → DataW.trod enc P w 0 (fun _ => true) true fuel f.type ((cs.drop f.offset).take (P.cellsOf f.type)) = xs[j]?) → (∀ n ∈ DataW.weightsEach P (fs.map (·.type)) (xs.map (·.1)), n ≤ reachBytes) →
    ∃ y, d.K w y ((cs.drop off).take d.sz) ∧ good y
theorem opensF_one {P : Program} {f : Field} {off : Nat} {α : Type} {d : Kd α} {good : α → Prop} (ho : f.offset = off) (hc : P.cellsOf f.type = d.sz) (h : Opens P f.type d good) : OpensF P [f] off d good := by
  intro fuel H enc w cs xs hl hf hs
  obtain ⟨x, rfl⟩ : ∃ x, xs = [x] := by
    match xs, hl with
    | [x], _ => exact ⟨x, rfl⟩
  have h0 := hf 0 f rfl
  rw [ho, hc] at h0
  exact h fuel enc w _ x h0 (fun n hn => hs n (by simpa [DataW.weightsEach] using hn))
theorem opensF_cons {P : Program} {f : Field} {fs : List Field} {off : Nat} {α β : Type} {d : Kd α} {d' : Kd β} {good : α → Prop} {good' : β → Prop} (ho : f.offset = off) (hc : P.cellsOf f.type = d.sz) (h : Opens P f.type d good) (h' : OpensF P fs (off + d.sz) d' good') :
    OpensF P (f :: fs) off (Kd.pair d d') (fun y => good y.1 ∧ good' y.2) := by
  intro fuel H enc w cs xs hl hf hs
  obtain ⟨x, xt, rfl⟩ : ∃ x xt, xs = x :: xt := by
    match xs, hl with
    | x :: xt, _ => exact ⟨x, xt, rfl⟩
  have h0 := hf 0 f rfl
  rw [ho, hc] at h0
  obtain ⟨y, hy, hg⟩ := h fuel enc w _ x h0 (fun n hn => hs n (by simp only [List.map_cons, DataW.weightsEach]; exact List.mem_append_left _ hn))
  obtain ⟨z, hz, hg'⟩ := h' fuel enc w cs xt (by simpa using hl) (fun j f' hj => hf (j + 1) f' hj) (fun n hn => hs n (by simp only [List.map_cons, DataW.weightsEach]; exact List.mem_append_right _ hn))
  refine ⟨(y, z), ⟨(cs.drop off).take d.sz, (cs.drop (off + d.sz)).take d'.sz, ?_, hy, hz⟩, hg, hg'⟩
  show List.take (d.sz + d'.sz) (List.drop off cs) = _
  rw [List.take_add, List.drop_drop]
theorem opens_struct {P : Program} {t : TypeId} {fs : Array Field} {α : Type} {d : Kd α} {good : α → Prop} (ht : P.underlying t = some (.struct fs)) (hc : P.cellsOf t = d.sz) (h : OpensF P fs.toList 0 d good) : Opens P t d good := by
  intro fuel H enc w cs x hx hs
  obtain ⟨xs, n, _, rfl, hl, hlen, hf⟩ := DataW.trod_struct ht hx
  rw [show ((DataW.agg (xs.map (·.1)), xs.flatMap (·.2)) : DataW H × List MemPlace).1 = DataW.agg (xs.map (·.1)) from rfl, DataW.weights, ht] at hs
  obtain ⟨y, hy, hg⟩ := h n enc w cs xs (by rw [hlen, Array.length_toList]) (fun j f hj => hf j f (by rw [← Array.getElem?_toList]; exact hj)) hs
  rw [List.drop_zero, List.take_of_length_le (by omega)] at hy
  exact ⟨y, hy, hg⟩
theorem opens_iso {P : Program} {t : TypeId} {α β : Type} {d : Kd α} {good : α → Prop} {f : β → α} (mk : α → β) (hmk : ∀ a, f (mk a) = a) (h : Opens P t d good) : Opens P t (Kd.iso d f) (fun b => good (f b)) := by
  intro fuel H enc w cs x hx hs
  obtain ⟨y, hy, hg⟩ := h fuel enc w cs x hx hs
  exact ⟨mk y, (by show d.K w (f (mk y)) cs; rw [hmk]; exact hy), (by show good (f (mk y)); rw [hmk]; exact hg)⟩
theorem opens_at {P : Program} {t : TypeId} {α : Type} {d : Kd α} {good : α → Prop} (h : Opens P t d good) {H : Type} {enc : TypeId × Value → H} {w : World} {v : Value} {x : DataW H} {p : List MemPlace} (ht : DataW.Trod enc P w 0 (fun _ => true) true t v x p)
    {ts : List TypeId} {ds : List (DataW H)} (hsz : (DataW.weightsEach P ts ds).all (· ≤ reachBytes) = true) {j : Nat} (hj : ts[j]? = some t) (hd : ds[j]? = some x) : ∃ y, d.K w y v.cells.toList ∧ good y := by
  obtain ⟨fuel, hf⟩ := ht
  refine h fuel enc w _ _ hf (fun n hn => ?_)
  have := List.all_eq_true.1 hsz n (DataW.weights_mem_each hj hd n hn)
  simpa using this
end Go.Proofs.YtedmjfngpofoaaaW.PrintWords
