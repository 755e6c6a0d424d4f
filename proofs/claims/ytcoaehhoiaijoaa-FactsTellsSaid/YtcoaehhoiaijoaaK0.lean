/- Texts of this claim, put together (wip/pack.py): Range, Base, Float, Hand. -/
import Derived.RangeFuncNested
import Derived.RangeFuncBound
import Derived.RangeFuncCalls
import Derived.RangeFuncLeaves
import Derived.Shelf.Abstract
import Derived.Shelf.RegionOpen
import Derived.WalkKit
import Derived.OwnWalkIn
import Derived.TacticsInMore
import Derived.LoopNIn
import Derived.LoopIn
import Derived.Test.YtcoaehhoiaijoaaWMore
import Derived.Laws.BitsLemmas
import Derived.Laws.Bits64
import Derived.Test.YtcoaehhoiaijoaaProg
import Derived.Laws.Cover2
import Derived.Laws.FloatArith
import Derived.Laws.MakeOwn
namespace Go.Proofs.Ytcoaehhoiaijoaa.Range
open Go Go.RowKit
/-- What a round leaves: it goes on, or it returns. -/
def roundEnds (W : World) (A B : World → Prop) : Exit → Act → World → Prop
  | .normal, _, W' => KeepsOthers W W' ∧ A W'
  | .ret, _, W' => KeepsOthers W W' ∧ B W'
  | _, _, _ => False
/-- The rounds are numbered: I k holds ahead of round k, I' k behind it, Ix k behind a round that has returned. The iterator's word (hiter) is given for whatever else (Rec) its own cell does not touch. -/
theorem range_steps {F : Fence} {n : Nat} {P : Program} {g : Operand} {ps : Array Tmp} {assign body : Code} {Q : Exit → Act → World → Prop} {a : Act} {w : World}
    (hro : F.round = none) (h1 : 1 ≤ n) {gf : Nat} {lb : Array Value} (hg : a.eval g = .func (.func gf) #[] lb) (hFg : F.fn gf) (eg : ∀ args w, (callFunc gf args).run P w = .ok (.enter gf args) w)
    (encs : Nat → Array Value) (hps : ∀ k, (encs k).size = ps.size) (bc m : Nat) (hbc : bc < w.heap.size) (I I' Ix : Nat → World → Prop)
    (hput : ∀ k W l o, w.heap.size ≤ l → (∃ o', W.heap[l]? = some o' ∧ o'.isCells = false) → I k W → I k (W.putObj l o)) (hput' : ∀ k W l o, w.heap.size ≤ l → (∃ o', W.heap[l]? = some o' ∧ o'.isCells = false) → I' k W → I' k (W.putObj l o))
    (hputx : ∀ k W l o, w.heap.size ≤ l → (∃ o', W.heap[l]? = some o' ∧ o'.isCells = false) → Ix k W → Ix k (W.putObj l o)) (halloc : ∀ k W o, I k W → I k (W.alloc o)) (h0 : I 0 w) (a₁ : Nat → Act)
    (hassign : ∀ (l k : Nat) (W : World) (K : Act → World → Prop), K (a₁ k) W → assign.wpIn (F.inRound l) (n - 1 - 1) P (Exit.then K (fun _ _ _ => False)) { tmps := (ps.zip (encs k)).foldl (fun t (p, v) => t.setIfInBounds p v) a.tmps, defers := [] } W)
    (hbody : ∀ (l k : Nat) (W : World), I k W → k < m → body.wpIn (F.inRound l) (n - 1 - 1) P (roundEnds W (I' k) (Ix k)) (a₁ k) W)
    (hiter : ∀ (l : Nat) (Rec RecX : World → Prop) (W : World), (∀ W' v, Rec W' → Rec (W'.setCell ⟨bc, 0, none⟩ v)) →
      (∀ k W1, I k W1 → Rec W1 → k < m → YieldAt F (n - 1 - 1) P l (encs k) W1 fun e W' => (e = .returned (.bool true) ∧ I' k W' ∧ Rec W') ∨ (e = .returned (.bool false) ∧ Ix k W' ∧ RecX W')) →
      I 0 W → Rec W → CallsIn F (n - 1) P gf (#[.func (.yield l) #[] #[]] ++ lb) W fun e W' => (∃ v, e = .returned v) ∧ ((I m W' ∧ Rec W') ∨ (∃ k, Ix k W' ∧ RecX W')))
    (hdone : ∀ (D : Nat) (W : World), w.heap.size ≤ D → I m W → W.heap[D]? = some (.deferred (some [])) → Q .normal { a with defers := { target := .collected D, args := #[] } :: a.defers } W)
    (hstop : ∀ (D k : Nat) (W : World), w.heap.size ≤ D → Ix k W → W.heap[D]? = some (.deferred (some [])) → Code.ret.wpIn F n P Q { a with defers := { target := .collected D, args := #[] } :: a.defers } W) :
    (Code.rangeFunc g ps assign body).wpIn F n P Q a w := by
  refine wpIn_rangeFunc ?_
  intro fn hfn
  rw [hro]
  -- the loop's record, by its state
  let R : LoopState → Option Code → Loop := fun st pe => { state := st, pending := pe, fn := fn, tmps := a.tmps, params := ps, assign := assign, body := body, defers := w.heap.size }
  let W1 : World := (w.alloc (.deferred (some []))).alloc (.loop (R .ready none))
  have eL : W1.heap[w.heap.size + 1]? = some (.loop (R .ready none)) := by
    have h := World.alloc_heap_new (w.alloc (.deferred (some []))) (.loop (R .ready none))
    rwa [World.size_alloc] at h
  have eK : W1.heap[w.heap.size]? = some (.deferred (some [])) := (Below.heap_alloc _ _ _ (by simp)).trans (World.alloc_heap_new w _)
  have other : ∀ (W : World) (v : Value) (q : Nat), bc < q → (W.setCell ⟨bc, 0, none⟩ v).heap[q]? = W.heap[q]? := fun W v q h => Below.heap_setCell W ⟨bc, 0, none⟩ v q (by show q ≠ bc; omega)
  refine ⟨w.heap.size + 1, [{ target := .collected w.heap.size, args := #[] }], W1, { target := .fn (.func gf) lb, args := #[.func (.yield (w.heap.size + 1)) #[] #[]] }, W1, gf, #[.func (.yield (w.heap.size + 1)) #[] #[]] ++ lb, W1, run_enterLoop_outer _ _ _ _ _, ?_, ?_, ?_, fun _ => h1, ?_⟩
  · simp only [resolve, hg]
    simp [go_sem]
  · intro f' hf'
    simp [Target.leads] at hf'
    subst hf'
    exact hFg
  · simp [invoke, go_sem, eg]
  · refine (hiter (w.heap.size + 1) (fun W => W.heap[w.heap.size + 1]? = some (.loop (R .ready none)) ∧ W.heap[w.heap.size]? = some (.deferred (some [])))
      (fun W => W.heap[w.heap.size + 1]? = some (.loop (R .done (some .ret))) ∧ W.heap[w.heap.size]? = some (.deferred (some []))) W1
      (fun W' v h => ⟨(other W' v _ (by omega)).trans h.1, (other W' v _ hbc).trans h.2⟩) ?_ (halloc _ _ _ (halloc _ _ _ h0)) ⟨eL, eK⟩).mono ?_
    · rintro k W hi ⟨hl, hk⟩ hlt
      have hsz : w.heap.size + 1 < W.heap.size := (Array.getElem?_eq_some_iff.1 hl).1
      have b1 : (W.putObj (w.heap.size + 1) (.loop (R .busy none))).heap[w.heap.size + 1]? = some (.loop (R .busy none)) := World.putObj_heap_same hsz
      have b2 : (W.putObj (w.heap.size + 1) (.loop (R .busy none))).heap[w.heap.size]? = some (.deferred (some [])) := (World.putObj_heap_other (by omega)).trans hk
      refine ⟨fn, _, assign, body, run_yield hl (by exact hps k), roundIn_of_wpIn hfn (hassign _ k W _ ⟨_, run_beginRound hl rfl, ?_⟩)⟩
      refine wpIn_mono (hbody _ k _ (hput _ _ _ _ (by omega) ⟨_, hl, rfl⟩ hi) hlt) ?_
      rintro e a3 W3 hp
      cases e with
      | normal =>
        obtain ⟨hk3, hi3⟩ := hp
        have c1 := hk3.same _ _ b1 rfl
        have c2 := hk3.same _ _ b2 rfl
        exact ⟨_, _, run_endRound none c1, .inl ⟨rfl, hput' _ _ _ _ (by omega) ⟨_, c1, rfl⟩ hi3, World.putObj_heap_same (Array.getElem?_eq_some_iff.1 c1).1, (World.putObj_heap_other (by omega)).trans c2⟩⟩
      | ret =>
        obtain ⟨hk3, hi3⟩ := hp
        have c1 := hk3.same _ _ b1 rfl
        have c2 := hk3.same _ _ b2 rfl
        exact ⟨_, _, run_endRound (some .ret) c1, .inr ⟨rfl, hputx _ _ _ _ (by omega) ⟨_, c1, rfl⟩ hi3, World.putObj_heap_same (Array.getElem?_eq_some_iff.1 c1).1, (World.putObj_heap_other (by omega)).trans c2⟩⟩
      | exit id => exact hp.elim
      | goto t => exact hp.elim
      | panic ch => exact hp.elim
      | outgrown => exact hp.elim
    · rintro e W2 ⟨⟨v, rfl⟩, (⟨hi, hl, hk⟩ | ⟨k, hi, hl, hk⟩)⟩
      · exact ⟨none, _, run_endLoop hl (by simp [R]), hdone _ _ (Nat.le_refl _) (hput _ _ _ _ (by omega) ⟨_, hl, rfl⟩ hi) ((World.putObj_heap_other (by omega)).trans hk)⟩
      · exact ⟨some .ret, _, run_endLoop hl (by simp [R]), hstop _ k _ (Nat.le_refl _) (hputx _ _ _ _ (by omega) ⟨_, hl, rfl⟩ hi) ((World.putObj_heap_other (by omega)).trans hk)⟩
end Go.Proofs.Ytcoaehhoiaijoaa.Range
namespace Go.Proofs.Ytcoaehhoiaijoaa.Base
open Go.RowKit Go.Proofs.YtcoaehhoiaijoaaW.PrintWords

theorem w64 {n : Int} (h0 : -9223372036854775808 ≤ n) (h1 : n ≤ 9223372036854775807) : wrap64 n = n := by
  unfold wrap64; omega
theorem u64w {n : Int} (h0 : 0 ≤ n) (h1 : n < 18446744073709551616) : IntKind.u64.wrap n = n := by
  rw [IntKind.wrap_u64]; omega
theorem wraps_i64 (n : Int) (h₀ : 0 ≤ n) (h₁ : n < 2 ^ 63) : IntKind.i64.wrap n = n := by
  rw [IntKind.wrap_i64]; omega
theorem and7 (x : Int) (h0 : 0 ≤ x) (h1 : x < 9223372036854775808) : Go.bits .and .i64 x 7 = x % 8 :=
  bits_mask .i64 63 (by decide) wraps_i64 3 (by decide) x h0 (by omega)
theorem and1 (x : Int) (h0 : 0 ≤ x) (h1 : x < 9223372036854775808) : Go.bits .and .i64 x 1 = x % 2 :=
  bits_mask .i64 63 (by decide) wraps_i64 1 (by decide) x h0 (by omega)
theorem bits_or_comm (k : IntKind) (x y : Int) : Go.bits .or k x y = Go.bits .or k y x := by
  unfold Go.bits; simp only [BitVec.or_comm]
theorem two_pow_le (m n : Nat) (h : m ≤ n) : (2 : Int) ^ m ≤ 2 ^ n := by
  have := Nat.pow_le_pow_right (n := 2) (by decide) h
  exact_mod_cast this
theorem two_pow_pos (m : Nat) : (0 : Int) < 2 ^ m := by
  have := Nat.two_pow_pos m
  exact_mod_cast this
/-- A bit set above all that is there. -/
theorem or_top (a : Int) (m : Nat) (hm : m < 8) (h0 : 0 ≤ a) (h1 : a < 2 ^ m) : Go.bits .or .u8 a (2 ^ m) = a + 2 ^ m := by
  have hp := two_pow_le m 7 (by omega)
  have hp2 : (2 : Int) ^ 7 < 2 ^ 8 := by decide
  rw [bits_or_comm, bits_join .u8 8 (by decide) wraps_u8 m (2 ^ m) a (Int.pow_nonneg (by decide)) (Int.emod_self) (by omega) h0 h1 (by omega)]
  omega
theorem shl_one (m : Nat) (hm : m < 8) : shl .u8 1 (m : Int) = 2 ^ m := by
  have hp := two_pow_le m 7 (by omega)
  have h0 : (0 : Int) ≤ 2 ^ m := Int.pow_nonneg (by decide)
  unfold shl
  have e : min (m : Int).toNat IntKind.u8.bits = m := by simp [IntKind.bits]; omega
  rw [e, IntKind.wrap_u8]
  omega
theorem shl_i64 (x : Int) (m : Nat) (hm : m < 8) (hx : x = 0 ∨ x = 1) : shl .i64 x (m : Int) = x * 2 ^ m := by
  have hp := two_pow_le m 7 (by omega)
  have h0 : (0 : Int) ≤ 2 ^ m := Int.pow_nonneg (by decide)
  unfold shl
  have e : min (m : Int).toNat IntKind.i64.bits = m := by simp [IntKind.bits]; omega
  rw [e, IntKind.wrap_i64]
  rcases hx with rfl | rfl <;> omega
theorem shr_eq (k : IntKind) (x : Int) (m : Nat) (hm : m < 8) : shr k x (m : Int) = x / 2 ^ m := by
  unfold shr
  have e : min (m : Int).toNat k.bits = m := by cases k <;> simp [IntKind.bits] <;> omega
  rw [e]
theorem tdiv8 {x : Int} (h : 0 ≤ x) : Int.tdiv x 8 = x / 8 := Int.tdiv_eq_ediv_of_nonneg h
theorem tmod8 {x : Int} (h : 0 ≤ x) : Int.tmod x 8 = x % 8 := Int.tmod_eq_emod_of_nonneg h
theorem wf64 {n : Int} (h : (Lit.int .i64 n).wf = true) : -9223372036854775808 ≤ n ∧ n ≤ 9223372036854775807 := by
  simpa [Lit.wf, IntKind.min, IntKind.max, IntKind.signed, IntKind.bits] using h
theorem wf8 {n : Int} (h : (Lit.int .u8 n).wf = true) : 0 ≤ n ∧ n ≤ 255 := by
  simpa [Lit.wf, IntKind.min, IntKind.max, IntKind.signed, IntKind.bits] using h
theorem wf16 {n : Int} (h : (Lit.int .u16 n).wf = true) : 0 ≤ n ∧ n ≤ 65535 := by
  simpa [Lit.wf, IntKind.min, IntKind.max, IntKind.signed, IntKind.bits] using h
theorem rd_nat (xs : List Int) (i : Nat) : rd xs (i : Int) = xs.getD i 0 := by simp [rd]
theorem bt_nat (s : ByteArray) (i : Nat) (h : i < s.size) : bt s (i : Int) = (s[i].toNat : Int) := by simp [bt, h]
theorem bt_strOfNums (xs : List Int) (i : Nat) (h : i < xs.length) (hb : ∀ x ∈ xs, 0 ≤ x ∧ x ≤ 255) : bt (strOfNums xs) (i : Int) = xs.getD i 0 := by
  have hs : i < (strOfNums xs).size := by rw [strOfNums_size]; exact h
  have hx := hb xs[i] (List.getElem_mem h)
  rw [bt_nat _ _ hs, List.getD_eq_getElem?_getD, List.getElem?_eq_getElem h]
  simp only [strOfNums, ByteArray.getElem_eq_getElem_data, List.getElem_toArray, List.getElem_map, Option.getD_some]
  rw [UInt8.toNat_ofNat']
  omega
end Go.Proofs.Ytcoaehhoiaijoaa.Base
namespace Go.Proofs.Ytcoaehhoiaijoaa.Fl
open Go Go.RowKit

def ord (a b : Nat) : Option Ordering := FloatKind.f64.format.order a b
def eqF (a b : Nat) : Bool := ord a b == some .eq
def ltF (a b : Nat) : Bool := ord a b == some .lt
def leF (a b : Nat) : Bool := ord a b == some .lt || ord a b == some .eq
theorem f_eql (t : TypeId) (a b : Nat) : binOp .eql t (.float .f64 a) (.float .f64 b) = pure (.bool (eqF a b)) := binOp_float_cmp_eql t .f64 a b
theorem f_neq (t : TypeId) (a b : Nat) : binOp .neq t (.float .f64 a) (.float .f64 b) = pure (.bool (!eqF a b)) := binOp_float_cmp_neq t .f64 a b
theorem f_lss (t : TypeId) (a b : Nat) : binOp .lss t (.float .f64 a) (.float .f64 b) = pure (.bool (ltF a b)) := binOp_float_cmp_lss t .f64 a b
theorem f_leq (t : TypeId) (a b : Nat) : binOp .leq t (.float .f64 a) (.float .f64 b) = pure (.bool (leF a b)) := binOp_float_cmp_leq t .f64 a b
end Go.Proofs.Ytcoaehhoiaijoaa.Fl
namespace Go.Proofs.YtcoaehhoiaijoaaW.PrintWords
open Go.RowKit
namespace Kd
section
variable {P : Program} {ops : Array Oper} {rest : List Oper} {o : Oper} {a : Act} {Q : Exit → Act → World → Prop} {W : World}
variable {α : Type}
/-- make([]T, 0, n): a row of none, with room. -/
theorem R_make0 (d : Kd α) {w0 W : World} (base e : Nat) (hgd : o.guard = none) {N : Tmp} (_hd : o.dst = some N) (t : TypeId) (x y : Operand) (ho : o.op = .makeSlice t x y) (n : Int) (hx : a.eval x = .int .i64 0) (hy : a.eval y = .int .i64 n)
    (ht : P.underlying t = some (.slice e)) (z : Value) (bytes : Nat) (hinfo : (P.info? e).map (fun i => (i.zero, i.size, i.bytes)) = some (some z, d.sz, bytes)) (hb0 : 0 < bytes)
    {ok : Nat → Prop} (hfresh : ok W.heap.size) (h0 : 0 ≤ n) (hl : n.toNat * bytes ≤ 281474976710656) (HB : Below base w0 W) (hbase : base ≤ W.heap.size)
    (h : ∀ v1 w1, d.R e w1 base ok v1 [] → Below base w0 w1 → W.grownBy w1 none → (∃ b, v1.ownBlock = some b ∧ W.heap.size ≤ b) → wpList P ops Q rest (a.put o.dst v1) w1) : wpList P ops Q (o :: rest) a W := by
  obtain ⟨m, rfl⟩ := Int.eq_ofNat_of_zero_le h0
  simp only [Int.toNat_natCast] at hl
  obtain ⟨i0, hi, hzz⟩ := Option.map_eq_some_iff.1 hinfo
  simp only [Prod.mk.injEq] at hzz
  obtain ⟨hz0, hz1, hz2⟩ := hzz
  have hm : m ≤ 281474976710656 := Nat.le_trans (Nat.le_mul_of_pos_right _ hb0) hl
  obtain ⟨w', hr, hown, hg⟩ := run_make_own (P := P) W base t e i0 z d.sz ht hi hz0 hz1 .i64 .i64 m (by rw [hz2, Nat.mul_comm]; exact hl) (by unfold maxLen; omega) hbase
  refine event_run hgd (w1 := w') (v := .slice (some ⟨W.heap.size, 0, none⟩) 0 m) ?_ (h _ _ ⟨fun k hk => ?_, [], hown, ?_⟩ (pw_below_grown HB none hbase hg (fun k hk => by cases hk)) hg ⟨W.heap.size, by simp [Value.ownBlock], Nat.le_refl _⟩)
  · simp [execOp, ho, hx, hy, hr]
  · have : W.heap.size = k := by simpa [Value.ownBlock] using hk
    subst this
    exact hfresh
  · exact Reps.none _ _
theorem S_make0 (d : Kd α) {w0 W : World} (base e : Nat) (hgd : o.guard = none) {N : Tmp} (hd : o.dst = some N) (t : TypeId) (x y : Operand) (ho : o.op = .makeSlice t x y) (n : Int) (hx : a.eval x = .int .i64 0) (hy : a.eval y = .int .i64 n)
    (ht : P.underlying t = some (.slice e)) (z : Value) (bytes : Nat) (hinfo : (P.info? e).map (fun i => (i.zero, i.size, i.bytes)) = some (some z, d.sz, bytes)) (hb0 : 0 < bytes)
    {ok : Nat → Prop} (hfresh : ok W.heap.size) (h0 : 0 ≤ n) (hl : n.toNat * bytes ≤ 281474976710656) (HB : Below base w0 W) (hbase : base ≤ W.heap.size)
    (h : ∀ v1 w1, S d e w1 base ok v1 [] → Below base w0 w1 → W.grownBy w1 none → (∃ b, v1.ownBlock = some b ∧ W.heap.size ≤ b) → wpList P ops Q rest (a.put o.dst v1) w1) : wpList P ops Q (o :: rest) a W :=
  R_make0 (bare d) base e hgd hd t x y ho n hx hy ht z bytes hinfo hb0 hfresh h0 hl HB hbase (fun v1 w1 hr => h v1 w1 (S_bare hr))
end
end Kd
theorem hand_enters {P : Program} {f : FuncId} {fn : Func} {c : Code} (hf : P.funcs[f]? = some fn) (hname : (fn.name == "runtime.NumGoroutine") = false) (hb : fn.body = some c) (args : Array Value) (w : World) : (callFunc f args).run P w = .ok (.enter f args) w := by
  have h1 : fn.name ≠ "runtime.NumGoroutine" := by simpa using hname
  simp [callFunc, hf, h1, hb, mark]
theorem hblk_new (W : World) (o : Obj) : (W.alloc o).heap[W.heap.size]? = some o := by
  show (W.heap.push o)[W.heap.size]? = some o
  exact Array.getElem?_push_size
theorem hblk_alloc {W : World} {g : Nat} {o o' : Obj} (h : W.heap[g]? = some o) : (W.alloc o').heap[g]? = some o := by
  have hg : g < W.heap.size := (Array.getElem?_eq_some_iff.1 h).1
  show (W.heap.push o')[g]? = some o
  rw [Array.getElem?_push_lt hg, ← h, Array.getElem?_eq_getElem hg]
theorem hblk_below {W w1 : World} {g : Nat} {o : Obj} (h : W.heap[g]? = some o) (hb : Below W.heap.size W w1) : w1.heap[g]? = some o :=
  (hb.block g (Array.getElem?_eq_some_iff.1 h).1).trans h
theorem hcells6 {W : World} {g : Nat} {a b c d e f : Value} {t : TypeId} (h : W.heap[g]? = some (.cells #[a, b, c, d, e, f] t (0, 0))) :
    W.cell? ⟨g, 0, none⟩ = some a ∧ W.cell? ⟨g, 1, none⟩ = some b ∧ W.cell? ⟨g, 2, none⟩ = some c ∧ W.cell? ⟨g, 3, none⟩ = some d ∧ W.cell? ⟨g, 4, none⟩ = some e ∧ W.cell? ⟨g, 5, none⟩ = some f :=
  ⟨(blk_cell h 0).trans rfl, (blk_cell h 1).trans rfl, (blk_cell h 2).trans rfl, (blk_cell h 3).trans rfl, (blk_cell h 4).trans rfl, (blk_cell h 5).trans rfl⟩
theorem hcells4 {W : World} {g : Nat} {a b c d : Value} {t : TypeId} (h : W.heap[g]? = some (.cells #[a, b, c, d] t (0, 0))) :
    W.cell? ⟨g, 0, none⟩ = some a ∧ W.cell? ⟨g, 1, none⟩ = some b ∧ W.cell? ⟨g, 2, none⟩ = some c ∧ W.cell? ⟨g, 3, none⟩ = some d :=
  ⟨(blk_cell h 0).trans rfl, (blk_cell h 1).trans rfl, (blk_cell h 2).trans rfl, (blk_cell h 3).trans rfl⟩
end Go.Proofs.YtcoaehhoiaijoaaW.PrintWords
