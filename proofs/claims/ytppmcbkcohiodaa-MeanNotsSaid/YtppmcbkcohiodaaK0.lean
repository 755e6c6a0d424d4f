/- Texts of this claim, put together (wip/pack.py): Hand, PMeanTellsx0, Reg. -/
import Derived.Test.YtppmcbkcohiodaaWMore
import Derived.Laws.MakeOwn
import Derived.Test.YtppmcbkcohiodaaWFoot
import Derived.Test.YtppmcbkcohiodaaProg
import Derived.Below
import Derived.Deep.Draws
import Derived.Deep.AppendLies
import Derived.Maps.AppendAt
import Derived.OwnWalk
import Derived.Laws.BytesArg
import Derived.Laws.OwnMore
import Derived.Deep.OwnRows
import Derived.Tactics
import Derived.Lib.ConvBytes
import Derived.Laws.Slices
import Derived.WalkKit
import Derived.KernelRfl
import Derived.RowKit3
import Derived.Deep.LoopGhost
import Derived.Deep.QuietTactic
import Derived.BigQuiet
import Derived.WideLaws
import Derived.Deep.DeepCutAuto
import Derived.Deep.CutBlock
import Derived.Deep.RegionHeld3
import Derived.Laws.Rows
import Derived.Lib.AppendStr
import Derived.ArgAppend
import Derived.Laws.IdiomCopy
import Derived.OrdersHeld
import Derived.Laws.BitsLemmas
import Derived.RowKit
import Derived.Test.YtppmcbkcohiodaaWWords
import Derived.Test.YtppmcbkcohiodaaWLast
import Derived.Test.YtppmcbkcohiodaaWTab
import Derived.Test.YtppmcbkcohiodaaWFour
import Derived.Test.YtppmcbkcohiodaaWQPut
import Derived.Test.YtppmcbkcohiodaaWApart
import Derived.Test.YtppmcbkcohiodaaWArr
import Derived.Test.YtppmcbkcohiodaaWZeros
import Derived.Test.YtppmcbkcohiodaaWKept
import Derived.Test.YtppmcbkcohiodaaWShare
import Derived.Test.YtppmcbkcohiodaaWN
import Derived.Test.YtppmcbkcohiodaaWFootNe
import Derived.Test.YtppmcbkcohiodaaWAt
import Derived.Test.YtppmcbkcohiodaaWEqStruct
import Derived.Test.YtppmcbkcohiodaaWRepsOne
import Derived.Test.YtppmcbkcohiodaaWInv
import Derived.Test.YtppmcbkcohiodaaWInvWords
import Derived.Test.YtppmcbkcohiodaaWGuard
import Derived.Test.YtppmcbkcohiodaaWNEv
namespace Go.Proofs.YtppmcbkcohiodaaW.PrintWords
open Go.RowKit
namespace Kd
section
variable {P : Program} {ops : Array Oper} {rest : List Oper} {o : Oper} {a : Act} {Q : Exit → Act → World → Prop} {W : World}
variable {α : Type}
/-- make([]T, 0, n): a row of none, with room. -/
theorem R_make0 (d : Kd α) {w0 W : World} (base e : Nat) (hgd : o.guard = none) {N : Tmp} (_hd : o.dst = some N) (t : TypeId) (x y : Operand) (ho : o.op = .makeSlice t x y) (n : Int) (hx : a.eval x = .int .i64 0) (hy : a.eval y = .int .i64 n)
    (ht : P.underlying t = some (.slice e)) (z : Value) (bytes : Nat) (hinfo : (P.info? e).map (fun i => (i.zero, i.size, i.bytes)) = some (some z, d.sz, bytes)) (hb0 : 0 < bytes)
    {ok : Nat → Prop} (hfresh : ok W.heap.size) (h0 : 0 ≤ n) (hl : n.toNat * bytes ≤ 281474976710656) (HB : Below base w0 W) (hbase : base ≤ W.heap.size)
    (h : ∀ v1 w1, d.R e w1 base ok v1 [] → Below base w0 w1 → W.grownBy w1 none → (∃ b, v1.ownBlock = some b ∧ W.heap.size ≤ b) → wpList P ops Q rest (a.put o.dst v1) w1) : wpList P ops Q (o :: rest) a W := by
  obtain ⟨m, rfl⟩ := Int.eq_ofNat_of_zero_le h0
  simp only [Int.toNat_natCast] at hl
  obtain ⟨i0, hi, hzz⟩ := Option.map_eq_some_iff.1 hinfo
  simp only [Prod.mk.injEq] at hzz
  obtain ⟨hz0, hz1, hz2⟩ := hzz
  have hm : m ≤ 281474976710656 := Nat.le_trans (Nat.le_mul_of_pos_right _ hb0) hl
  obtain ⟨w', hr, hown, hg⟩ := run_make_own (P := P) W base t e i0 z d.sz ht hi hz0 hz1 .i64 .i64 m (by rw [hz2, Nat.mul_comm]; exact hl) (by unfold maxLen; omega) hbase
  refine event_run hgd (w1 := w') (v := .slice (some ⟨W.heap.size, 0, none⟩) 0 m) ?_ (h _ _ ⟨fun k hk => ?_, [], hown, ?_⟩ (pw_below_grown HB none hbase hg (fun k hk => by cases hk)) hg ⟨W.heap.size, by simp [Value.ownBlock], Nat.le_refl _⟩)
  · simp [execOp, ho, hx, hy, hr]
  · have : W.heap.size = k := by simpa [Value.ownBlock] using hk
    subst this
    exact hfresh
  · exact Reps.none _ _
theorem S_make0 (d : Kd α) {w0 W : World} (base e : Nat) (hgd : o.guard = none) {N : Tmp} (hd : o.dst = some N) (t : TypeId) (x y : Operand) (ho : o.op = .makeSlice t x y) (n : Int) (hx : a.eval x = .int .i64 0) (hy : a.eval y = .int .i64 n)
    (ht : P.underlying t = some (.slice e)) (z : Value) (bytes : Nat) (hinfo : (P.info? e).map (fun i => (i.zero, i.size, i.bytes)) = some (some z, d.sz, bytes)) (hb0 : 0 < bytes)
    {ok : Nat → Prop} (hfresh : ok W.heap.size) (h0 : 0 ≤ n) (hl : n.toNat * bytes ≤ 281474976710656) (HB : Below base w0 W) (hbase : base ≤ W.heap.size)
    (h : ∀ v1 w1, S d e w1 base ok v1 [] → Below base w0 w1 → W.grownBy w1 none → (∃ b, v1.ownBlock = some b ∧ W.heap.size ≤ b) → wpList P ops Q rest (a.put o.dst v1) w1) : wpList P ops Q (o :: rest) a W :=
  R_make0 (bare d) base e hgd hd t x y ho n hx hy ht z bytes hinfo hb0 hfresh h0 hl HB hbase (fun v1 w1 hr => h v1 w1 (S_bare hr))
end
end Kd
theorem hand_enters {P : Program} {f : FuncId} {fn : Func} {c : Code} (hf : P.funcs[f]? = some fn) (hname : (fn.name == "runtime.NumGoroutine") = false) (hb : fn.body = some c) (args : Array Value) (w : World) : (callFunc f args).run P w = .ok (.enter f args) w := by
  have h1 : fn.name ≠ "runtime.NumGoroutine" := by simpa using hname
  simp [callFunc, hf, h1, hb, mark]
theorem hblk_new (W : World) (o : Obj) : (W.alloc o).heap[W.heap.size]? = some o := by
  show (W.heap.push o)[W.heap.size]? = some o
  exact Array.getElem?_push_size
theorem hblk_alloc {W : World} {g : Nat} {o o' : Obj} (h : W.heap[g]? = some o) : (W.alloc o').heap[g]? = some o := by
  have hg : g < W.heap.size := (Array.getElem?_eq_some_iff.1 h).1
  show (W.heap.push o')[g]? = some o
  rw [Array.getElem?_push_lt hg, ← h, Array.getElem?_eq_getElem hg]
theorem hblk_below {W w1 : World} {g : Nat} {o : Obj} (h : W.heap[g]? = some o) (hb : Below W.heap.size W w1) : w1.heap[g]? = some o :=
  (hb.block g (Array.getElem?_eq_some_iff.1 h).1).trans h
theorem hcells6 {W : World} {g : Nat} {a b c d e f : Value} {t : TypeId} (h : W.heap[g]? = some (.cells #[a, b, c, d, e, f] t (0, 0))) :
    W.cell? ⟨g, 0, none⟩ = some a ∧ W.cell? ⟨g, 1, none⟩ = some b ∧ W.cell? ⟨g, 2, none⟩ = some c ∧ W.cell? ⟨g, 3, none⟩ = some d ∧ W.cell? ⟨g, 4, none⟩ = some e ∧ W.cell? ⟨g, 5, none⟩ = some f :=
  ⟨(blk_cell h 0).trans rfl, (blk_cell h 1).trans rfl, (blk_cell h 2).trans rfl, (blk_cell h 3).trans rfl, (blk_cell h 4).trans rfl, (blk_cell h 5).trans rfl⟩
theorem hcells4 {W : World} {g : Nat} {a b c d : Value} {t : TypeId} (h : W.heap[g]? = some (.cells #[a, b, c, d] t (0, 0))) :
    W.cell? ⟨g, 0, none⟩ = some a ∧ W.cell? ⟨g, 1, none⟩ = some b ∧ W.cell? ⟨g, 2, none⟩ = some c ∧ W.cell? ⟨g, 3, none⟩ = some d :=
  ⟨(blk_cell h 0).trans rfl, (blk_cell h 1).trans rfl, (blk_cell h 2).trans rfl, (blk_cell h 3).trans rfl⟩
namespace Kd
/-- A float's word. -/
def flt : Kd Nat := scalar (Value.float .f64) (fun _ => rfl)
theorem at_flt {w : World} {A : Option Addr} {n : Nat} {xs : List Nat} (h : flt.C w A n xs) (i : Int) (h0 : 0 ≤ i) (h1 : i < n) : ∃ ad, A = some ad ∧ w.cell? (ad.add i.toNat) = some (.float .f64 (rdOf (0 : Nat) xs i)) := by
  obtain ⟨ad, c, e, _, hK, hc⟩ := C_get h 0 i h0 h1
  have hK' : c = [.float .f64 (xs.getD i.toNat 0)] := hK
  subst hK'
  refine ⟨ad, e, ?_⟩
  have := hc 0 _ rfl
  simpa [flt, scalar, rdOf] using this
theorem heap_flt : Heap Kd.flt := ⟨fun _ h => h⟩
end Kd
end Go.Proofs.YtppmcbkcohiodaaW.PrintWords
namespace Go.Proofs.Ytppmcbkcohiodaa.PMeanTells
open Go.RowKit Go.Proofs.YtppmcbkcohiodaaW.PrintWords Go.Proofs.YtppmcbkcohiodaaW.PrintLast Go.Proofs.YtppmcbkcohiodaaW.PrintMore
attribute [local go_sem] max2_int min2_int max_two min_two max_three min_three max_four min_four   -- for this text's walks alone
set_option linter.unusedVariables false
set_option linter.unusedSimpArgs false



def errW : Option Int → Value
 | none => .nilIface
 | some c => .iface 0 (.int .i64 c)
theorem errW_none : errW none = .nilIface := rfl
theorem errW_some (c : Int) : errW (some c) = .iface 0 (.int .i64 c) := rfl

theorem info39 : (Try.prog.info? 39).map (fun i => (i.zero, i.size, i.bytes)) = some (some (.agg #[(.bool false), (.int .i64 0), (.int .i64 0), (.slice none 0 0), (.float .f64 0), (.float .f64 0), (.slice none 0 0), (.int .i64 0), (.int .i64 0), (.int .i64 0), (.int .i64 0)]), 11, 120) := by kernel_rfl
theorem info55 : (Try.prog.info? 55).map (fun i => (i.zero, i.size, i.bytes)) = some (some (.agg #[(.int .i64 0), (.int .i64 0)]), 2, 16) := by kernel_rfl
-- the values' own types
/-! #### struct type 55 -/
structure S55 where
 f0 : Int
 f1 : Int
def z55 : S55 := ⟨(0 : Int), (0 : Int)⟩
def k55 : Kd S55 := Kd.iso (Kd.pair (Kd.int .i64) (Kd.int .i64)) (fun x : S55 => (x.f0, x.f1))
theorem k55_open {w : World} {x : S55} {cs : List Value} (h : k55.K w x cs) : cs = [.int .i64 x.f0, .int .i64 x.f1] := by
 obtain ⟨_, _, rfl, rfl, rfl⟩ := h
 exact rfl
theorem k55_openM {w : World} {base : Nat} {ok : Nat → Prop} {x : S55} {cs : List Value} (h : k55.M w base ok x cs) : cs = [.int .i64 x.f0, .int .i64 x.f1] := by
 obtain ⟨_, _, rfl, rfl, rfl⟩ := h
 exact rfl
theorem k55_mk (w : World) (x : S55)  : k55.K w x [.int .i64 x.f0, .int .i64 x.f1] := ⟨[.int .i64 x.f0], [.int .i64 x.f1], rfl, rfl, rfl⟩
theorem k55_mkM (w : World) (base : Nat) (ok : Nat → Prop) (x : S55)  : k55.M w base ok x [.int .i64 x.f0, .int .i64 x.f1] := ⟨[.int .i64 x.f0], [.int .i64 x.f1], rfl, rfl, rfl⟩
theorem k55_mkF (W : World) (ok : Nat → Prop) (x : S55) : Kd.FK k55 W ok x [.int .i64 x.f0, .int .i64 x.f1] := fun W2 _ => k55_mk W2 x
def rd_T55 (xs : List S55) (i : Int) : S55 := xs.getD i.toNat z55
theorem at_T55 {w : World} {A : Option Addr} {n : Nat} {xs : List S55} (h : Kd.C k55 w A n xs) (i : Int) (h0 : 0 ≤ i) (h1 : i < n) : ∃ ad , A = some ad ∧ w.cell? (ad.add (i.toNat * 2)) = some (.int .i64 (rd_T55 xs i).f0) ∧ w.cell? ⟨(ad.add (i.toNat * 2)).block, (ad.add (i.toNat * 2)).off + 1, none⟩ = some (.int .i64 (rd_T55 xs i).f1) := by
 obtain ⟨ad, c, e, _, hK, hc0⟩ := Kd.C_get h z55 i h0 h1
 have hc : ∀ j u, c[j]? = some u → w.cell? (ad.add (i.toNat * 2 + j)) = some u := hc0
 obtain rfl := k55_open hK
 exact ⟨ad, e, hc 0 _ rfl, by rw [← add_field _ _ 1 (by omega)]; exact hc 1 _ rfl⟩

def rd_L2 (xs : List (List S55)) (i : Int) : (List S55) := xs.getD i.toNat ([] : List S55)
theorem at_L2 {w : World} {A : Option Addr} {n : Nat} {xs : List (List S55)} (h : Kd.C (Kd.slice 55 k55) w A n xs) (i : Int) (h0 : 0 ≤ i) (h1 : i < n) : ∃ ad A0 c0, A = some ad ∧ w.cell? (ad.add i.toNat) = some (.slice A0 (rd_L2 xs i).length c0) ∧ (rd_L2 xs i).length ≤ c0 ∧ k55.C w A0 (rd_L2 xs i).length (rd_L2 xs i) := by
 obtain ⟨ad, c, e, _, hK, hc0⟩ := Kd.C_get h ([] : List S55) i h0 h1
 have hc : ∀ j u, c[j]? = some u → w.cell? (ad.add (i.toNat * 1 + j)) = some u := hc0
 obtain ⟨A0, c0, rfl, l0, g0⟩ := hK
 exact ⟨ad, A0, c0, e, by have hq := hc 0 _ rfl; rwa [Nat.mul_one, Nat.add_zero] at hq, l0, g0⟩

/-! #### struct type 26, nested in itself -/
structure S26 where
 f0 : Int
 f1 : Int
 f2 : (List S55)
 f3 : Nat
 f4 : Nat
 f5 : (List S26)
def z26 : S26 := ⟨(0 : Int), (0 : Int), ([] : List S55), (0 : Nat), (0 : Nat), ([] : List S26)⟩
def F26 (d : Kd S26) : Kd S26 := Kd.iso (Kd.pair (Kd.int .i64) (Kd.pair (Kd.int .i64) (Kd.pair (Kd.slice 55 k55) (Kd.pair Kd.flt (Kd.pair Kd.flt (Kd.slice 26 d)))))) (fun x : S26 => (x.f0, x.f1, x.f2, x.f3, x.f4, x.f5))
theorem mono26 : Kd.Mono F26 := Kd.mono_iso _ (Kd.mono_pair (Kd.mono_const _) (Kd.mono_pair (Kd.mono_const _) (Kd.mono_pair (Kd.mono_const _) (Kd.mono_pair (Kd.mono_const _) (Kd.mono_pair (Kd.mono_const _) (Kd.mono_slice 26 Kd.mono_id))))))
theorem sub26 : Kd.Sub F26 [26, 55] := Kd.sub_iso _ (Kd.sub_pair (Kd.sub_const _ (by decide)) (Kd.sub_pair (Kd.sub_const _ (by decide)) (Kd.sub_pair (Kd.sub_const _ (by decide)) (Kd.sub_pair (Kd.sub_const _ (by decide)) (Kd.sub_pair (Kd.sub_const _ (by decide)) (Kd.sub_slice 26 (by decide) Kd.sub_id))))))
theorem sz26 : ∀ n, (Kd.upto F26 6 [26, 55] n).sz = 6 := Kd.upto_sz (fun _ => rfl)
def k26 : Kd S26 := Kd.fix F26 6 [26, 55] sz26 (Kd.upto_E sub26)
theorem k26_open {w : World} {x : S26} {cs : List Value} (h : k26.K w x cs) : ∃ A2 c2 A5 c5, cs = [.int .i64 x.f0, .int .i64 x.f1, .slice A2 x.f2.length c2, .float .f64 x.f3, .float .f64 x.f4, .slice A5 x.f5.length c5] ∧ x.f2.length ≤ c2 ∧ k55.C w A2 x.f2.length x.f2 ∧ x.f5.length ≤ c5 ∧ k26.C w A5 x.f5.length x.f5 := by
 obtain ⟨n, h⟩ := h
 cases n with
 | zero => exact h.elim
 | succ n =>
  obtain ⟨_, _, rfl, rfl, ⟨_, _, rfl, rfl, ⟨_, _, rfl, ⟨A2, c2, rfl, l2, g2⟩, ⟨_, _, rfl, rfl, ⟨_, _, rfl, rfl, ⟨A5, c5, rfl, l5, g5⟩⟩⟩⟩⟩⟩ := h
  exact ⟨A2, c2, A5, c5, rfl, l2, g2, l5, Kd.fix_C g5⟩
theorem k26_openM {w : World} {base : Nat} {ok : Nat → Prop} {x : S26} {cs : List Value} (h : k26.M w base ok x cs) : ∃ v2 v5, cs = [.int .i64 x.f0, .int .i64 x.f1, v2, .float .f64 x.f3, .float .f64 x.f4, v5] ∧ k55.R 55 w base ok v2 x.f2 ∧ k26.R 26 w base ok v5 x.f5 := by
 obtain ⟨n, h⟩ := h
 cases n with
 | zero => exact h.elim
 | succ n =>
  obtain ⟨_, _, rfl, rfl, ⟨_, _, rfl, rfl, ⟨_, _, rfl, ⟨v2, rfl, g2⟩, ⟨_, _, rfl, rfl, ⟨_, _, rfl, rfl, ⟨v5, rfl, g5⟩⟩⟩⟩⟩⟩ := h
  exact ⟨v2, v5, rfl, g2, Kd.fix_R g5⟩
theorem k26_mk (w : World) (x : S26) {A2 : Option Addr} {c2 : Nat} (l2 : x.f2.length ≤ c2) (g2 : k55.C w A2 x.f2.length x.f2) {A5 : Option Addr} {c5 : Nat} (l5 : x.f5.length ≤ c5) (g5 : k26.C w A5 x.f5.length x.f5) : k26.K w x [.int .i64 x.f0, .int .i64 x.f1, .slice A2 x.f2.length c2, .float .f64 x.f3, .float .f64 x.f4, .slice A5 x.f5.length c5] := by
 obtain ⟨n5, q5⟩ := Kd.fix_C_back mono26 g5
 have r5 := Kd.upto_C_le mono26 sz26 (show n5 ≤ n5 by omega) q5
 exact ⟨n5 + 1, ⟨[.int .i64 x.f0], [.int .i64 x.f1, .slice A2 x.f2.length c2, .float .f64 x.f3, .float .f64 x.f4, .slice A5 x.f5.length c5], rfl, rfl, ⟨[.int .i64 x.f1], [.slice A2 x.f2.length c2, .float .f64 x.f3, .float .f64 x.f4, .slice A5 x.f5.length c5], rfl, rfl, ⟨[.slice A2 x.f2.length c2], [.float .f64 x.f3, .float .f64 x.f4, .slice A5 x.f5.length c5], rfl, ⟨A2, c2, rfl, l2, g2⟩, ⟨[.float .f64 x.f3], [.float .f64 x.f4, .slice A5 x.f5.length c5], rfl, rfl, ⟨[.float .f64 x.f4], [.slice A5 x.f5.length c5], rfl, rfl, ⟨A5, c5, rfl, l5, r5⟩⟩⟩⟩⟩⟩⟩
theorem k26_mkM (w : World) (base : Nat) (ok : Nat → Prop) (x : S26) {v2 : Value} (g2 : k55.R 55 w base ok v2 x.f2) {v5 : Value} (g5 : k26.R 26 w base ok v5 x.f5) : k26.M w base ok x [.int .i64 x.f0, .int .i64 x.f1, v2, .float .f64 x.f3, .float .f64 x.f4, v5] := by
 obtain ⟨n5, q5⟩ := Kd.fix_R_back mono26 g5
 have r5 := Kd.upto_R_le mono26 sz26 (show n5 ≤ n5 by omega) q5
 exact ⟨n5 + 1, ⟨[.int .i64 x.f0], [.int .i64 x.f1, v2, .float .f64 x.f3, .float .f64 x.f4, v5], rfl, rfl, ⟨[.int .i64 x.f1], [v2, .float .f64 x.f3, .float .f64 x.f4, v5], rfl, rfl, ⟨[v2], [.float .f64 x.f3, .float .f64 x.f4, v5], rfl, ⟨v2, rfl, g2⟩, ⟨[.float .f64 x.f3], [.float .f64 x.f4, v5], rfl, rfl, ⟨[.float .f64 x.f4], [v5], rfl, rfl, ⟨v5, rfl, r5⟩⟩⟩⟩⟩⟩⟩
theorem k26_openF {W : World} {ok : Nat → Prop} {x : S26} {cs : List Value} (h : Kd.FK k26 W ok x cs) : ∃ A2 c2 A5 c5, cs = [.int .i64 x.f0, .int .i64 x.f1, .slice A2 x.f2.length c2, .float .f64 x.f3, .float .f64 x.f4, .slice A5 x.f5.length c5] ∧ x.f2.length ≤ c2 ∧ Kd.F k55 W ok A2 x.f2.length x.f2 ∧ x.f5.length ≤ c5 ∧ Kd.F k26 W ok A5 x.f5.length x.f5 := by
 obtain ⟨A2, c2, A5, c5, rfl, l2, _, l5, _⟩ := k26_open (Kd.FK_now h)
 exact ⟨A2, c2, A5, c5, rfl, l2, (fun W' hW => by obtain ⟨A2_, c2_, A5_, c5_, he, l2_, g2_, l5_, g5_⟩ := k26_open (h W' hW); injection (Option.some.inj (show some (Value.slice A2 x.f2.length c2) = some (Value.slice A2_ x.f2.length c2_) from congrArg (fun l => l[2]?) he)) with ha_ _ _; rw [ha_]; exact g2_), l5, (fun W' hW => by obtain ⟨A2_, c2_, A5_, c5_, he, l2_, g2_, l5_, g5_⟩ := k26_open (h W' hW); injection (Option.some.inj (show some (Value.slice A5 x.f5.length c5) = some (Value.slice A5_ x.f5.length c5_) from congrArg (fun l => l[5]?) he)) with ha_ _ _; rw [ha_]; exact g5_)⟩
theorem k26_mkF (W : World) (ok : Nat → Prop) (x : S26) {A2 : Option Addr} {c2 : Nat} (l2 : x.f2.length ≤ c2) (g2 : Kd.F k55 W ok A2 x.f2.length x.f2) {A5 : Option Addr} {c5 : Nat} (l5 : x.f5.length ≤ c5) (g5 : Kd.F k26 W ok A5 x.f5.length x.f5) : Kd.FK k26 W ok x [.int .i64 x.f0, .int .i64 x.f1, .slice A2 x.f2.length c2, .float .f64 x.f3, .float .f64 x.f4, .slice A5 x.f5.length c5] := fun W2 hW => k26_mk W2 x l2 (g2 W2 hW) l5 (g5 W2 hW)
def rd_T26 (xs : List S26) (i : Int) : S26 := xs.getD i.toNat z26
theorem at_T26 {w : World} {A : Option Addr} {n : Nat} {xs : List S26} (h : Kd.C k26 w A n xs) (i : Int) (h0 : 0 ≤ i) (h1 : i < n) : ∃ ad A2 c2 A5 c5, A = some ad ∧ w.cell? (ad.add (i.toNat * 6)) = some (.int .i64 (rd_T26 xs i).f0) ∧ w.cell? ⟨(ad.add (i.toNat * 6)).block, (ad.add (i.toNat * 6)).off + 1, none⟩ = some (.int .i64 (rd_T26 xs i).f1) ∧ w.cell? ⟨(ad.add (i.toNat * 6)).block, (ad.add (i.toNat * 6)).off + 2, none⟩ = some (.slice A2 (rd_T26 xs i).f2.length c2) ∧ w.cell? ⟨(ad.add (i.toNat * 6)).block, (ad.add (i.toNat * 6)).off + 3, none⟩ = some (.float .f64 (rd_T26 xs i).f3) ∧ w.cell? ⟨(ad.add (i.toNat * 6)).block, (ad.add (i.toNat * 6)).off + 4, none⟩ = some (.float .f64 (rd_T26 xs i).f4) ∧ w.cell? ⟨(ad.add (i.toNat * 6)).block, (ad.add (i.toNat * 6)).off + 5, none⟩ = some (.slice A5 (rd_T26 xs i).f5.length c5) ∧ (rd_T26 xs i).f2.length ≤ c2 ∧ k55.C w A2 (rd_T26 xs i).f2.length (rd_T26 xs i).f2 ∧ (rd_T26 xs i).f5.length ≤ c5 ∧ k26.C w A5 (rd_T26 xs i).f5.length (rd_T26 xs i).f5 := by
 obtain ⟨ad, c, e, _, hK, hc0⟩ := Kd.C_get h z26 i h0 h1
 have hc : ∀ j u, c[j]? = some u → w.cell? (ad.add (i.toNat * 6 + j)) = some u := hc0
 obtain ⟨A2, c2, A5, c5, rfl, l2, g2, l5, g5⟩ := k26_open hK
 exact ⟨ad, A2, c2, A5, c5, e, hc 0 _ rfl, by rw [← add_field _ _ 1 (by omega)]; exact hc 1 _ rfl, by rw [← add_field _ _ 2 (by omega)]; exact hc 2 _ rfl, by rw [← add_field _ _ 3 (by omega)]; exact hc 3 _ rfl, by rw [← add_field _ _ 4 (by omega)]; exact hc 4 _ rfl, by rw [← add_field _ _ 5 (by omega)]; exact hc 5 _ rfl, l2, g2, l5, g5⟩

/-! #### struct type 37 -/
structure S37 where
 f0 : Int
 f1 : Int
 f2 : Int
def z37 : S37 := ⟨(0 : Int), (0 : Int), (0 : Int)⟩
def k37 : Kd S37 := Kd.iso (Kd.pair (Kd.int .i64) (Kd.pair (Kd.int .i64) (Kd.int .i64))) (fun x : S37 => (x.f0, x.f1, x.f2))
theorem k37_open {w : World} {x : S37} {cs : List Value} (h : k37.K w x cs) : cs = [.int .i64 x.f0, .int .i64 x.f1, .int .i64 x.f2] := by
 obtain ⟨_, _, rfl, rfl, ⟨_, _, rfl, rfl, rfl⟩⟩ := h
 exact rfl
theorem k37_openM {w : World} {base : Nat} {ok : Nat → Prop} {x : S37} {cs : List Value} (h : k37.M w base ok x cs) : cs = [.int .i64 x.f0, .int .i64 x.f1, .int .i64 x.f2] := by
 obtain ⟨_, _, rfl, rfl, ⟨_, _, rfl, rfl, rfl⟩⟩ := h
 exact rfl
theorem k37_mk (w : World) (x : S37)  : k37.K w x [.int .i64 x.f0, .int .i64 x.f1, .int .i64 x.f2] := ⟨[.int .i64 x.f0], [.int .i64 x.f1, .int .i64 x.f2], rfl, rfl, ⟨[.int .i64 x.f1], [.int .i64 x.f2], rfl, rfl, rfl⟩⟩
theorem k37_mkM (w : World) (base : Nat) (ok : Nat → Prop) (x : S37)  : k37.M w base ok x [.int .i64 x.f0, .int .i64 x.f1, .int .i64 x.f2] := ⟨[.int .i64 x.f0], [.int .i64 x.f1, .int .i64 x.f2], rfl, rfl, ⟨[.int .i64 x.f1], [.int .i64 x.f2], rfl, rfl, rfl⟩⟩
theorem k37_mkF (W : World) (ok : Nat → Prop) (x : S37) : Kd.FK k37 W ok x [.int .i64 x.f0, .int .i64 x.f1, .int .i64 x.f2] := fun W2 _ => k37_mk W2 x
def rd_T37 (xs : List S37) (i : Int) : S37 := xs.getD i.toNat z37
theorem at_T37 {w : World} {A : Option Addr} {n : Nat} {xs : List S37} (h : Kd.C k37 w A n xs) (i : Int) (h0 : 0 ≤ i) (h1 : i < n) : ∃ ad , A = some ad ∧ w.cell? (ad.add (i.toNat * 3)) = some (.int .i64 (rd_T37 xs i).f0) ∧ w.cell? ⟨(ad.add (i.toNat * 3)).block, (ad.add (i.toNat * 3)).off + 1, none⟩ = some (.int .i64 (rd_T37 xs i).f1) ∧ w.cell? ⟨(ad.add (i.toNat * 3)).block, (ad.add (i.toNat * 3)).off + 2, none⟩ = some (.int .i64 (rd_T37 xs i).f2) := by
 obtain ⟨ad, c, e, _, hK, hc0⟩ := Kd.C_get h z37 i h0 h1
 have hc : ∀ j u, c[j]? = some u → w.cell? (ad.add (i.toNat * 3 + j)) = some u := hc0
 obtain rfl := k37_open hK
 exact ⟨ad, e, hc 0 _ rfl, by rw [← add_field _ _ 1 (by omega)]; exact hc 1 _ rfl, by rw [← add_field _ _ 2 (by omega)]; exact hc 2 _ rfl⟩

/-! #### struct type 39 -/
structure S39 where
 f0 : Bool
 f1 : S26
 f2 : S37
 f3 : Int
def z39 : S39 := ⟨false, z26, z37, (0 : Int)⟩
def k39 : Kd S39 := Kd.iso (Kd.pair Kd.bool (Kd.pair k26 (Kd.pair k37 (Kd.int .i64)))) (fun x : S39 => (x.f0, x.f1, x.f2, x.f3))
theorem k39_open {w : World} {x : S39} {cs : List Value} (h : k39.K w x cs) : ∃ A3 c3 A6 c6, cs = [.bool x.f0, .int .i64 x.f1.f0, .int .i64 x.f1.f1, .slice A3 x.f1.f2.length c3, .float .f64 x.f1.f3, .float .f64 x.f1.f4, .slice A6 x.f1.f5.length c6, .int .i64 x.f2.f0, .int .i64 x.f2.f1, .int .i64 x.f2.f2, .int .i64 x.f3] ∧ x.f1.f2.length ≤ c3 ∧ k55.C w A3 x.f1.f2.length x.f1.f2 ∧ x.f1.f5.length ≤ c6 ∧ k26.C w A6 x.f1.f5.length x.f1.f5 := by
 obtain ⟨_, _, rfl, rfl, ⟨_, _, rfl, s1, ⟨_, _, rfl, s7, rfl⟩⟩⟩ := h
 obtain ⟨A3, c3, A6, c6, rfl, l3, g3, l6, g6⟩ := k26_open s1
 obtain rfl := k37_open s7
 exact ⟨A3, c3, A6, c6, rfl, l3, g3, l6, g6⟩
theorem k39_openM {w : World} {base : Nat} {ok : Nat → Prop} {x : S39} {cs : List Value} (h : k39.M w base ok x cs) : ∃ v3 v6, cs = [.bool x.f0, .int .i64 x.f1.f0, .int .i64 x.f1.f1, v3, .float .f64 x.f1.f3, .float .f64 x.f1.f4, v6, .int .i64 x.f2.f0, .int .i64 x.f2.f1, .int .i64 x.f2.f2, .int .i64 x.f3] ∧ k55.R 55 w base ok v3 x.f1.f2 ∧ k26.R 26 w base ok v6 x.f1.f5 := by
 obtain ⟨_, _, rfl, rfl, ⟨_, _, rfl, s1, ⟨_, _, rfl, s7, rfl⟩⟩⟩ := h
 obtain ⟨v3, v6, rfl, g3, g6⟩ := k26_openM s1
 obtain rfl := k37_openM s7
 exact ⟨v3, v6, rfl, g3, g6⟩
theorem k39_mk (w : World) (x : S39) {A3 : Option Addr} {c3 : Nat} (l3 : x.f1.f2.length ≤ c3) (g3 : k55.C w A3 x.f1.f2.length x.f1.f2) {A6 : Option Addr} {c6 : Nat} (l6 : x.f1.f5.length ≤ c6) (g6 : k26.C w A6 x.f1.f5.length x.f1.f5) : k39.K w x [.bool x.f0, .int .i64 x.f1.f0, .int .i64 x.f1.f1, .slice A3 x.f1.f2.length c3, .float .f64 x.f1.f3, .float .f64 x.f1.f4, .slice A6 x.f1.f5.length c6, .int .i64 x.f2.f0, .int .i64 x.f2.f1, .int .i64 x.f2.f2, .int .i64 x.f3] := ⟨[.bool x.f0], [.int .i64 x.f1.f0, .int .i64 x.f1.f1, .slice A3 x.f1.f2.length c3, .float .f64 x.f1.f3, .float .f64 x.f1.f4, .slice A6 x.f1.f5.length c6, .int .i64 x.f2.f0, .int .i64 x.f2.f1, .int .i64 x.f2.f2, .int .i64 x.f3], rfl, rfl, ⟨[.int .i64 x.f1.f0, .int .i64 x.f1.f1, .slice A3 x.f1.f2.length c3, .float .f64 x.f1.f3, .float .f64 x.f1.f4, .slice A6 x.f1.f5.length c6], [.int .i64 x.f2.f0, .int .i64 x.f2.f1, .int .i64 x.f2.f2, .int .i64 x.f3], rfl, (k26_mk w x.f1 l3 g3 l6 g6), ⟨[.int .i64 x.f2.f0, .int .i64 x.f2.f1, .int .i64 x.f2.f2], [.int .i64 x.f3], rfl, (k37_mk w x.f2 ), rfl⟩⟩⟩
theorem k39_mkM (w : World) (base : Nat) (ok : Nat → Prop) (x : S39) {v3 : Value} (g3 : k55.R 55 w base ok v3 x.f1.f2) {v6 : Value} (g6 : k26.R 26 w base ok v6 x.f1.f5) : k39.M w base ok x [.bool x.f0, .int .i64 x.f1.f0, .int .i64 x.f1.f1, v3, .float .f64 x.f1.f3, .float .f64 x.f1.f4, v6, .int .i64 x.f2.f0, .int .i64 x.f2.f1, .int .i64 x.f2.f2, .int .i64 x.f3] := ⟨[.bool x.f0], [.int .i64 x.f1.f0, .int .i64 x.f1.f1, v3, .float .f64 x.f1.f3, .float .f64 x.f1.f4, v6, .int .i64 x.f2.f0, .int .i64 x.f2.f1, .int .i64 x.f2.f2, .int .i64 x.f3], rfl, rfl, ⟨[.int .i64 x.f1.f0, .int .i64 x.f1.f1, v3, .float .f64 x.f1.f3, .float .f64 x.f1.f4, v6], [.int .i64 x.f2.f0, .int .i64 x.f2.f1, .int .i64 x.f2.f2, .int .i64 x.f3], rfl, (k26_mkM w base ok x.f1 g3 g6), ⟨[.int .i64 x.f2.f0, .int .i64 x.f2.f1, .int .i64 x.f2.f2], [.int .i64 x.f3], rfl, (k37_mkM w base ok x.f2 ), rfl⟩⟩⟩
theorem k39_openF {W : World} {ok : Nat → Prop} {x : S39} {cs : List Value} (h : Kd.FK k39 W ok x cs) : ∃ A3 c3 A6 c6, cs = [.bool x.f0, .int .i64 x.f1.f0, .int .i64 x.f1.f1, .slice A3 x.f1.f2.length c3, .float .f64 x.f1.f3, .float .f64 x.f1.f4, .slice A6 x.f1.f5.length c6, .int .i64 x.f2.f0, .int .i64 x.f2.f1, .int .i64 x.f2.f2, .int .i64 x.f3] ∧ x.f1.f2.length ≤ c3 ∧ Kd.F k55 W ok A3 x.f1.f2.length x.f1.f2 ∧ x.f1.f5.length ≤ c6 ∧ Kd.F k26 W ok A6 x.f1.f5.length x.f1.f5 := by
 obtain ⟨A3, c3, A6, c6, rfl, l3, _, l6, _⟩ := k39_open (Kd.FK_now h)
 exact ⟨A3, c3, A6, c6, rfl, l3, (fun W' hW => by obtain ⟨A3_, c3_, A6_, c6_, he, l3_, g3_, l6_, g6_⟩ := k39_open (h W' hW); injection (Option.some.inj (show some (Value.slice A3 x.f1.f2.length c3) = some (Value.slice A3_ x.f1.f2.length c3_) from congrArg (fun l => l[3]?) he)) with ha_ _ _; rw [ha_]; exact g3_), l6, (fun W' hW => by obtain ⟨A3_, c3_, A6_, c6_, he, l3_, g3_, l6_, g6_⟩ := k39_open (h W' hW); injection (Option.some.inj (show some (Value.slice A6 x.f1.f5.length c6) = some (Value.slice A6_ x.f1.f5.length c6_) from congrArg (fun l => l[6]?) he)) with ha_ _ _; rw [ha_]; exact g6_)⟩
theorem k39_mkF (W : World) (ok : Nat → Prop) (x : S39) {A3 : Option Addr} {c3 : Nat} (l3 : x.f1.f2.length ≤ c3) (g3 : Kd.F k55 W ok A3 x.f1.f2.length x.f1.f2) {A6 : Option Addr} {c6 : Nat} (l6 : x.f1.f5.length ≤ c6) (g6 : Kd.F k26 W ok A6 x.f1.f5.length x.f1.f5) : Kd.FK k39 W ok x [.bool x.f0, .int .i64 x.f1.f0, .int .i64 x.f1.f1, .slice A3 x.f1.f2.length c3, .float .f64 x.f1.f3, .float .f64 x.f1.f4, .slice A6 x.f1.f5.length c6, .int .i64 x.f2.f0, .int .i64 x.f2.f1, .int .i64 x.f2.f2, .int .i64 x.f3] := fun W2 hW => k39_mk W2 x l3 (g3 W2 hW) l6 (g6 W2 hW)
def rd_T39 (xs : List S39) (i : Int) : S39 := xs.getD i.toNat z39
theorem at_T39 {w : World} {A : Option Addr} {n : Nat} {xs : List S39} (h : Kd.C k39 w A n xs) (i : Int) (h0 : 0 ≤ i) (h1 : i < n) : ∃ ad A3 c3 A6 c6, A = some ad ∧ w.cell? (ad.add (i.toNat * 11)) = some (.bool (rd_T39 xs i).f0) ∧ w.cell? ⟨(ad.add (i.toNat * 11)).block, (ad.add (i.toNat * 11)).off + 1, none⟩ = some (.int .i64 (rd_T39 xs i).f1.f0) ∧ w.cell? ⟨(ad.add (i.toNat * 11)).block, (ad.add (i.toNat * 11)).off + 2, none⟩ = some (.int .i64 (rd_T39 xs i).f1.f1) ∧ w.cell? ⟨(ad.add (i.toNat * 11)).block, (ad.add (i.toNat * 11)).off + 3, none⟩ = some (.slice A3 (rd_T39 xs i).f1.f2.length c3) ∧ w.cell? ⟨(ad.add (i.toNat * 11)).block, (ad.add (i.toNat * 11)).off + 4, none⟩ = some (.float .f64 (rd_T39 xs i).f1.f3) ∧ w.cell? ⟨(ad.add (i.toNat * 11)).block, (ad.add (i.toNat * 11)).off + 5, none⟩ = some (.float .f64 (rd_T39 xs i).f1.f4) ∧ w.cell? ⟨(ad.add (i.toNat * 11)).block, (ad.add (i.toNat * 11)).off + 6, none⟩ = some (.slice A6 (rd_T39 xs i).f1.f5.length c6) ∧ w.cell? ⟨(ad.add (i.toNat * 11)).block, (ad.add (i.toNat * 11)).off + 7, none⟩ = some (.int .i64 (rd_T39 xs i).f2.f0) ∧ w.cell? ⟨(ad.add (i.toNat * 11)).block, (ad.add (i.toNat * 11)).off + 8, none⟩ = some (.int .i64 (rd_T39 xs i).f2.f1) ∧ w.cell? ⟨(ad.add (i.toNat * 11)).block, (ad.add (i.toNat * 11)).off + 9, none⟩ = some (.int .i64 (rd_T39 xs i).f2.f2) ∧ w.cell? ⟨(ad.add (i.toNat * 11)).block, (ad.add (i.toNat * 11)).off + 10, none⟩ = some (.int .i64 (rd_T39 xs i).f3) ∧ (rd_T39 xs i).f1.f2.length ≤ c3 ∧ k55.C w A3 (rd_T39 xs i).f1.f2.length (rd_T39 xs i).f1.f2 ∧ (rd_T39 xs i).f1.f5.length ≤ c6 ∧ k26.C w A6 (rd_T39 xs i).f1.f5.length (rd_T39 xs i).f1.f5 := by
 obtain ⟨ad, c, e, _, hK, hc0⟩ := Kd.C_get h z39 i h0 h1
 have hc : ∀ j u, c[j]? = some u → w.cell? (ad.add (i.toNat * 11 + j)) = some u := hc0
 obtain ⟨A3, c3, A6, c6, rfl, l3, g3, l6, g6⟩ := k39_open hK
 exact ⟨ad, A3, c3, A6, c6, e, hc 0 _ rfl, by rw [← add_field _ _ 1 (by omega)]; exact hc 1 _ rfl, by rw [← add_field _ _ 2 (by omega)]; exact hc 2 _ rfl, by rw [← add_field _ _ 3 (by omega)]; exact hc 3 _ rfl, by rw [← add_field _ _ 4 (by omega)]; exact hc 4 _ rfl, by rw [← add_field _ _ 5 (by omega)]; exact hc 5 _ rfl, by rw [← add_field _ _ 6 (by omega)]; exact hc 6 _ rfl, by rw [← add_field _ _ 7 (by omega)]; exact hc 7 _ rfl, by rw [← add_field _ _ 8 (by omega)]; exact hc 8 _ rfl, by rw [← add_field _ _ 9 (by omega)]; exact hc 9 _ rfl, by rw [← add_field _ _ 10 (by omega)]; exact hc 10 _ rfl, l3, g3, l6, g6⟩

end Go.Proofs.Ytppmcbkcohiodaa.PMeanTells
namespace Go.Proofs.YtppmcbkcohiodaaW.PrintLast
open Go.RowKit Go.Proofs.YtppmcbkcohiodaaW.PrintWords
/-- Of n operations, ordered so, the first k have come up. -/
def dn (o : List Nat) (k n : Nat) : Array Bool := ((o.take k).foldl (fun l i => l.set i true) (List.replicate n false)).toArray
theorem dn_zero (o : List Nat) (n : Nat) : Array.replicate n false = dn o 0 n := by simp [dn]
/-- A byte of a string, under a name. -/
theorem byte_at (s : ByteArray) (i : Nat) (h : i < s.size) : ∃ v : Int, bt s (i : Int) = v ∧ 0 ≤ v ∧ v ≤ 255 ∧ wrap64 v = v ∧ IntKind.i64.wrap v = v ∧ ((s[i]'h).toNat : Int) = v := by
  have hb := bt_range s (i : Int)
  refine ⟨_, rfl, hb.1, hb.2, ?_, ?_, bt_at s (i : Int) (by simpa using h)⟩
  · unfold wrap64; omega
  · rw [IntKind.wrap_i64]; omega
section
variable {P : Program} {ops : Array Oper} {Q : Exit → Act → World → Prop} {S : World → Prop} {o : List Nat} {n fuel k : Nat} {a : Act} {w : World}
theorem reg_start (o : List Nat) (n : Nat) (S : World → Prop) {id : Nat} (hm : P.follows .mixedOrders = true) (hn : ops.size = n) (hS : S w.drew) (h : S w.drew → wpAnyLast P .any ops Q S [] n (dn o 0 n) a w.drew) : (Code.region id ops true).wp P Q a w :=
  start_ (dn o 0 n) hm hn (dn_zero o n) hS h
/-- An operation that only reckons. -/
theorem reg_pure {i : Nat} {N : Tmp} {oi : Oper} {v : Value} (_ho : o[k]? = some i) (hi : ops[i]? = some oi) (hN : oi.dst = some N) (hc : anyT (rtab .any ops) (dn o k n).toList (dn o (k + 1) n).toList i = true)
    (hQ : ∀ c a w, Q (.panic c) (a.put oi.dst v) w → Q (.panic c) a w) (hw : Region.wanted oi (yielded ops a.tmps) = true) (hy : ∀ w, (execOp a.eval oi).run P w = .ok (.value v) w) {a' : Act} (ha : a.put (some N) v = a')
    (h : wpAnyLast P .any ops Q S [] fuel (dn o (k + 1) n) a' w) : wpAnyLast P .any ops Q S [] (fuel + 1) (dn o k n) a w :=
  pure_ (dn o (k + 1) n) hi hN (any_of rfl hc) hQ (Or.inl ⟨hw, hy⟩) ha h
/-- An operation whose guard is not met. -/
theorem reg_skip {i : Nat} {N : Tmp} {oi : Oper} (_ho : o[k]? = some i) (hi : ops[i]? = some oi) (hN : oi.dst = some N) (hw : Region.wanted oi (yielded ops a.tmps) = false) (hc : anyT (rtab .any ops) (dn o k n).toList (dn o (k + 1) n).toList i = true)
    (hQ : ∀ c a w, Q (.panic c) (a.put oi.dst undef) w → Q (.panic c) a w) {a' : Act} (ha : a.put (some N) undef = a')
    (h : wpAnyLast P .any ops Q S [] fuel (dn o (k + 1) n) a' w) : wpAnyLast P .any ops Q S [] (fuel + 1) (dn o k n) a w :=
  pure_ (dn o (k + 1) n) hi hN (any_of rfl hc) hQ (Or.inr ⟨hw, rfl⟩) ha h
/-- A load of what is held. -/
theorem reg_load {i : Nat} {N : Tmp} {oi : Oper} {v : Value} (_ho : o[k]? = some i) (hi : ops[i]? = some oi) (hN : oi.dst = some N) (hc : takeT (rtab .any ops) [] (dn o k n).toList (dn o (k + 1) n).toList i = true)
    (hQ : ∀ c a w, Q (.panic c) (a.put oi.dst v) w → Q (.panic c) a w) (hw : Region.wanted oi (yielded ops a.tmps) = true) (hy : ∀ w, S w → (execOp a.eval oi).run P w = .ok (.value v) w) (hS : S w) {a' : Act} (ha : a.put (some N) v = a')
    (h : S w → wpAnyLast P .any ops Q S [] fuel (dn o (k + 1) n) a' w) : wpAnyLast P .any ops Q S [] (fuel + 1) (dn o k n) a w :=
  take_ (dn o (k + 1) n) hi hN (take_of rfl hc) hQ (Or.inl ⟨hw, hy⟩) hS ha (h hS)
/-- A call of a Go function, by its contract. -/
theorem reg_call {i : Nat} {N : Tmp} {oi : Oper} {f : FuncId} {fn : Func} {ars : Array Operand} {ts : Array TypeId} (_ho : o[k]? = some i) (hi : ops[i]? = some oi) (hN : oi.dst = some N) (hc : (readyT (rtab .any ops).2 (dn o k n).toList == [i] && (dn o k n).toList.set i true == (dn o (k + 1) n).toList) = true)
    (hw : Region.wanted oi (yielded ops a.tmps) = true) (hf : P.funcs[f]? = some fn) (hname : (fn.name == "runtime.NumGoroutine") = false) (hb : fn.body.isSome = true) (args : Array Value) (hop : oi.op = .call { callee := .value (.func f), args := ars, argTypes := ts }) (hargs : ars.map a.eval = args)
    (h : Calls P f args w fun e w' => ∃ v, e = .returned v ∧ S w' ∧ (S w' → ∀ a', a.put (some N) v = a' → wpAnyLast P .any ops Q S [] fuel (dn o (k + 1) n) a' w')) : wpAnyLast P .any ops Q S [] (fuel + 1) (dn o k n) a w := by
  refine one_ (dn o (k + 1) n) hi hN (one_of rfl hc) (by simp) (fun K hK => goes_ hf hname hb args hw hN hop hargs (h.mono fun e w' hh => ?_))
  obtain ⟨v, he, hS, hk⟩ := hh
  exact ⟨v, he, hK.out _ _ hS (fun h => hk h _ rfl)⟩
theorem reg_done (h0 : (readyT (rtab .any ops).2 (dn o n n).toList == []) = true) (h : Q .normal a w) : wpAnyLast P .any ops Q S [] fuel (dn o n n) a w :=
  done_ (done_of rfl h0) h
end
end Go.Proofs.YtppmcbkcohiodaaW.PrintLast
