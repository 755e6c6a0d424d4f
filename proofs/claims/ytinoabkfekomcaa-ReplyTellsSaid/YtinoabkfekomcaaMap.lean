/- A map literal of two whole numbers, made and looked up at once: what the walker is to know. -/
import Derived.Test.YtinoabkfekomcaaHand
import Derived.Test.YtinoabkfekomcaaProg
import Derived.Carry
import Derived.WideMake
namespace Go.Proofs.YtinoabkfekomcaaW.PrintWords
open Go Go.RowKit
section
variable {P : Program} {w : World} {t kt et : TypeId}
theorem map_put {es : Array MapEntry} {clock r : Nat} (a x : Int) (hm : P.underlying t = some (.map kt et)) (hk : P.underlying kt = some (.int .i64)) (hb : w.heap[r]? = some (.map es clock)) (hf : Instr.findNow (.int .i64) (.int .i64 a) es.toList 0 = some none) :
    (Instr.mapUpdate t (.map (some r)) (.int .i64 a) (.int .i64 x)).run P w = .ok () { w with heap := w.heap.setIfInBounds r (.map (es.push { key := .int .i64 a, val := .int .i64 x, born := clock }) (clock + 1)) } := by
  have hc : (Instr.checkKey false 10000 kt (.int .i64 a)).run P w = .ok () w := MapKept.run_checkKey (k := .int .i64 a) hk (by simp [MapKept.IsKey]) false 9999
  simp [Instr.mapUpdate, run_underlying hm, MapKept.run_getObj_map hb, hc, MapKept.run_findKey hk hf, MapKept.run_setObj_map _ hb, Result.andThen]
theorem alloc_over (W : World) (o o' : Obj) : { W.alloc o with heap := (W.alloc o).heap.setIfInBounds W.heap.size o' } = W.alloc o' := by
  have e : (W.heap.push o).setIfInBounds W.heap.size o' = W.heap.push o' := by
    apply Array.ext'
    simp
  show { W.alloc o with heap := (W.heap.push o).setIfInBounds W.heap.size o' } = W.alloc o'
  rw [e]
  rfl
def twoKeys (a x b y : Int) : Obj := .map #[⟨.int .i64 a, .int .i64 x, 0⟩, ⟨.int .i64 b, .int .i64 y, 1⟩] 2
theorem map_first (a x : Int) (W : World) (hm : P.underlying t = some (.map kt et)) (hk : P.underlying kt = some (.int .i64)) :
    (Instr.mapUpdate t (.map (some W.heap.size)) (.int .i64 a) (.int .i64 x)).run P (W.alloc (.map #[] 0)) = .ok () (W.alloc (.map #[⟨.int .i64 a, .int .i64 x, 0⟩] 1)) := by
  rw [map_put a x hm hk (hblk_new W _) rfl, alloc_over]
  rfl
theorem map_second (a x b y : Int) (W : World) (hm : P.underlying t = some (.map kt et)) (hk : P.underlying kt = some (.int .i64)) (hab : a ≠ b) :
    (Instr.mapUpdate t (.map (some W.heap.size)) (.int .i64 b) (.int .i64 y)).run P (W.alloc (.map #[⟨.int .i64 a, .int .i64 x, 0⟩] 1)) = .ok () (W.alloc (twoKeys a x b y)) := by
  have hf : Instr.findNow (.int .i64) (.int .i64 b) (#[⟨.int .i64 a, .int .i64 x, 0⟩] : Array MapEntry).toList 0 = some none := by
    have e : (b == a) = false := beq_eq_false_iff_ne.2 (Ne.symm hab)
    simp [Instr.findNow, Instr.sameNow, e]
  rw [map_put b y hm hk (hblk_new W _) hf, alloc_over]
  rfl
/-- What a map of two tells of a key. -/
def atTwo (a x b y k : Int) : Int := if k = a then x else if k = b then y else 0
def inTwo (a b k : Int) : Bool := k == a || k == b
theorem map_look (a x b y k : Int) (W : World) (hm : P.underlying t = some (.map kt et)) (hk : P.underlying kt = some (.int .i64)) (hz : ∀ w : World, (zeroValue et).run P w = .ok (.int .i64 0) w) :
    (Instr.lookup t (.map (some W.heap.size)) (.int .i64 k) true).run P (W.alloc (twoKeys a x b y)) = .ok (.tuple #[.int .i64 (atTwo a x b y k), .bool (inTwo a b k)]) (W.alloc (twoKeys a x b y)) := by
  have hb : (W.alloc (twoKeys a x b y)).heap[W.heap.size]? = some (.map #[⟨.int .i64 a, .int .i64 x, 0⟩, ⟨.int .i64 b, .int .i64 y, 1⟩] 2) := hblk_new W _
  have hc : (Instr.checkKey false 10000 kt (.int .i64 k)).run P (W.alloc (twoKeys a x b y)) = .ok () (W.alloc (twoKeys a x b y)) := MapKept.run_checkKey (k := .int .i64 k) hk (by simp [MapKept.IsKey]) false 9999
  unfold atTwo inTwo
  by_cases h1 : k = a
  · subst h1
    have hf : Instr.findNow (.int .i64) (.int .i64 k) [⟨.int .i64 k, .int .i64 x, 0⟩, ⟨.int .i64 b, .int .i64 y, 1⟩] 0 = some (some (0, .int .i64 x)) := by
      simp [Instr.findNow, Instr.sameNow]
    simp [Instr.lookup, run_underlying hm, MapKept.run_getObj_map hb, hc, MapKept.run_findKey hk hf, Result.andThen]
  · have e1 : (k == a) = false := beq_eq_false_iff_ne.2 h1
    by_cases h2 : k = b
    · subst h2
      have hf : Instr.findNow (.int .i64) (.int .i64 k) [⟨.int .i64 a, .int .i64 x, 0⟩, ⟨.int .i64 k, .int .i64 y, 1⟩] 0 = some (some (1, .int .i64 y)) := by
        simp [Instr.findNow, Instr.sameNow, e1]
      simp [Instr.lookup, run_underlying hm, MapKept.run_getObj_map hb, hc, MapKept.run_findKey hk hf, Result.andThen, h1]
    · have e2 : (k == b) = false := beq_eq_false_iff_ne.2 h2
      have hf : Instr.findNow (.int .i64) (.int .i64 k) [⟨.int .i64 a, .int .i64 x, 0⟩, ⟨.int .i64 b, .int .i64 y, 1⟩] 0 = some none := by
        simp [Instr.findNow, Instr.sameNow, e1, e2]
      simp [Instr.lookup, run_underlying hm, MapKept.run_getObj_map hb, hc, MapKept.run_findKey hk hf, Result.andThen, hz, h1, h2]
end
end Go.Proofs.YtinoabkfekomcaaW.PrintWords
