/- ask.read's map, as the walker is to know it. -/
import Derived.Test.YtinoabkfekomcaaMap
namespace Go.Proofs.YtinoabkfekomcaaW.PrintWords
open Go Go.RowKit
theorem read_m0 (t : TypeId) (P : Program) (W : World) : (Instr.makeMap t none).run P W = .ok (.map (some W.heap.size)) (W.alloc (.map #[] 0)) := run_makeMap_plain W t
theorem read_m1 (W : World) (b : Nat) (hb : b = W.heap.size) : (Instr.mapUpdate 85 (.map (some b)) (.int .i64 22) (.int .i64 3)).run Try.prog (W.alloc (.map #[] 0)) = .ok () (W.alloc (.map #[⟨.int .i64 22, .int .i64 3, 0⟩] 1)) := hb ▸ map_first 22 3 W Try.underlying85 Try.underlying3
theorem read_m2 (W : World) (b : Nat) (hb : b = W.heap.size) : (Instr.mapUpdate 85 (.map (some b)) (.int .i64 23) (.int .i64 4)).run Try.prog (W.alloc (.map #[⟨.int .i64 22, .int .i64 3, 0⟩] 1)) = .ok () (W.alloc (twoKeys 22 3 23 4)) := hb ▸ map_second 22 3 23 4 W Try.underlying85 Try.underlying3 (by decide)
theorem read_look (k : Int) (W : World) (b : Nat) (hb : b = W.heap.size) : (Instr.lookup 85 (.map (some b)) (.int .i64 k) true).run Try.prog (W.alloc (twoKeys 22 3 23 4)) = .ok (.tuple #[.int .i64 (atTwo 22 3 23 4 k), .bool (inTwo 22 23 k)]) (W.alloc (twoKeys 22 3 23 4)) := hb ▸ map_look 22 3 23 4 k W Try.underlying85 Try.underlying3 (fun w => by kernel_rfl)
end Go.Proofs.YtinoabkfekomcaaW.PrintWords
