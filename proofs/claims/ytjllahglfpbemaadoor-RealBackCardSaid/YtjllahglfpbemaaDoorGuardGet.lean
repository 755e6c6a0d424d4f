/- guard: Get, walked by hand over the shelf's contracts. -/
import Derived.Test.YtjllahglfpbemaaDoorGuardRead
import Derived.Tactics
import Derived.Tactics2
import Derived.Defers
import Derived.Recover
import Derived.Laws.Pointers
import Derived.WalkLawsBesides
import Derived.Lib.LaidTab
import Derived.Lib.AtoiErrMem
import Derived.Lib.AppendIntMem
namespace Go.Proofs.YtjllahglfpbemaaDoor.PGuardTells
open Go Go.RowKit Go.Proofs.YtjllahglfpbemaaDoorW.PrintWords Go.Proofs.YtjllahglfpbemaaDoorW.PrintLast Go.Proofs.YtjllahglfpbemaaDoorW.PrintMore
set_option maxHeartbeats 2000000
set_option maxRecDepth 100000
set_option linter.unusedVariables false
set_option linter.unusedSimpArgs false
theorem catch_panicking (b b' : Nat) (older : List PanicEntry) (w : World) (x y : Value) (hp : w.heap[b]? = some (.cells #[x] 3 (0, 0))) (hq : w.heap[b']? = some (.cells #[y] 4 (0, 0))) (hbb : b ≠ b') :
    CallsD Tryd.prog 51 #[.pointer (some ⟨b, 0, none⟩), .pointer (some ⟨b', 0, none⟩)] (.panicking ({ v := .iface 71 (.agg #[]), recovered := false } :: older)) w fun e u' w' =>
      e = .returned (.tuple #[]) ∧ u' = .panicking ({ v := .iface 71 (.agg #[]), recovered := true } :: older) ∧ w' = ((w.alloc (.cells #[] 71)).setCell ⟨b, 0, none⟩ (.int .i64 0)).setCell ⟨b', 0, none⟩ (.bool false) := by
  have hA := below_alloc (Below.refl w.heap.size w) (.cells #[] 71)
  have P1 := blk_below hp hA
  have Q1 := blk_below hq hA
  have p1 : (w.alloc (.cells #[] 71)).cell? ⟨b, 0, none⟩ = some x := blk_cell P1 0
  have f1 : (w.alloc (.cells #[] 71)).frozen? ⟨b, 0, none⟩ = false := blk_frozen P1 0
  have q0 : (w.alloc (.cells #[] 71)).cell? ⟨b', 0, none⟩ = some y := blk_cell Q1 0
  have g0 : (w.alloc (.cells #[] 71)).frozen? ⟨b', 0, none⟩ = false := blk_frozen Q1 0
  have q1 : ((w.alloc (.cells #[] 71)).setCell ⟨b, 0, none⟩ (.int .i64 0)).cell? ⟨b', 0, none⟩ = some y := by
    rw [World.cell?_setCell_other _ _ _ _ (by intro h; simp only [Addr.mk.injEq] at h; exact hbb (by first | exact h.1 | exact h.1.symm))]
    exact blk_cell Q1 0
  have g1 : ((w.alloc (.cells #[] 71)).setCell ⟨b, 0, none⟩ (.int .i64 0)).frozen? ⟨b', 0, none⟩ = false := by
    rw [World.frozen?_setCell]
    exact blk_frozen Q1 0
  have hta : ∀ w, (Instr.typeAssert (.iface 71 (.agg #[])) 20 71 true).run Tryd.prog w = .ok (.tuple #[.agg #[], .bool true]) w := fun w => by rfl
  clear hA P1 Q1 hp hq
  refine callsD_of_wpS Tryd.func51 rfl fun c₀ cs hu => ?_
  apply wpS_seq
  apply wpS_region
  simp [wpOpsS, go_sem, recoverD, hu, Tryd.ntmps51, Exit.thenS]
  refine wpS_of_wp ?_
  go_wp2
  simp [bodyPostS, results, Tryd.results51]
theorem catch_idle (p q : Addr) (w : World) :
    CallsD Tryd.prog 51 #[.pointer (some p), .pointer (some q)] .returning w fun e u' w' => e = .returned (.tuple #[]) ∧ u' = .returning ∧ w' = w := by
  refine callsD_of_wpS Tryd.func51 rfl fun c₀ cs hu => ?_
  apply wpS_seq
  apply wpS_region
  simp [wpOpsS, go_sem, recoverD, hu, Tryd.ntmps51, Exit.thenS]
  refine wpS_of_wp ?_
  go_wp2
  cases c₀
  simp_all [bodyPostS, results, Tryd.results51]
def getV : Option Int → Value
  | some n => .tuple #[.int .i64 n, .bool true]
  | none => .tuple #[.int .i64 0, .bool false]
theorem guard_Get_calls (s : ByteArray) (w : World) (hm : s.size ≤ 1000000) : Calls Tryd.prog 29 #[.string s] w fun e w' => e = .returned (getV (readF s.data.toList)) ∧ Below w.heap.size w w' := by
  have hmf : ∀ (fn : Fn) (first cap : Array Value) (w : World), (Instr.makeFunc fn first cap).run Tryd.prog w = .ok (.func fn first cap) w := fun _ _ _ _ => rfl
  obtain ⟨r, hr⟩ : ∃ r, r = readF s.data.toList := ⟨_, rfl⟩
  have X := Aside0.mk (fun w => guard_read_calls s w hm)
  rw [← hr] at X
  rw [← hr]
  clear hr
  have H0 := blk_new w (.cells #[.int .i64 0] 3)
  have HA := below_alloc (Below.refl w.heap.size w) (.cells #[.int .i64 0] 3)
  have H1 := blk_new (w.alloc (.cells #[.int .i64 0] 3)) (.cells #[.bool false] 4)
  have HB := below_alloc (Below.refl (w.alloc (.cells #[.int .i64 0] 3)).heap.size (w.alloc (.cells #[.int .i64 0] 3))) (.cells #[.bool false] 4)
  have H0' := Aside0.mk (blk_below H0 HB)
  have HD := Aside0.mk (below_step HA HB)
  have H1' := Aside0.mk (show ((w.alloc (.cells #[.int .i64 0] 3)).alloc (.cells #[.bool false] 4)).heap[w.heap.size + 1]? = some (.cells #[.bool false] 4 (0, 0)) from by have := H1; simpa using this)
  clear H0 HA H1 HB
  cases r with
  | none =>
    go_enter_defers Tryd.func29, Tryd.ntmps29
    go_wp2_with fail
    refine (X.out _).mono ?_
    rintro e w1 ⟨rfl, hb⟩
    have K0 := blk_below H0'.out hb
    have K1 := blk_below H1'.out hb
    have KD := below_step HD.out hb
    change bodyPostD _ _ _ _ _ _
    refine leaves_cons (f := 51) (args := #[.pointer (some ⟨w.heap.size, 0, none⟩), .pointer (some ⟨w.heap.size + 1, 0, none⟩)]) (by simp) (by simp [go_sem]) ?_
    refine (catch_panicking w.heap.size (w.heap.size + 1) [] _ _ _ K0 K1 (by omega)).mono ?_
    rintro e u' w'' ⟨rfl, rfl, rfl⟩
    have K0' := blk_below K0 (below_alloc (Below.refl w1.heap.size w1) (.cells #[] 71))
    have K1' := blk_below K1 (below_alloc (Below.refl w1.heap.size w1) (.cells #[] 71))
    have KD' := ((below_alloc KD (.cells #[] 71)).setCell (p := ⟨w.heap.size, 0, none⟩) (Nat.le_refl _) (.int .i64 0)).setCell (p := ⟨w.heap.size + 1, 0, none⟩) (Nat.le_succ _) (.bool false)
    have R0 : (((w1.alloc (.cells #[] 71)).setCell ⟨w.heap.size, 0, none⟩ (.int .i64 0)).setCell ⟨w.heap.size + 1, 0, none⟩ (.bool false)).cell? ⟨w.heap.size, 0, none⟩ = some (.int .i64 0) := by
      rw [World.cell?_setCell_other _ _ _ _ (by intro h; simp only [Addr.mk.injEq] at h; omega)]
      exact World.cell?_setCell_same _ _ _ (blk_cell K0' 0)
    have R1 : (((w1.alloc (.cells #[] 71)).setCell ⟨w.heap.size, 0, none⟩ (.int .i64 0)).setCell ⟨w.heap.size + 1, 0, none⟩ (.bool false)).cell? ⟨w.heap.size + 1, 0, none⟩ = some (.bool false) := by
      exact World.cell?_setCell_same _ _ _ ((World.cell?_setCell_other _ _ _ _ (by intro h; simp only [Addr.mk.injEq] at h; omega)).trans (blk_cell K1' 0))
    generalize (((w1.alloc (.cells #[] 71)).setCell ⟨w.heap.size, 0, none⟩ (.int .i64 0)).setCell ⟨w.heap.size + 1, 0, none⟩ (.bool false)) = w2 at KD' R0 R1 ⊢
    simp [Leaves, settle, results, Tryd.results29, go_sem, R0, R1, getV]
    exact KD'
  | some n =>
    go_enter_defers Tryd.func29, Tryd.ntmps29
    go_wp2_with fail
    refine (X.out _).mono ?_
    rintro e w1 ⟨rfl, hb⟩
    have K0 := blk_below H0'.out hb
    have K1 := blk_below H1'.out hb
    have KD := Aside0.mk (below_step HD.out hb)
    have K0' := Aside0.mk K0
    have K1' := Aside0.mk K1
    have p0 : w1.cell? ⟨w.heap.size, 0, none⟩ = some (.int .i64 0) := blk_cell K0 0
    have f0 : w1.frozen? ⟨w.heap.size, 0, none⟩ = false := blk_frozen K0 0
    have p1 : w1.cell? ⟨w.heap.size + 1, 0, none⟩ = some (.bool false) := blk_cell K1 0
    have f1 : w1.frozen? ⟨w.heap.size + 1, 0, none⟩ = false := blk_frozen K1 0
    clear K0 K1
    simp only [readE]
    go_wp2
    have KD' := (KD.out.setCell (p := ⟨w.heap.size, 0, none⟩) (Nat.le_refl _) (.int .i64 n)).setCell (p := ⟨w.heap.size + 1, 0, none⟩) (Nat.le_succ _) (.bool true)
    have R0 : ((w1.setCell ⟨w.heap.size, 0, none⟩ (.int .i64 n)).setCell ⟨w.heap.size + 1, 0, none⟩ (.bool true)).cell? ⟨w.heap.size, 0, none⟩ = some (.int .i64 n) := by
      rw [World.cell?_setCell_other _ _ _ _ (by intro h; simp only [Addr.mk.injEq] at h; omega)]
      exact World.cell?_setCell_same _ _ _ (blk_cell K0'.out 0)
    have R1 : ((w1.setCell ⟨w.heap.size, 0, none⟩ (.int .i64 n)).setCell ⟨w.heap.size + 1, 0, none⟩ (.bool true)).cell? ⟨w.heap.size + 1, 0, none⟩ = some (.bool true) :=
      World.cell?_setCell_same _ _ _ ((World.cell?_setCell_other _ _ _ _ (by intro h; simp only [Addr.mk.injEq] at h; omega)).trans (blk_cell K1'.out 0))
    clear p0 p1 f0 f1
    generalize (w1.setCell ⟨w.heap.size, 0, none⟩ (.int .i64 n)).setCell ⟨w.heap.size + 1, 0, none⟩ (.bool true) = w2 at KD' R0 R1 ⊢
    refine leaves_cons (f := 51) (args := #[.pointer (some ⟨w.heap.size, 0, none⟩), .pointer (some ⟨w.heap.size + 1, 0, none⟩)]) (by simp) (by simp [go_sem]) ?_
    refine (catch_idle ⟨w.heap.size, 0, none⟩ ⟨w.heap.size + 1, 0, none⟩ _).mono ?_
    rintro e u' w'' ⟨rfl, rfl, rfl⟩
    simp [Leaves, settle, results, Tryd.results29, go_sem, R0, R1, getV]
    exact KD'
end Go.Proofs.YtjllahglfpbemaaDoor.PGuardTells
