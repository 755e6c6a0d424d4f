/- A float's four numbers, walked by hand. -/
import Derived.Test.YtjllahglfpbemaaDoorRefOf4
namespace Go.Proofs.YtjllahglfpbemaaDoor.Fl
open Go Go.RowKit Go.Proofs.YtjllahglfpbemaaDoorW.PrintWords Go.Proofs.YtjllahglfpbemaaDoor.Base Go.Proofs.YtjllahglfpbemaaDoor.Dbl
attribute [-go_sem] binOp_float_cmp_eql binOp_float_cmp_neq binOp_float_cmp_lss binOp_float_cmp_leq
attribute [local go_sem] f_eql f_neq f_lss f_leq bits_run frombits_run
set_option maxHeartbeats 8000000
set_option maxRecDepth 100000
/-- A number's four parts. -/
def part (b i : Nat) : Int := ((b / 2 ^ (48 - 16 * i) % 65536 : Nat) : Int)
def regsP (b : Nat) : List Int := if eqF b b then [part b 0, part b 1, part b 2, part b 3] else [32760, 0, 0, 0]
def arr4 (b k : Nat) : Array Value := #[.int .i64 (if 0 < k then part b 0 else 0), .int .i64 (if 1 < k then part b 1 else 0), .int .i64 (if 2 < k then part b 2 else 0), .int .i64 (if 3 < k then part b 3 else 0)]
def Row4 (w : World) (xs : List Int) (e : Ending) (w' : World) : Prop :=
  (∃ A c, e = .returned (.slice A xs.length c) ∧ xs.length ≤ c ∧ Kd.C (Kd.int .i64) w' A xs.length xs) ∧ Below w.heap.size w w'
theorem made4 : madeCells #[.int .i64 0] 4 = #[.int .i64 0, .int .i64 0, .int .i64 0, .int .i64 0] := by
  unfold madeCells
  rw [show Array.range 4 = #[0, 1, 2, 3] from by decide]
  simp [Nat.mod_one]
theorem and_part (b d : Nat) (hb : b < 18446744073709551616) : wrap64 (Go.bits .and .u64 ((b : Int) / (d : Int)) 65535) = ((b / d % 65536 : Nat) : Int) := by
  have hle : b / d ≤ b := Nat.div_le_self b d
  have e : ((b : Int) / (d : Int)) = ((b / d : Nat) : Int) := rfl
  rw [e]
  generalize b / d = x at hle
  have hx : (BitVec.ofInt 64 (x : Int)).toNat = x := by rw [BitVec.toNat_ofInt]; omega
  have hy : (BitVec.ofInt 64 (65535 : Int)).toNat = 65535 := rfl
  have hm : x &&& 65535 = x % 65536 := Nat.and_two_pow_sub_one_eq_mod x 16
  show wrap64 (IntKind.u64.wrap (((BitVec.ofInt 64 (x : Int)) &&& (BitVec.ofInt 64 (65535 : Int))).toNat : Int)) = _
  rw [BitVec.toNat_and, hx, hy, hm, u64w (by omega) (by omega), w64 (by omega) (by omega)]
theorem regs_calls (b : Nat) (hb : b < 18446744073709551616) (w : World) : Calls Tryd.prog 23 #[.float .f64 b] w (Row4 w (regsP b)) := by
  cases hn : eqF b b
  · have HP := Aside0.mk (show regsP b = [32760, 0, 0, 0] by unfold regsP; rw [hn]; rfl)
    go_enter Tryd.func23, Tryd.ntmps23
    go_wp2_with fail
    refine (isnan_calls _ _).mono ?_
    rintro e w1 ⟨rfl, hw1⟩
    rw [hn]
    go_wp2
    go_ret
    rw [HP.out]
    exact ⟨⟨_, _, rfl, Nat.le_refl _, lit_C w1 [32760, 0, 0, 0] 3 (by decide)⟩, below_alloc hw1 _⟩
  · have HP := Aside0.mk (show regsP b = [part b 0, part b 1, part b 2, part b 3] by unfold regsP; rw [hn]; rfl)
    obtain ⟨T, hT⟩ : ∃ T, T = Row4 w (regsP b) := ⟨_, rfl⟩
    have HT := Aside0.mk hT
    rw [← hT]
    clear hT
    have hmk : ∀ W : World, (Instr.makeSlice 39 (.int .i64 4) (.int .i64 4)).run Tryd.prog W = .ok (.slice (some ⟨W.heap.size, 0, none⟩) 4 4) (W.alloc (.cells #[.int .i64 0, .int .i64 0, .int .i64 0, .int .i64 0] 3)) :=
      fun W => (print_make_int (P := Tryd.prog) 39 3 (.int .i64 0) 8 Tryd.underlying39 (by kernel_rfl) rfl (by decide) 4 (by omega) (by decide) W).trans (by rw [show madeCells #[.int .i64 0] (Int.toNat 4) = #[.int .i64 0, .int .i64 0, .int .i64 0, .int .i64 0] from made4]; rfl)
    go_enter Tryd.func23, Tryd.ntmps23
    go_wp2_with fail
    refine (isnan_calls _ _).mono ?_
    rintro e w1 ⟨rfl, hw1⟩
    rw [hn]
    have D1 := Aside0.mk hw1
    clear hw1
    go_wp2
    go_loopg [5, 14] 4 (fun gg s5 s14 wr => ∃ (kk : Nat), kk ≤ 4 ∧ 4 - kk ≤ gg ∧ s14 = .int .i64 kk ∧ wr = w1.alloc (.cells (arr4 b kk) 3))
    case atStart => exact ⟨0, Nat.zero_le _, by omega, rfl, rfl⟩
    case round =>
      obtain ⟨kk, hkk, hg, rfl, rfl⟩ := hrel
      match kk, hkk with
      | 0, _ =>
        have hp := and_part b 281474976710656 hb
        go_wp2
        go_roundg (4 - 1)
        case measure => omega
        case rel =>
          refine ⟨1, by omega, by omega, rfl, ?_⟩
          have hp' : wrap64 (Go.bits .and .u64 ((b : Int) / 281474976710656) 65535) = part b 0 := hp
          rw [hp']
          rfl
      | 1, _ =>
        have hp := and_part b 4294967296 hb
        go_wp2
        go_roundg (4 - 2)
        case measure => omega
        case rel =>
          refine ⟨2, by omega, by omega, rfl, ?_⟩
          have hp' : wrap64 (Go.bits .and .u64 ((b : Int) / 4294967296) 65535) = part b 1 := hp
          rw [hp']
          rfl
      | 2, _ =>
        have hp := and_part b 65536 hb
        go_wp2
        go_roundg (4 - 3)
        case measure => omega
        case rel =>
          refine ⟨3, by omega, by omega, rfl, ?_⟩
          have hp' : wrap64 (Go.bits .and .u64 ((b : Int) / 65536) 65535) = part b 2 := hp
          rw [hp']
          rfl
      | 3, _ =>
        have hp := and_part b 1 hb
        go_wp2
        go_roundg (4 - 4)
        case measure => omega
        case rel =>
          refine ⟨4, by omega, by omega, rfl, ?_⟩
          have hp' : wrap64 (Go.bits .and .u64 ((b : Int)) 65535) = part b 3 := by have h := and_part b 1 hb; rwa [show ((b : Int) / ((1 : Nat) : Int)) = (b : Int) from Int.ediv_one _] at h
          rw [hp']
          rfl
      | 4, _ =>
        go_wp2
        rw [HT.out, HP.out]
        exact ⟨⟨_, _, rfl, Nat.le_refl _, lit_C w1 [part b 0, part b 1, part b 2, part b 3] 3 (by simp)⟩, below_alloc D1.out _⟩
end Go.Proofs.YtjllahglfpbemaaDoor.Fl
