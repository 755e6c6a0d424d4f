/- The reference's float of four numbers, walked by hand. -/
import Derived.Test.YtjllahglfpbemaaDoorRealRef4
import Derived.Test.YtjllahglfpbemaaDoorOfPure
namespace Go.Proofs.YtjllahglfpbemaaDoor.Fl
open Go Go.RowKit Go.Proofs.YtjllahglfpbemaaDoorW.PrintWords Go.Proofs.YtjllahglfpbemaaDoor.Base Go.Proofs.YtjllahglfpbemaaDoor.Dbl
attribute [-go_sem] binOp_float_cmp_eql binOp_float_cmp_neq binOp_float_cmp_lss binOp_float_cmp_leq
attribute [local go_sem] f_eql f_neq f_lss f_leq bits_run frombits_run
set_option maxHeartbeats 8000000
set_option maxRecDepth 100000
/-- The number of those behind the first. -/
def nAt (l : List Int) : Nat → Int
  | 0 => 0
  | k + 1 => if k = 0 then 0 else nAt l k * 65536 + rd l (k : Int)
theorem nAt_bound (l : List Int) (k : Nat) (hk : k ≤ 4) (h : ∀ j : Nat, j < k → In (rd l (j : Int))) : 0 ≤ nAt l k ∧ nAt l k < 281474976710656 := by
  have h1 := h 1
  have h2 := h 2
  have h3 := h 3
  unfold In at h1 h2 h3
  match k, hk with
  | 0, _ => simp [nAt]
  | 1, _ => simp [nAt]
  | 2, _ => have := h1 (by omega); simp [nAt] at *; omega
  | 3, _ => have := h1 (by omega); have := h2 (by omega); simp [nAt] at *; omega
  | 4, _ => have := h1 (by omega); have := h2 (by omega); have := h3 (by omega); simp [nAt] at *; omega
def negF (b : Nat) : Nat := b ^^^ 2 ^ 63
theorem negF_eq {b : Nat} (hb : b < 9223372036854775808) : negF b = 9223372036854775808 + b := by
  have h := neg_word (b := b) (by omega)
  rwa [if_pos hb] at h
theorem neg_run (b : Nat) : Op.unary .neg (.float .f64 b) = pure (.float .f64 (negF b)) := rfl
attribute [local go_sem] neg_run
theorem cell0 {w : World} {ad : Addr} {l : List Int} (h : Kd.C (Kd.int .i64) w (some ad) l.length l) (hn : 0 < l.length) : w.cell? ad = some (.int .i64 (rd l 0)) := by
  obtain ⟨ad', hA, hcell⟩ := Kd.at_int h 0 (by omega) (by omega)
  cases hA
  exact hcell
end Go.Proofs.YtjllahglfpbemaaDoor.Fl
