/- The float of four numbers, and its reference: plain laws. -/
import Derived.Test.YtjllahglfpbemaaDoorFloatLaws
import Derived.Test.YtjllahglfpbemaaDoorRealOf
namespace Go.Proofs.YtjllahglfpbemaaDoor.Fl
open Go Go.RowKit Go.Proofs.YtjllahglfpbemaaDoorW.PrintWords Go.Proofs.YtjllahglfpbemaaDoor.Base Go.Proofs.YtjllahglfpbemaaDoor.Dbl

theorem more_eq {b n : Int} (h0 : 0 ≤ b) (h1 : b < 281474976710656) (h2 : 0 ≤ n) (h3 : n ≤ 65535) : more b n = b * 65536 + n := by
  unfold more
  rw [u64w (by omega) (by omega)]
  obtain ⟨B, rfl⟩ : ∃ B : Nat, b = B := ⟨b.toNat, by omega⟩
  obtain ⟨m, rfl⟩ : ∃ m : Nat, n = m := ⟨n.toNat, by omega⟩
  have key : B * 65536 ||| m = B * 65536 + m := by
    have := Nat.shiftLeft_add_eq_or_of_lt (i := 16) (b := m) (by omega) B
    rw [Nat.shiftLeft_eq, show (2 : Nat) ^ 16 = 65536 from rfl] at this
    exact this.symm
  have hx : (BitVec.ofInt 64 ((B : Int) * 65536)).toNat = B * 65536 := by
    rw [BitVec.toNat_ofInt]; omega
  have hy : (BitVec.ofInt 64 (m : Int)).toNat = m := by
    rw [BitVec.toNat_ofInt]; omega
  show IntKind.u64.wrap (((BitVec.ofInt 64 ((B : Int) * 65536)) ||| (BitVec.ofInt 64 (m : Int))).toNat : Int) = _
  rw [BitVec.toNat_or, hx, hy, key, u64w (by omega) (by omega)]
  omega
/-- Four numbers that may be. -/
def In (n : Int) : Prop := 0 ≤ n ∧ n ≤ 65535
/-- The four numbers' word. -/
def word4 (a b c d : Int) : Nat := (((a * 65536 + b) * 65536 + c) * 65536 + d).toNat
theorem ofF_in {a b c d : Int} (ha : In a) (hb : In b) (hc : In c) (hd : In d) : ofF [a, b, c, d] = (word4 a b c d, true) := by
  unfold In at *
  unfold ofF word4
  rw [if_pos (show [a, b, c, d].length = 4 from rfl)]
  simp only [ofL]
  rw [if_neg (by omega), if_neg (by omega), if_neg (by omega), if_neg (by omega), more_eq (b := 0) (by omega) (by omega) ha.1 ha.2,
    more_eq (by omega) (by omega) hb.1 hb.2, more_eq (by omega) (by omega) hc.1 hc.2, more_eq (by omega) (by omega) hd.1 hd.2]
  simp
theorem ofL_out (l : List Int) (b : Int) (h : ∃ n ∈ l, ¬ In n) : ofL l b = (0, false) := by
  unfold In at h
  induction l generalizing b with
  | nil => obtain ⟨n, hn, _⟩ := h; cases hn
  | cons x t ih =>
    simp only [ofL]
    split
    · rfl
    · obtain ⟨n, hn, hnn⟩ := h
      rcases List.mem_cons.1 hn with rfl | hn
      · omega
      · exact ih _ ⟨n, hn, hnn⟩
theorem ofF_out {l : List Int} (h : l.length ≠ 4 ∨ ∃ n ∈ l, ¬ In n) : ofF l = (0, false) := by
  unfold ofF
  split
  · rename_i h4
    rcases h with h | h
    · exact absurd h4 h
    · exact ofL_out l 0 h
  · rfl
/-- The fields of the four numbers' word. -/
theorem word4_parts {a b c d : Int} (ha : In a) (hb : In b) (hc : In c) (hd : In d) :
    (word4 a b c d : Int) = (a / 32768) * 9223372036854775808 + (a % 32768 / 16) * 4503599627370496 + ((b * 65536 + c) * 65536 + d + a % 16 * 281474976710656) ∧
    0 ≤ (b * 65536 + c) * 65536 + d + a % 16 * 281474976710656 ∧ (b * 65536 + c) * 65536 + d + a % 16 * 281474976710656 < 4503599627370496 := by
  unfold In at *
  unfold word4
  refine ⟨by omega, by omega, by omega⟩
/-- A normal float's word, of its digits. -/
theorem W_normal {f : Nat} {x : Int} (hf : f < 4503599627370496) (h1 : 1 ≤ x) (h2 : x ≤ 2046) : W (f + 4503599627370496) (x - 1075) = x.toNat * 4503599627370496 + f := by
  obtain ⟨q, rfl⟩ : ∃ q : Nat, x = q := ⟨x.toNat, by omega⟩
  have := W_rung (q * 4503599627370496 + f) (by omega)
  have e1 : magR (q * 4503599627370496 + f) = f + 4503599627370496 := by unfold magR; rw [if_neg (by omega)]; omega
  have e2 : plR (q * 4503599627370496 + f) = (q : Int) - 1075 := by unfold plR; rw [if_neg (by omega)]; omega
  rw [e1, e2] at this
  rw [this]
  rfl
theorem ofInt_W {n : Int} (h : 0 ≤ n) : floatOfInt .f64 n = W n.toNat 0 := by
  show Ieee.double.nearest (decide (n < 0)) n.natAbs 0 = Ieee.double.nearest false n.toNat 0
  rw [decide_eq_false (by omega)]
  congr 1
  omega
end Go.Proofs.YtjllahglfpbemaaDoor.Fl
