/- Texts of this claim, put together (wip/pack.py): CoilFunAskSizes. -/
import Derived.Test.YtinoabkfekomcaaK0
import Derived.Test.YtinoabkfekomcaaK4
namespace Go.Proofs.Ytinoabkfekomcaa.CoilAskSizes
open Go.RowKit Go.Proofs.Ytinoabkfekomcaa.PAskSizes Go.Proofs.YtinoabkfekomcaaW.PrintWords Go.Proofs.YtinoabkfekomcaaW.PrintLast Go.Proofs.Ytinoabkfekomcaa.Base Go.Proofs.Ytinoabkfekomcaa.Coil

theorem size_pos (n : Nat) (h : n ≤ 1099511627776) : coil_Size.f (n : Int) = some (((n + 7) / 8 : Nat) : Int) := by
  unfold coil_Size.f mx
  rw [if_neg (by omega), w64 (by omega) (by omega)]
  congr 1
theorem size_neg (a : Int) (h : a < 0) : coil_Size.f a = some 0 := by
  unfold coil_Size.f mx
  rw [if_pos h, w64 (by omega) (by omega)]
  rfl
def okB (l : List Int) : Bool := l.all fun x => x == 0 || x == 1
theorem okB_iff (l : List Int) : okB l = true ↔ Bits l := by
  simp [okB, Bits]
theorem okB_cons (a : Int) (t : List Int) : okB (a :: t) = ((a == 0 || a == 1) && okB t) := rfl
def put (l : List Int) : ByteArray × Bool := if okB l then (strOfNums (pack l), true) else ((⟨#[]⟩ : ByteArray), false)
theorem put_loop (l : List Int) (hl : l.length ≤ 1099511627776) (d : Nat) : ∀ (k i : Nat), i ≤ l.length → l.length - i = d → Bits (l.take i) → d < k →
    coil_Put.l0 k (packed l ((l.length + 7) / 8) i) l (l.length : Int) (i : Int) = some (if okB (l.drop i) then (strOfNums (pack l), true) else ((⟨#[]⟩ : ByteArray), false)) := by
  induction d with
  | zero =>
    intro k i hi hd _ hk
    obtain ⟨k, rfl⟩ : ∃ m, k = m + 1 := ⟨k - 1, by omega⟩
    obtain rfl : i = l.length := by omega
    simp only [coil_Put.l0]
    rw [if_neg (by omega), packed_full]
    simp [okB]
  | succ d ih =>
    intro k i hi hd hb hk
    obtain ⟨k, rfl⟩ : ∃ m, k = m + 1 := ⟨k - 1, by omega⟩
    have hlt : i < l.length := by omega
    have hrd : rd l (i : Int) = l[i] := by rw [rd_nat, List.getD_eq_getElem?_getD, List.getElem?_eq_getElem hlt]; rfl
    have hdrop : l.drop i = l[i] :: l.drop (i + 1) := List.drop_eq_getElem_cons hlt
    have htake : l.take (i + 1) = l.take i ++ [l[i]] := List.take_succ_eq_append_getElem hlt
    have hw : wrap64 ((i : Int) + 1) = ((i + 1 : Nat) : Int) := by rw [w64 (by omega) (by omega)]; omega
    have hd8 : ((i : Int) / 8) = ((i / 8 : Nat) : Int) := by omega
    have h7 : IntKind.u64.wrap (Go.bits .and .i64 (i : Int) 7) = ((i % 8 : Nat) : Int) := by
      rw [and7 _ (by omega) (by omega), u64w (by omega) (by omega)]; omega
    simp only [coil_Put.l0]
    rw [if_pos (by omega), if_pos (by omega), if_pos (by omega), hrd]
    by_cases h0 : l[i] = 0
    · have hs := packed_same l ((l.length + 7) / 8) i hlt h0
      rw [if_pos h0, hw, ← hs, ih k (i + 1) (by omega) (by omega) (by rw [htake]; exact hb.snoc (.inl h0)) (by omega)]
      rw [hdrop, okB_cons, h0]; rfl
    · rw [if_neg h0]
      by_cases h1 : l[i] = 1
      · have hs := packed_step l ((l.length + 7) / 8) i hlt
        have hn : i / 8 < (l.length + 7) / 8 := by omega
        have hlow := packed_low hb ((l.length + 7) / 8) hlt hn
        rw [if_pos h1, hd8, if_pos (by omega), if_pos (by rw [packed_length]; omega), h7, if_pos (by omega), shl_one _ (by omega), rd_nat, or_top _ _ (by omega) hlow.1 hlow.2, hw]
        rw [h1, Int.one_mul] at hs
        rw [Int.toNat_natCast, ← hs, ih k (i + 1) (by omega) (by omega) (by rw [htake]; exact hb.snoc (.inr h1)) (by omega)]
        rw [hdrop, okB_cons, h1]; rfl
      · rw [if_neg h1, hdrop, okB_cons, beq_eq_false_iff_ne.2 h0, beq_eq_false_iff_ne.2 h1]
        rfl
theorem put_eq (l : List Int) (hl : l.length ≤ 1099511627776) (k : Nat) (hk : l.length < k) : coil_Put.f k l = some (put l) := by
  have h := put_loop l hl l.length k 0 (by omega) (by omega) (fun x hx => by simp at hx) hk
  unfold coil_Put.f
  rw [size_pos _ hl, Option.bind_some, if_pos (by omega), if_pos (by omega), Int.toNat_natCast, ← packed_zero l]
  simpa [put] using h
theorem put_yes {l : List Int} (h : Bits l) : put l = (strOfNums (pack l), true) := by unfold put; rw [if_pos ((okB_iff l).2 h)]
theorem put_no {l : List Int} (h : ¬ Bits l) : put l = ((⟨#[]⟩ : ByteArray), false) := by unfold put; rw [if_neg (fun e => h ((okB_iff l).1 e))]
end Go.Proofs.Ytinoabkfekomcaa.CoilAskSizes
