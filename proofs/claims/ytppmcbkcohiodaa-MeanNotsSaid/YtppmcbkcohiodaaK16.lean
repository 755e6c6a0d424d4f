/- Texts of this claim, put together (wip/pack.py): MeanIdx. -/
import Derived.Test.YtppmcbkcohiodaaK2
import Derived.Test.YtppmcbkcohiodaaK15
namespace Go.Proofs.Ytppmcbkcohiodaa.PMeanTells
open Go Go.RowKit Go.Proofs.YtppmcbkcohiodaaW.PrintWords
set_option linter.unusedVariables false
/-- The document's Holds of an expression, at so many rounds. -/
def hP (K : Nat) (a1_0 a1_1 a1_2 : Int) (l1_3 : List S55) (l1_4 l1_5 : List Int) (x : S26) : Option Bool := gatewardenref15_Holds.f K x.f0 x.f1 x.f2 x.f3 x.f4 x.f5 a1_0 a1_1 a1_2 l1_3 l1_4 l1_5
theorem hP_mono {K K' : Nat} (hk : K ≤ K') {a1_0 a1_1 a1_2 : Int} {l1_3 : List S55} {l1_4 l1_5 : List Int} {x : S26} {b : Bool} (h : hP K a1_0 a1_1 a1_2 l1_3 l1_4 l1_5 x = some b) : hP K' a1_0 a1_1 a1_2 l1_3 l1_4 l1_5 x = some b := by
  induction hk with
  | refl => exact h
  | step _ ih => exact gatewardenref15_Holds.mono _ _ _ _ _ _ _ _ _ _ _ _ _ _ ih
theorem l1_idx (K : Nat) (a1_0 a1_1 a1_2 : Int) (l1_3 : List (S55)) (l1_4 l1_5 : List Int) (e0 e1 : Int) (e2 : List (S55)) (e3 e4 : Nat) (l : List (S26)) : ∀ (k : Nat) (i : Int), k ≤ K → ∀ r, gatewardenref15_Holds.l1 k i e0 e1 e2 e3 e4 l a1_0 a1_1 a1_2 l1_3 l1_4 l1_5 = some r → ∃ q, idxE (hP K a1_0 a1_1 a1_2 l1_3 l1_4 l1_5) l k i = some q ∧ r = decide (0 ≤ q)
  | 0, i, _, r, h => by simp [gatewardenref15_Holds.l1] at h
  | k + 1, i, hk, r, h => by
    rw [gatewardenref15_Holds.l1] at h
    rw [idxE]
    by_cases hlt : i < (l.length : Int)
    · rw [if_pos hlt] at h ⊢
      by_cases h0 : 0 ≤ i
      · rw [if_pos h0] at h ⊢
        obtain ⟨b, hb, h⟩ := Option.bind_eq_some_iff.1 h
        have hb' := hP_mono (K := k) (K' := K) (by omega) (x := rd_T26 l i) hb
        rw [hb', Option.bind_some]
        cases b with
        | true =>
          rw [if_pos rfl] at h; rw [if_pos (by rfl)]
          exact ⟨i, rfl, by rw [← Option.some.inj h]; simp [h0]⟩
        | false =>
          rw [if_neg (by decide)] at h; rw [if_neg (by decide)]
          exact l1_idx K a1_0 a1_1 a1_2 l1_3 l1_4 l1_5 e0 e1 e2 e3 e4 l k _ (by omega) r h
      · rw [if_neg h0] at h; exact absurd h (by simp)
    · rw [if_neg hlt] at h ⊢
      exact ⟨-1, rfl, by rw [← Option.some.inj h]; rfl⟩
theorem l0_idx (K : Nat) (a1_0 a1_1 a1_2 : Int) (l1_3 : List (S55)) (l1_4 l1_5 : List Int) (e0 e1 : Int) (e2 : List (S55)) (e3 e4 : Nat) (l : List (S26)) : ∀ (k : Nat) (i : Int), k ≤ K → ∀ r, gatewardenref15_Holds.l0 k i e0 e1 e2 e3 e4 l a1_0 a1_1 a1_2 l1_3 l1_4 l1_5 = some r → ∃ q, idxE (fun x => (hP K a1_0 a1_1 a1_2 l1_3 l1_4 l1_5 x).map not) l k i = some q ∧ r = !decide (0 ≤ q)
  | 0, i, _, r, h => by simp [gatewardenref15_Holds.l0] at h
  | k + 1, i, hk, r, h => by
    rw [gatewardenref15_Holds.l0] at h
    rw [idxE]
    by_cases hlt : i < (l.length : Int)
    · rw [if_pos hlt] at h ⊢
      by_cases h0 : 0 ≤ i
      · rw [if_pos h0] at h ⊢
        obtain ⟨b, hb, h⟩ := Option.bind_eq_some_iff.1 h
        have hb' := hP_mono (K := k) (K' := K) (by omega) (x := rd_T26 l i) hb
        simp only [hb', Option.map_some, Option.bind_some]
        cases b with
        | false =>
          rw [if_neg (by decide)] at h; rw [if_pos (by rfl)]
          exact ⟨i, rfl, by rw [← Option.some.inj h]; simp [h0]⟩
        | true =>
          rw [if_pos rfl] at h; rw [if_neg (by decide)]
          exact l0_idx K a1_0 a1_1 a1_2 l1_3 l1_4 l1_5 e0 e1 e2 e3 e4 l k _ (by omega) r h
      · rw [if_neg h0] at h; exact absurd h (by simp)
    · rw [if_neg hlt] at h ⊢
      exact ⟨-1, rfl, by rw [← Option.some.inj h]; rfl⟩
end Go.Proofs.Ytppmcbkcohiodaa.PMeanTells
