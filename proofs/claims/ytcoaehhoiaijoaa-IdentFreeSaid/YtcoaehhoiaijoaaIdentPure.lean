/- The first number that is not among others: plain lists, no Go in sight. -/
import Derived.Test.YtcoaehhoiaijoaaBase
namespace Go.Proofs.Ytcoaehhoiaijoaa.Ident
open Go.RowKit Go.Proofs.YtcoaehhoiaijoaaW.PrintWords Go.Proofs.Ytcoaehhoiaijoaa.Base

/-- Step i from a number on, round the circle. -/
def num (a : Int) (i : Nat) : Int := (a + i) % 65536
/-- The search, from step n on, d steps being left. -/
def search (l : List Int) (a : Int) : Nat → Nat → Int × Bool
  | _, 0 => (0, false)
  | n, d + 1 => if num a n ∈ l then search l a (n + 1) d else (num a n, true)
theorem search_of (l : List Int) (a : Int) (j : Nat) (hj : num a j ∉ l) : ∀ (d n : Nat), n ≤ j → j < n + d → (∀ i, n ≤ i → i < j → num a i ∈ l) → search l a n d = (num a j, true) := by
  intro d
  induction d with
  | zero => intro n h1 h2 _; omega
  | succ d ih =>
    intro n h1 h2 h
    by_cases e : n = j
    · subst e
      rw [search, if_neg hj]
    · rw [search, if_pos (h n (Nat.le_refl n) (by omega))]
      exact ih (n + 1) (by omega) (by omega) (fun i h3 h4 => h i (by omega) h4)
theorem nodup_sub : ∀ (ys l : List Int), ys.Nodup → (∀ y ∈ ys, y ∈ l) → ys.length ≤ l.length := by
  intro ys
  induction ys with
  | nil => intro l _ _; exact Nat.zero_le _
  | cons y t ih =>
    intro l hn hs
    have hy : y ∈ l := hs y List.mem_cons_self
    rw [List.nodup_cons] at hn
    have := ih (l.erase y) hn.2 (fun z hz => (List.mem_erase_of_ne (fun e => hn.1 (by rw [← e]; exact hz))).2 (hs z (List.mem_cons_of_mem _ hz)))
    rw [List.length_erase_of_mem hy] at this
    have hp := List.length_pos_of_mem hy
    simp only [List.length_cons]
    omega
theorem num_inj (a : Int) (i j : Nat) (hi : i < 65536) (hj : j < 65536) (h : num a i = num a j) : i = j := by
  unfold num at h; omega
/-- Among so many and one more steps there is one that is not used. -/
theorem free (l : List Int) (a : Int) (hl : l.length < 65536) : ∃ j, j ≤ l.length ∧ num a j ∉ l ∧ ∀ i, i < j → num a i ∈ l := by
  have hex : ∃ j, j ≤ l.length ∧ num a j ∉ l := by
    refine Classical.byContradiction fun hn => ?_
    have hall : ∀ j, j ≤ l.length → num a j ∈ l := fun j hj => Classical.byContradiction fun h => hn ⟨j, hj, h⟩
    have h1 := nodup_sub ((List.range (l.length + 1)).map (num a)) l (by
      rw [List.nodup_iff_pairwise_ne, List.pairwise_map]
      refine List.Pairwise.imp_of_mem ?_ (List.nodup_iff_pairwise_ne.1 List.nodup_range)
      intro i j hi hj hne he
      exact hne (num_inj a i j (by have := List.mem_range.1 hi; omega) (by have := List.mem_range.1 hj; omega) he)) (by
      intro y hy
      obtain ⟨j, hj, rfl⟩ := List.mem_map.1 hy
      exact hall j (by have := List.mem_range.1 hj; omega))
    simp at h1
    omega
  have key : ∀ n j, j = n → j ≤ l.length → num a j ∉ l → ∃ j, j ≤ l.length ∧ num a j ∉ l ∧ ∀ i, i < j → num a i ∈ l := by
    intro n
    induction n using Nat.strongRecOn with
    | _ n ih =>
      intro j e hj hn
      by_cases h : ∀ i, i < j → num a i ∈ l
      · exact ⟨j, hj, hn, h⟩
      · obtain ⟨i, hi⟩ : ∃ i, i < j ∧ num a i ∉ l := Classical.byContradiction fun hc => h fun i hi => Classical.byContradiction fun hm => hc ⟨i, hi, hm⟩
        exact ih i (by omega) i rfl (by omega) hi.2
  obtain ⟨j, hj, hn⟩ := hex
  exact key j j rfl hj hn
theorem num_zero (a : Int) (h0 : 0 ≤ a) (h1 : a < 65536) : num a 0 = a := by unfold num; omega
theorem num_range (a : Int) (i : Nat) : 0 ≤ num a i ∧ num a i ≤ 65535 := by unfold num; omega
theorem num_num (a : Int) (i j : Nat) : num (num a i) j = num a (i + j) := by unfold num; omega
end Go.Proofs.Ytcoaehhoiaijoaa.Ident
