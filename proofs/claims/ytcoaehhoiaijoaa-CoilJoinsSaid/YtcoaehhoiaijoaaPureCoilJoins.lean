/- CoilJoins: bits behind a multiple of eight bits have bytes behind theirs, within the sizes that the law lets in. -/
import Derived.Test.YtcoaehhoiaijoaaCoilFunCoilJoins
namespace Go.Proofs.Ytcoaehhoiaijoaa.CoilCoilJoins
open Go.RowKit Go.Proofs.Ytcoaehhoiaijoaa.PCoilJoins Go.Proofs.YtcoaehhoiaijoaaW.PrintWords Go.Proofs.YtcoaehhoiaijoaaW.PrintLast Go.Proofs.Ytcoaehhoiaijoaa.Base Go.Proofs.Ytcoaehhoiaijoaa.Coil

theorem awake_true (k : Nat) (hk : 20 ≤ k) : gatewardenlaw05_awake.f k = some true := by
  refine at_rounds gatewardenlaw05_awake.mono hk ?_
  decide +kernel
theorem okB_append (a b : List Int) : okB (a ++ b) = (okB a && okB b) := by simp [okB]
theorem put_size (l : List Int) : (put l).1.size ≤ (l.length + 7) / 8 := by
  unfold put
  split
  · rw [strOfNums_size, pack_length]; omega
  · exact Nat.zero_le _
theorem strOfNums_append (a b : List Int) : strOfNums (a ++ b) = strOfNums a ++ strOfNums b := by
  apply ByteArray.ext
  simp [strOfNums]
theorem put_join (a b : List Int) (ha : a.length % 8 = 0) : (put (a ++ b)).2 = ((put a).2 && (put b).2) ∧ ((put (a ++ b)).2 = true → (put (a ++ b)).1 = (put a).1 ++ (put b).1) := by
  unfold put
  rw [okB_append]
  cases okB a <;> cases okB b <;> simp
  rw [pack_append a b ha, strOfNums_append]
theorem loop (b : List Int) (hb : b.length ≤ 300) (d : Nat) : ∀ (k : Nat) (own : List Int), own.length ≤ 400 → (8 - own.length % 8) % 8 = d → d + 1000 < k → gatewardenlaw05_CoilJoins.l0 k b own = some true := by
  induction d with
  | zero =>
    intro k own ho hd hk
    obtain ⟨k, rfl⟩ : ∃ m, k = m + 1 := ⟨k - 1, by omega⟩
    have hz : own.length % 8 = 0 := by omega
    obtain ⟨h1, h2⟩ := put_join own b hz
    have p1 := put_size own
    have p2 := put_size b
    simp only [gatewardenlaw05_CoilJoins.l0]
    rw [if_pos (by omega), put_eq own (by omega) _ (by omega), Option.bind_some, put_eq b (by omega) _ (by omega), Option.bind_some, if_pos (by omega), put_eq (own ++ b) (by rw [List.length_append]; omega) _ (by rw [List.length_append]; omega), Option.bind_some, awake_true _ (by omega), Option.bind_some, if_pos rfl]
    have e3 : (put own).1.size + (put b).1.size ≤ 9223372036854775807 := by omega
    cases e : (put own).2 with
    | true =>
      rw [e, Bool.true_and] at h1
      rw [if_pos rfl, h1, if_pos (beq_self_eq_true _)]
      cases e2 : (put b).2 with
      | true => rw [h2 (h1.trans e2), if_pos rfl, if_pos e3, beq_self_eq_true]
      | false => rw [if_neg (by decide)]
    | false =>
      rw [e, Bool.false_and] at h1
      rw [if_neg (by decide), h1, if_pos (beq_self_eq_true _), if_neg (by decide)]
  | succ d ih =>
    intro k own ho hd hk
    obtain ⟨k, rfl⟩ : ∃ m, k = m + 1 := ⟨k - 1, by omega⟩
    simp only [gatewardenlaw05_CoilJoins.l0]
    rw [if_neg (by omega), if_pos (by omega)]
    exact ih k (own ++ [0]) (by rw [List.length_append, List.length_singleton]; omega) (by rw [List.length_append, List.length_singleton]; omega) (by omega)
end Go.Proofs.Ytcoaehhoiaijoaa.CoilCoilJoins
namespace Go.Proofs.Ytcoaehhoiaijoaa.Pure
open Go.RowKit Go.Proofs.Ytcoaehhoiaijoaa.PCoilJoins Go.Proofs.YtcoaehhoiaijoaaW.PrintWords Go.Proofs.Ytcoaehhoiaijoaa.CoilCoilJoins Go.Proofs.Ytcoaehhoiaijoaa.Base Go.Proofs.Ytcoaehhoiaijoaa.Coil
theorem CoilJoins : gatewardenlaw05_CoilJoins.Pure := by
  intro l b _ _ _ _ _ _
  refine ⟨4001, ?_⟩
  unfold gatewardenlaw05_CoilJoins.f
  have out : gatewardenlaw05_CoilJoins.j0 4001 l b true = some true := by
    simp only [gatewardenlaw05_CoilJoins.j0, if_true]
    rw [awake_true _ (by decide)]; rfl
  by_cases h1 : (l.length : Int) > 300
  · rw [if_pos h1]; exact out
  · rw [if_neg h1]
    by_cases h2 : (b.length : Int) > 300
    · rw [decide_eq_true h2]; exact out
    · rw [decide_eq_false h2]
      simp only [gatewardenlaw05_CoilJoins.j0]
      rw [if_neg (by decide), Option.bind_some, if_pos (by rw [List.length_nil]; omega), List.nil_append]
      exact loop b (by omega) _ 4000 l (by omega) rfl (by omega)
end Go.Proofs.Ytcoaehhoiaijoaa.Pure
