/- IdentOwn: a number that is not used is told itself; used as well, the one behind it is sought; at 200 used ones at most. -/
import Derived.Test.YtcoaehhoiaijoaaIdentFunIdentOwn
namespace Go.Proofs.Ytcoaehhoiaijoaa.Pure
open Go.RowKit Go.Proofs.Ytcoaehhoiaijoaa.PIdentOwn Go.Proofs.YtcoaehhoiaijoaaW.PrintWords Go.Proofs.Ytcoaehhoiaijoaa.IdentIdentOwn Go.Proofs.Ytcoaehhoiaijoaa.Base Go.Proofs.Ytcoaehhoiaijoaa.Ident
theorem IdentOwn : gatewardenlaw19_IdentOwn.Pure := by
  intro l a _ _ _ ha
  have ha := wf16 ha
  refine ⟨200001, ?_⟩
  unfold gatewardenlaw19_IdentOwn.f
  by_cases h1 : (l.length : Int) > 200
  · rw [if_pos h1, awake_true _ (by decide)]; rfl
  · obtain ⟨j, hj, he, hn, hb⟩ := next_free l a ha.1 (by omega) (by omega)
    have hr := num_range a j
    have hlen : (l ++ [num a j]).length = l.length + 1 := by rw [List.length_append, List.length_singleton]
    have hr1 := num_range (num a j) 1
    obtain ⟨m, hm, hem, hnm, hbm⟩ := next_free (l ++ [num a j]) (num (num a j) 1) (by omega) (by omega) (by omega)
    have e2 : ∀ i, num (num (num a j) 1) i = num a (j + 1 + i) := fun i => by rw [num_num, num_num, Nat.add_assoc]
    rw [e2] at hem hnm
    have h2 : next (l ++ [num a j]) a = (num a (j + 1 + m), true) := by
      refine next_of _ a ha.1 (by omega) (j + 1 + m) (by omega) hnm (fun i hi => ?_)
      by_cases h : i < j
      · exact List.mem_append_left _ (hb i h)
      · by_cases h' : i = j
        · rw [h']; exact List.mem_append_right _ (List.mem_singleton.2 rfl)
        · have := hbm (i - (j + 1)) (by omega)
          rw [e2, show j + 1 + (i - (j + 1)) = i by omega] at this
          exact this
    have h0 : next [] a = (a, true) := by
      have := next_of [] a ha.1 (by omega) 0 (by omega) (List.not_mem_nil) (fun i hi => by omega)
      rwa [num_zero a ha.1 (by omega)] at this
    have hne : num a (j + 1 + m) ≠ num a j := fun e => hnm (by rw [e]; exact List.mem_append_right _ (List.mem_singleton.2 rfl))
    rw [if_neg h1, w64 (by omega) (by omega), next_eq l a (by omega) _ (by omega), Option.bind_some, he, Option.bind_some, if_pos (by rw [List.length_nil]; omega), List.nil_append, Option.bind_some, if_pos (by omega), next_eq (l ++ [num a j]) a (by omega) _ (by omega), Option.bind_some, h2, Option.bind_some, if_pos (by rw [List.length_nil]; omega), List.nil_append, Option.bind_some, if_pos (by omega), after_eq _ (by omega) (by omega), Option.bind_some, next_eq (l ++ [num a j]) _ (by omega) _ (by omega), Option.bind_some, hem, next_eq [] a (by simp) _ (by simp), Option.bind_some, h0, awake_true _ (by decide), Option.bind_some, if_pos rfl, if_pos rfl, if_pos rfl, if_pos rfl, if_pos rfl, if_neg hne, beq_self_eq_true]
end Go.Proofs.Ytcoaehhoiaijoaa.Pure
