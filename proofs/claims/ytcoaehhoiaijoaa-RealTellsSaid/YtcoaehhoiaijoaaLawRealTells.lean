/- RealTells: the float of any numbers, the numbers of any float, and whether floats are the same, and between two, are the document's. For every input, with no premise. -/
import Derived.Test.YtcoaehhoiaijoaaRows
import Derived.Test.YtcoaehhoiaijoaaRealTellsWalk
import Derived.Test.YtcoaehhoiaijoaaOpens
import Derived.WalkKit
import Derived.ProofKit
import Derived.OpenShut
import Derived.ShutString
import Derived.ChangeOld
import Derived.Below
import Derived.SizedLaws
namespace Go.Proofs.Ytcoaehhoiaijoaa.realTells
open Go.ChangeShapes Go.WideShapes Go.ChangeAt Go.RowKit Go.Proofs.YtcoaehhoiaijoaaW.PrintWords
open Go.ChangeMaps (open_string shut_string)
set_option linter.unusedVariables false
theorem own : ownKnob Try.prog.godebug = none := by kernel_rfl
theorem laidOut : laidOutB Try.prog = true := by kernel_rfl
def flt : Kd Nat := Kd.scalar (Value.float .f64) (fun _ => rfl)
theorem opens_float {P : Program} {t : TypeId} (ht : P.underlying t = some (.float .f64)) : Opens P t flt (fun n => (Lit.float .f64 n).wf = true) := by
  intro fuel H enc w cs x hx _
  cases fuel with
  | zero => simp [DataW.trod] at hx
  | succ n =>
    unfold DataW.trod at hx
    rw [ht] at hx
    split at hx <;> simp_all [flt, Kd.scalar]
theorem opens_ask : Opens Try.prog 41 (Kd.pair (Kd.slice 3 (Kd.int .i64)) (Kd.pair flt (Kd.pair flt flt))) (fun y => (y.1.length ≤ maxLen ∧ y.1.length * 8 ≤ 140737488351232 ∧ ∀ x ∈ y.1, (Lit.int .i64 x).wf = true) ∧ (Lit.float .f64 y.2.1).wf = true ∧ (Lit.float .f64 y.2.2.1).wf = true ∧ (Lit.float .f64 y.2.2.2).wf = true) :=
  opens_struct Try.underlying41 (by kernel_rfl) (opensF_cons rfl (by kernel_rfl) (opens_slice (B := 8) Try.underlying22 (by kernel_rfl) (by kernel_rfl) (opens_int Try.underlying3)) (opensF_cons rfl (by kernel_rfl) (opens_float Try.underlying37) (opensF_cons rfl (by kernel_rfl) (opens_float Try.underlying37) (opensF_one rfl (by kernel_rfl) (opens_float Try.underlying37)))))
theorem wf_lt {n : Nat} (h : (Lit.float .f64 n).wf = true) : n < 18446744073709551616 := by
  simpa [Lit.wf] using h
set_option maxRecDepth 100000 in
theorem lifted (os : Os) (started : os.Started) (H : Type) (enc : TypeId × Value → H) :
    ReturnsInHanded {} Try.checked os 10 .any (Rows.realTellsSpec.pre6 enc Try.prog Try.f10 Rows.realTellsRow.domain false) (Rows.realTellsSpec.post enc Try.prog Try.f10 false true false false) := by
  refine returnsInHanded_of_change_sized (C := Try.checked) own started (by kernel_rfl) Try.func10
    (ChangeSpec.witness6 (enc := enc) (C := Try.checked) false ⟨#[], #[.agg #[.slice none 0 0, .float .f64 0, .float .f64 0, .float .f64 0]], []⟩ 8 (by kernel_rfl) (by kernel_rfl) (by kernel_rfl) (by kernel_rfl)) ?_
  intro W base args ds gs before hval0 hW hcnd hsz0 _
  have hsz : (DataW.weightsEach Try.prog (Try.f10.params.toList ++ Rows.realTellsSpec.plain.varTypes Try.prog) (ds ++ gs)).all (· ≤ reachBytes) = true := hsz0
  have hval : ∀ (j : Nat) t v, Try.f10.params[j]? = some t → args[j]? = some v → Value.okWide Try.prog W .any base t v := hval0
  have hW' := hW
  obtain ⟨p, q, hA0, hV, rfl, hfz, hnd⟩ := hW
  have hA : DataW.TrodAll enc Try.prog W 0 (fun _ => true) true Try.f10.params.toList args.toList ds p := hA0
  rw [Try.params10] at hA hval hsz
  obtain ⟨v0, vs0, d0, ds0, p0, q0, hargs, rfl, rfl, h0, r0⟩ := trodAll_cons hA
  obtain ⟨rfl, rfl, rfl⟩ := trodAll_nil r0
  obtain rfl : args = #[v0] := by cases args; simp_all
  obtain ⟨rfl, rfl⟩ := trodVars_none hV
  have k0 := h0
  have lt0 : ∀ x ∈ p0, x.block < W.heap.size := by obtain ⟨m, hm⟩ := k0; exact DataW.trod_lt m _ _ _ hm
  obtain ⟨y0, hK0, hg0⟩ := opens_at opens_ask k0 hsz (j := 0) rfl rfl
  obtain ⟨cs0, rfl, _⟩ := okWide_struct Try.underlying41 (hval 0 41 v0 rfl rfl)
  obtain ⟨_, _, he0, ⟨A0, c0, rfl, hl0, hC0⟩, ⟨_, _, rfl, rfl, ⟨_, _, rfl, rfl, rfl⟩⟩⟩ := hK0
  have e0 : cs0 = List.toArray _ := (Array.toArray_toList (xs := cs0)).symm.trans (congrArg List.toArray he0)
  subst e0
  clear hA0 hval0 hsz0 hsz
  refine (Fl.RealTells_calls A0 c0 y0.1 y0.2.1 y0.2.2.1 y0.2.2.2 W hC0 (wf_lt hg0.2.1) (wf_lt hg0.2.2.1)).mono fun e W' ⟨he, bel⟩ => ?_
  subst he
  exact ⟨_, rfl, _, _, _, [], _, [], hW', trodAll_mk1 (shut_bool Try.underlying4 _), (trodAll_cons_mk (Below.trod laidOut (by kernel_rfl) (of_decide_eq_true (by kernel_rfl)) k0 bel lt0) trodAll_mk0), rfl, bel.frame _, fun h => by cases h⟩
theorem over : Rows.realTellsRow.holds Try.pinned (OpenSpec.ofChange Rows.realTellsSpec) :=
  OpenClaim.holds_of_wide 10 Try.f10 rfl rfl rfl rfl rfl rfl rfl ⟨rfl, rfl, rfl, rfl, rfl⟩ rfl rfl rfl rfl rfl (by kernel_rfl) Try.func10 (by kernel_rfl)
    (of_decide_eq_true (by kernel_rfl)) (by unfold Func.isWrapper; first | (rw [if_pos (by decide +kernel)]; kernel_rfl) | (rw [if_neg (by decide +kernel)]; exact ⟨rfl, rfl⟩))
    (fun os started H enc _ => lifted os started H enc)
theorem proved : Rows.RealTellsSaid := over
#print axioms proved
end Go.Proofs.Ytcoaehhoiaijoaa.realTells
namespace Go.Proofs.Ytcoaehhoiaijoaa
/-- The row, under a short name, for the claim. -/
theorem realTells_holds : Rows.RealTellsSaid := realTells.proved
end Go.Proofs.Ytcoaehhoiaijoaa
