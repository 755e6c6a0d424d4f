/- SpanJoins: ranges, put in order part by part, and then together, are those put in order at once. For every input, with no premise. -/
import Derived.Test.YtedmjfngpofoaaaRows
import Derived.Test.YtedmjfngpofoaaaK14
import Derived.WalkKit
import Derived.ProofKit
import Derived.OpenShut
import Derived.ShutString
import Derived.ChangeOld
import Derived.Below
import Derived.SizedLaws
namespace Go.Proofs.Ytedmjfngpofoaaa.spanJoins
open Go.ChangeShapes Go.WideShapes Go.ChangeAt Go.RowKit Go.Proofs.Ytedmjfngpofoaaa.PSpanTells Go.Proofs.YtedmjfngpofoaaaW.PrintWords
open Go.ChangeMaps (open_string shut_string)
set_option linter.unusedVariables false
theorem own : ownKnob Try.prog.godebug = none := by kernel_rfl
theorem laidOut : laidOutB Try.prog = true := by kernel_rfl
theorem opens_k26 : Opens Try.prog 26 k26 (fun b => ((Lit.int .i64 b.f0).wf = true ∧ ((Lit.int .i64 b.f1).wf = true))) := by
  have h := opens_iso (f := fun x : S26 => (x.f0, x.f1)) (fun p => (⟨p.1, p.2⟩ : S26)) (fun _ => rfl) (opens_struct Try.underlying26 (by kernel_rfl) (opensF_cons rfl (by kernel_rfl) (opens_int Try.underlying3) (opensF_one rfl (by kernel_rfl) (opens_int Try.underlying3))))
  exact h
set_option maxRecDepth 100000 in
theorem lifted (os : Os) (started : os.Started) (H : Type) (enc : TypeId × Value → H) :
    ReturnsInHanded {} Try.checked os 6 .any (Rows.spanJoinsSpec.pre6 enc Try.prog Try.f6 Rows.spanJoinsRow.domain false) (Rows.spanJoinsSpec.post enc Try.prog Try.f6 false true false false) := by
  refine returnsInHanded_of_change_sized (C := Try.checked) own started (by kernel_rfl) Try.func6
    (ChangeSpec.witness6 (enc := enc) (C := Try.checked) false ⟨#[], #[.slice none 0 0, .slice none 0 0], []⟩ 8 (by kernel_rfl) (by kernel_rfl) (by kernel_rfl) (by kernel_rfl)) ?_
  intro W base args ds gs before hval0 hW hcnd hsz0 _
  have hsz : (DataW.weightsEach Try.prog (Try.f6.params.toList ++ Rows.spanJoinsSpec.plain.varTypes Try.prog) (ds ++ gs)).all (· ≤ reachBytes) = true := hsz0
  have hval : ∀ (j : Nat) t v, Try.f6.params[j]? = some t → args[j]? = some v → Value.okWide Try.prog W .any base t v := hval0
  have hW' := hW
  obtain ⟨p, q, hA0, hV, rfl, hfz, hnd⟩ := hW
  have hA : DataW.TrodAll enc Try.prog W 0 (fun _ => true) true Try.f6.params.toList args.toList ds p := hA0
  rw [Try.params6] at hA hval hsz
  obtain ⟨v0, vs0, d0, ds0, p0, q0, hargs, rfl, rfl, h0, r0⟩ := trodAll_cons hA
  obtain ⟨v1, vs1, d1, ds1, p1, q1, rfl, rfl, rfl, h1, r1⟩ := trodAll_cons r0
  obtain ⟨rfl, rfl, rfl⟩ := trodAll_nil r1
  obtain rfl : args = #[v0, v1] := by cases args; simp_all
  obtain ⟨rfl, rfl⟩ := trodVars_none hV
  have k0 := h0
  have lt0 : ∀ x ∈ p0, x.block < W.heap.size := by obtain ⟨m, hm⟩ := k0; exact DataW.trod_lt m _ _ _ hm
  obtain ⟨y0, hK0, hg0⟩ := opens_at (opens_slice (B := 16) Try.underlying22 (by kernel_rfl) (by kernel_rfl) opens_k26) k0 hsz (j := 0) rfl rfl
  obtain ⟨sa0, sl0, sc0, rfl⟩ := okWide_slice Try.underlying22 (hval 0 22 v0 rfl rfl)
  obtain ⟨A0, c0, he0, hl0, hC0⟩ := hK0
  have he0 := (List.cons.inj (show [Value.slice sa0 sl0 sc0] = _ from he0)).1
  injection he0 with e1 e2 e3
  subst e1 e2 e3
  have k1 := h1
  have lt1 : ∀ x ∈ p1, x.block < W.heap.size := by obtain ⟨m, hm⟩ := k1; exact DataW.trod_lt m _ _ _ hm
  obtain ⟨y1, hK1, hg1⟩ := opens_at (opens_slice (B := 16) Try.underlying22 (by kernel_rfl) (by kernel_rfl) opens_k26) k1 hsz (j := 1) rfl rfl
  obtain ⟨sa1, sl1, sc1, rfl⟩ := okWide_slice Try.underlying22 (hval 1 22 v1 rfl rfl)
  obtain ⟨A1, c1, he1, hl1, hC1⟩ := hK1
  have he1 := (List.cons.inj (show [Value.slice sa1 sl1 sc1] = _ from he1)).1
  injection he1 with e1 e2 e3
  subst e1 e2 e3
  clear hA0 hval0 hsz0 hsz
  refine (SpanJoins_calls _ _ _ _ y0 y1 W hC0 hC1 (fit_of hg0.2.2) (fit_of hg1.2.2)).mono fun e W' ⟨he, bel⟩ => ?_
  subst he
  exact ⟨_, rfl, _, _, _, [], _, [], hW', trodAll_mk1 (shut_bool Try.underlying4 _), (trodAll_cons_mk (Below.trod laidOut (by kernel_rfl) (of_decide_eq_true (by kernel_rfl)) k0 bel lt0) (trodAll_cons_mk (Below.trod laidOut (by kernel_rfl) (of_decide_eq_true (by kernel_rfl)) k1 bel lt1) trodAll_mk0)), rfl, bel.frame _, fun h => by cases h⟩
theorem over : Rows.spanJoinsRow.holds Try.pinned (OpenSpec.ofChange Rows.spanJoinsSpec) :=
  OpenClaim.holds_of_wide 6 Try.f6 rfl rfl rfl rfl rfl rfl rfl ⟨rfl, rfl, rfl, rfl, rfl⟩ rfl rfl rfl rfl rfl (by kernel_rfl) Try.func6 (by kernel_rfl)
    (of_decide_eq_true (by kernel_rfl)) (by unfold Func.isWrapper; first | (rw [if_pos (by decide +kernel)]; kernel_rfl) | (rw [if_neg (by decide +kernel)]; exact ⟨rfl, rfl⟩))
    (fun os started H enc _ => lifted os started H enc)
theorem proved : Rows.SpanJoinsSaid := over
#print axioms proved
end Go.Proofs.Ytedmjfngpofoaaa.spanJoins
namespace Go.Proofs.Ytedmjfngpofoaaa
/-- The row, under a short name, for the claim. -/
theorem spanJoins_holds : Rows.SpanJoinsSaid := spanJoins.proved
end Go.Proofs.Ytedmjfngpofoaaa
