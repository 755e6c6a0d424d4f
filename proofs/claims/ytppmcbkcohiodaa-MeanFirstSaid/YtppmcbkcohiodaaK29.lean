/- MeanFirst: the first rule holds, none ahead of it does, and one that always holds, behind all, is the first one, if no other one is. For every input, with no premise. -/
import Derived.Test.YtppmcbkcohiodaaRows
import Derived.Test.YtppmcbkcohiodaaK28
import Derived.Test.YtppmcbkcohiodaaK24
import Derived.WalkKit
import Derived.ProofKit
import Derived.OpenShut
import Derived.ShutString
import Derived.ChangeOld
import Derived.Below
import Derived.SizedLaws
namespace Go.Proofs.Ytppmcbkcohiodaa.meanFirst
open Go.ChangeShapes Go.WideShapes Go.ChangeAt Go.RowKit Go.Proofs.Ytppmcbkcohiodaa.PMeanTells Go.Proofs.YtppmcbkcohiodaaW.PrintWords
open Go.ChangeMaps (open_string shut_string)
set_option linter.unusedVariables false
theorem own : ownKnob Try.prog.godebug = none := by kernel_rfl
theorem laidOut : laidOutB Try.prog = true := by kernel_rfl
set_option maxHeartbeats 2000000 in
set_option maxRecDepth 100000 in
theorem lifted (os : Os) (started : os.Started) (H : Type) (enc : TypeId × Value → H) :
    ReturnsInHanded {} Try.checked os 5 .any (Rows.meanFirstSpec.pre6 enc Try.prog Try.f5 Rows.meanFirstRow.domain false) (Rows.meanFirstSpec.post enc Try.prog Try.f5 false true false false) := by
  refine returnsInHanded_of_change_sized (C := Try.checked) own started (by kernel_rfl) Try.func5
    (ChangeSpec.witness6 (enc := enc) (C := Try.checked) false ⟨#[], #[.slice none 0 0, .agg #[.int .i64 0, .int .i64 0, .int .i64 0, .slice none 0 0, .slice none 0 0, .slice none 0 0]], []⟩ 8 (by kernel_rfl) (by kernel_rfl) (by kernel_rfl) (by kernel_rfl)) ?_
  intro W base args ds gs before hval0 hW hcnd hsz0 _
  have hsz : (DataW.weightsEach Try.prog (Try.f5.params.toList ++ Rows.meanFirstSpec.plain.varTypes Try.prog) (ds ++ gs)).all (· ≤ reachBytes) = true := hsz0
  have hval : ∀ (j : Nat) t v, Try.f5.params[j]? = some t → args[j]? = some v → Value.okWide Try.prog W .any base t v := hval0
  have hW' := hW
  obtain ⟨p, q, hA0, hV, rfl, hfz, hnd⟩ := hW
  have hA : DataW.TrodAll enc Try.prog W 0 (fun _ => true) true Try.f5.params.toList args.toList ds p := hA0
  rw [Try.params5] at hA hval hsz
  obtain ⟨v0, vs0, d0, ds0, p0, q0, hargs, rfl, rfl, h0, r0⟩ := trodAll_cons hA
  obtain ⟨v1, vs1, d1, ds1, p1, q1, rfl, rfl, rfl, h1, r1⟩ := trodAll_cons r0
  obtain ⟨rfl, rfl, rfl⟩ := trodAll_nil r1
  obtain rfl : args = #[v0, v1] := by cases args; simp_all
  obtain ⟨rfl, rfl⟩ := trodVars_none hV
  have k0 := h0
  have lt0 : ∀ x ∈ p0, x.block < W.heap.size := by obtain ⟨m, hm⟩ := k0; exact DataW.trod_lt m _ _ _ hm
  obtain ⟨y0, hK0, hg0⟩ := opens_at (opens_slice (B := 120) Try.underlying27 (by kernel_rfl) (by kernel_rfl) opens_k39) k0 hsz (j := 0) rfl rfl
  obtain ⟨sa0, sl0, sc0, rfl⟩ := okWide_slice Try.underlying27 (hval 0 27 v0 rfl rfl)
  obtain ⟨A0, c0, he0, hl0, hC0⟩ := hK0
  have he0 := (List.cons.inj (show [Value.slice sa0 sl0 sc0] = _ from he0)).1
  injection he0 with e1 e2 e3
  subst e1 e2 e3
  have k1 := h1
  have lt1 : ∀ x ∈ p1, x.block < W.heap.size := by obtain ⟨m, hm⟩ := k1; exact DataW.trod_lt m _ _ _ hm
  obtain ⟨y1, hK1, hg1⟩ := opens_at opens_facts k1 hsz (j := 1) rfl rfl
  obtain ⟨cs1, rfl, _⟩ := okWide_struct Try.underlying30 (hval 1 30 v1 rfl rfl)
  obtain ⟨A13, c13, A14, c14, A15, c15, he1, l13, g13, l14, g14, l15, g15⟩ := kFacts_open (cs := cs1.toList) hK1
  have e1 : cs1 = List.toArray _ := (Array.toArray_toList (xs := cs1)).symm.trans (congrArg List.toArray he1)
  subst e1
  clear hA0 hval0 hsz0 hsz
  refine (MeanFirst_calls _ _ y0 y1.1 y1.2.1 y1.2.2.1 A13 c13 y1.2.2.2.1 A14 c14 y1.2.2.2.2.1 A15 c15 y1.2.2.2.2.2 W hC0 hl0 ⟨g13, l13, g14, l14, g15, l15⟩ hg0.2.2).mono fun e W' ⟨he, bel⟩ => ?_
  subst he
  exact ⟨_, rfl, _, _, _, [], _, [], hW', trodAll_mk1 (shut_bool Try.underlying4 _), (trodAll_cons_mk (Below.trod laidOut (by kernel_rfl) (of_decide_eq_true (by kernel_rfl)) k0 bel lt0) (trodAll_cons_mk (Below.trod laidOut (by kernel_rfl) (of_decide_eq_true (by kernel_rfl)) k1 bel lt1) trodAll_mk0)), rfl, bel.frame _, fun h => by cases h⟩
theorem over : Rows.meanFirstRow.holds Try.pinned (OpenSpec.ofChange Rows.meanFirstSpec) :=
  OpenClaim.holds_of_wide 5 Try.f5 rfl rfl rfl rfl rfl rfl rfl ⟨rfl, rfl, rfl, rfl, rfl⟩ rfl rfl rfl rfl rfl (by kernel_rfl) Try.func5 (by kernel_rfl)
    (of_decide_eq_true (by kernel_rfl)) (by unfold Func.isWrapper; first | (rw [if_pos (by decide +kernel)]; kernel_rfl) | (rw [if_neg (by decide +kernel)]; exact ⟨rfl, rfl⟩))
    (fun os started H enc _ => lifted os started H enc)
theorem proved : Rows.MeanFirstSaid := over
#print axioms proved
end Go.Proofs.Ytppmcbkcohiodaa.meanFirst
namespace Go.Proofs.Ytppmcbkcohiodaa
/-- The row, under a short name, for the claim. -/
theorem meanFirst_holds : Rows.MeanFirstSaid := meanFirst.proved
end Go.Proofs.Ytppmcbkcohiodaa
