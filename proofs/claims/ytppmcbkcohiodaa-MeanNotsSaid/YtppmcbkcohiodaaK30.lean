/- MeanNots: not and not is as it was; not of an and is an or of nots, and the other way round. For every input, with no premise. -/
import Derived.Test.YtppmcbkcohiodaaRows
import Derived.Test.YtppmcbkcohiodaaK29
import Derived.Test.YtppmcbkcohiodaaK24
import Derived.WalkKit
import Derived.ProofKit
import Derived.OpenShut
import Derived.ShutString
import Derived.ChangeOld
import Derived.Below
import Derived.SizedLaws
namespace Go.Proofs.Ytppmcbkcohiodaa.meanNots
open Go.ChangeShapes Go.WideShapes Go.ChangeAt Go.RowKit Go.Proofs.Ytppmcbkcohiodaa.PMeanTells Go.Proofs.YtppmcbkcohiodaaW.PrintWords
open Go.ChangeMaps (open_string shut_string)
set_option linter.unusedVariables false
theorem own : ownKnob Try.prog.godebug = none := by kernel_rfl
theorem laidOut : laidOutB Try.prog = true := by kernel_rfl
set_option maxHeartbeats 2000000 in
set_option maxRecDepth 100000 in
theorem lifted (os : Os) (started : os.Started) (H : Type) (enc : TypeId × Value → H) :
    ReturnsInHanded {} Try.checked os 4 .any (Rows.meanNotsSpec.pre6 enc Try.prog Try.f4 Rows.meanNotsRow.domain false) (Rows.meanNotsSpec.post enc Try.prog Try.f4 false true false false) := by
  refine returnsInHanded_of_change_sized (C := Try.checked) own started (by kernel_rfl) Try.func4
    (ChangeSpec.witness6 (enc := enc) (C := Try.checked) false ⟨#[], #[.agg #[.int .i64 0, .int .i64 0, .slice none 0 0, .float .f64 0, .float .f64 0, .slice none 0 0], .agg #[.int .i64 0, .int .i64 0, .slice none 0 0, .float .f64 0, .float .f64 0, .slice none 0 0], .agg #[.int .i64 0, .int .i64 0, .int .i64 0, .slice none 0 0, .slice none 0 0, .slice none 0 0]], []⟩ 8 (by kernel_rfl) (by kernel_rfl) (by kernel_rfl) (by kernel_rfl)) ?_
  intro W base args ds gs before hval0 hW hcnd hsz0 _
  have hsz : (DataW.weightsEach Try.prog (Try.f4.params.toList ++ Rows.meanNotsSpec.plain.varTypes Try.prog) (ds ++ gs)).all (· ≤ reachBytes) = true := hsz0
  have hval : ∀ (j : Nat) t v, Try.f4.params[j]? = some t → args[j]? = some v → Value.okWide Try.prog W .any base t v := hval0
  have hW' := hW
  obtain ⟨p, q, hA0, hV, rfl, hfz, hnd⟩ := hW
  have hA : DataW.TrodAll enc Try.prog W 0 (fun _ => true) true Try.f4.params.toList args.toList ds p := hA0
  rw [Try.params4] at hA hval hsz
  obtain ⟨v0, vs0, d0, ds0, p0, q0, hargs, rfl, rfl, h0, r0⟩ := trodAll_cons hA
  obtain ⟨v1, vs1, d1, ds1, p1, q1, rfl, rfl, rfl, h1, r1⟩ := trodAll_cons r0
  obtain ⟨v2, vs2, d2, ds2, p2, q2, rfl, rfl, rfl, h2, r2⟩ := trodAll_cons r1
  obtain ⟨rfl, rfl, rfl⟩ := trodAll_nil r2
  obtain rfl : args = #[v0, v1, v2] := by cases args; simp_all
  obtain ⟨rfl, rfl⟩ := trodVars_none hV
  have k0 := h0
  have lt0 : ∀ x ∈ p0, x.block < W.heap.size := by obtain ⟨m, hm⟩ := k0; exact DataW.trod_lt m _ _ _ hm
  obtain ⟨y0, hK0, hg0⟩ := opens_at opens_k26 k0 hsz (j := 0) rfl rfl
  obtain ⟨cs0, rfl, _⟩ := okWide_struct Try.underlying26 (hval 0 26 v0 rfl rfl)
  obtain ⟨A02, c02, A05, c05, he0, l02, g02, l05, g05⟩ := k26_open (cs := cs0.toList) hK0
  have e0 : cs0 = List.toArray _ := (Array.toArray_toList (xs := cs0)).symm.trans (congrArg List.toArray he0)
  subst e0
  have k1 := h1
  have lt1 : ∀ x ∈ p1, x.block < W.heap.size := by obtain ⟨m, hm⟩ := k1; exact DataW.trod_lt m _ _ _ hm
  obtain ⟨y1, hK1, hg1⟩ := opens_at opens_k26 k1 hsz (j := 1) rfl rfl
  obtain ⟨cs1, rfl, _⟩ := okWide_struct Try.underlying26 (hval 1 26 v1 rfl rfl)
  obtain ⟨A12, c12, A15, c15, he1, l12, g12, l15, g15⟩ := k26_open (cs := cs1.toList) hK1
  have e1 : cs1 = List.toArray _ := (Array.toArray_toList (xs := cs1)).symm.trans (congrArg List.toArray he1)
  subst e1
  have k2 := h2
  have lt2 : ∀ x ∈ p2, x.block < W.heap.size := by obtain ⟨m, hm⟩ := k2; exact DataW.trod_lt m _ _ _ hm
  obtain ⟨y2, hK2, hg2⟩ := opens_at opens_facts k2 hsz (j := 2) rfl rfl
  obtain ⟨cs2, rfl, _⟩ := okWide_struct Try.underlying30 (hval 2 30 v2 rfl rfl)
  obtain ⟨A23, c23, A24, c24, A25, c25, he2, l23, g23, l24, g24, l25, g25⟩ := kFacts_open (cs := cs2.toList) hK2
  have e2 : cs2 = List.toArray _ := (Array.toArray_toList (xs := cs2)).symm.trans (congrArg List.toArray he2)
  subst e2
  clear hA0 hval0 hsz0 hsz
  refine (MeanNots_calls y0.f0 y0.f1 A02 c02 y0.f2 y0.f3 y0.f4 A05 c05 y0.f5 y1.f0 y1.f1 A12 c12 y1.f2 y1.f3 y1.f4 A15 c15 y1.f5 y2.1 y2.2.1 y2.2.2.1 A23 c23 y2.2.2.2.1 A24 c24 y2.2.2.2.2.1 A25 c25 y2.2.2.2.2.2 W g02 l02 g05 l05 g12 l12 g15 l15 ⟨g23, l23, g24, l24, g25, l25⟩ (by cases y0; exact hg0) (by cases y1; exact hg1)).mono fun e W' ⟨he, bel⟩ => ?_
  subst he
  exact ⟨_, rfl, _, _, _, [], _, [], hW', trodAll_mk1 (shut_bool Try.underlying4 _), (trodAll_cons_mk (Below.trod laidOut (by kernel_rfl) (of_decide_eq_true (by kernel_rfl)) k0 bel lt0) (trodAll_cons_mk (Below.trod laidOut (by kernel_rfl) (of_decide_eq_true (by kernel_rfl)) k1 bel lt1) (trodAll_cons_mk (Below.trod laidOut (by kernel_rfl) (of_decide_eq_true (by kernel_rfl)) k2 bel lt2) trodAll_mk0))), rfl, bel.frame _, fun h => by cases h⟩
theorem over : Rows.meanNotsRow.holds Try.pinned (OpenSpec.ofChange Rows.meanNotsSpec) :=
  OpenClaim.holds_of_wide 4 Try.f4 rfl rfl rfl rfl rfl rfl rfl ⟨rfl, rfl, rfl, rfl, rfl⟩ rfl rfl rfl rfl rfl (by kernel_rfl) Try.func4 (by kernel_rfl)
    (of_decide_eq_true (by kernel_rfl)) (by unfold Func.isWrapper; first | (rw [if_pos (by decide +kernel)]; kernel_rfl) | (rw [if_neg (by decide +kernel)]; exact ⟨rfl, rfl⟩))
    (fun os started H enc _ => lifted os started H enc)
theorem proved : Rows.MeanNotsSaid := over
#print axioms proved
end Go.Proofs.Ytppmcbkcohiodaa.meanNots
namespace Go.Proofs.Ytppmcbkcohiodaa
/-- The row, under a short name, for the claim. -/
theorem meanNots_holds : Rows.MeanNotsSaid := meanNots.proved
end Go.Proofs.Ytppmcbkcohiodaa
