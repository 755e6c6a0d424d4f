/- FactsTells: the facts of any request that may be, the floats of any numbers (100 at most), and whether two facts are the same, are the document's. For every input, with no premise. -/
import Derived.Test.YtcoaehhoiaijoaaRows
import Derived.Test.YtcoaehhoiaijoaaK22
import Derived.Test.YtcoaehhoiaijoaaK23
import Derived.WalkKit
import Derived.ProofKit
import Derived.OpenShut
import Derived.ShutString
import Derived.ChangeOld
import Derived.Below
import Derived.SizedLaws
namespace Go.Proofs.Ytcoaehhoiaijoaa.factsTells
open Go.ChangeShapes Go.WideShapes Go.ChangeAt Go.RowKit Go.Proofs.Ytcoaehhoiaijoaa.PFactsTells Go.Proofs.YtcoaehhoiaijoaaW.PrintWords
open Go.ChangeMaps (open_string shut_string)
set_option linter.unusedVariables false
theorem own : ownKnob Try.prog.godebug = none := by kernel_rfl
theorem laidOut : laidOutB Try.prog = true := by kernel_rfl
theorem opens_k47 : Opens Try.prog 47 k47 (fun b => ((Lit.int .i64 b.f0).wf = true ∧ ((Lit.int .i64 b.f1).wf = true ∧ ((Lit.int .i64 b.f2).wf = true ∧ ((Lit.int .i64 b.f3).wf = true ∧ ((Lit.int .i64 b.f4).wf = true ∧ ((b.f5.length ≤ maxLen ∧ b.f5.length * 8 ≤ 140737488351232 ∧ ∀ x_ ∈ b.f5, (Lit.int .i64 x_).wf = true)))))))) := by
  have h := opens_iso (f := fun x : S47 => (x.f0, x.f1, x.f2, x.f3, x.f4, x.f5)) (fun p => (⟨p.1, p.2.1, p.2.2.1, p.2.2.2.1, p.2.2.2.2.1, p.2.2.2.2.2⟩ : S47)) (fun _ => rfl) (opens_struct Try.underlying47 (by kernel_rfl) (opensF_cons rfl (by kernel_rfl) (opens_int Try.underlying3) (opensF_cons rfl (by kernel_rfl) (opens_int Try.underlying3) (opensF_cons rfl (by kernel_rfl) (opens_int Try.underlying3) (opensF_cons rfl (by kernel_rfl) (opens_int Try.underlying3) (opensF_cons rfl (by kernel_rfl) (opens_int Try.underlying3) (opensF_one rfl (by kernel_rfl) (opens_slice (B := 8) Try.underlying22 (by kernel_rfl) (by kernel_rfl) (opens_int Try.underlying3)))))))))
  exact h
theorem opens_array2 {P : Program} {t e : TypeId} {α : Type} {d : Kd α} {good : α → Prop} (ht : P.underlying t = some (.array 2 e)) (hc : P.cellsOf e = d.sz) (ht2 : P.cellsOf t = d.sz + d.sz) (he : Opens P e d good) : Opens P t (Kd.pair d d) (fun y => good y.1 ∧ good y.2) := by
  intro fuel H enc w cs x hx hs
  obtain ⟨xs, n, _, rfl, hl, hlen, hf⟩ := DataW.trod_array ht hx
  rw [show ((DataW.agg (xs.map (·.1)), xs.flatMap (·.2)) : DataW H × List MemPlace).1 = DataW.agg (xs.map (·.1)) from rfl, DataW.weights, ht] at hs
  obtain ⟨x0, x1, rfl⟩ : ∃ x0 x1, xs = [x0, x1] := by
    match xs, hlen with
    | [x0, x1], _ => exact ⟨x0, x1, rfl⟩
  have h0 := hf 0 (by omega)
  have h1 := hf 1 (by omega)
  rw [hc] at h0 h1
  obtain ⟨y0, hy0, hg0⟩ := he n enc w _ x0 h0 (fun q hq => hs q (by simp only [List.map_cons, DataW.weightsAll]; exact List.mem_append_left _ hq))
  obtain ⟨y1, hy1, hg1⟩ := he n enc w _ x1 h1 (fun q hq => hs q (by simp only [List.map_cons, List.map_nil, DataW.weightsAll]; exact List.mem_append_right _ (List.mem_append_left _ hq)))
  refine ⟨(y0, y1), ⟨_, _, ?_, hy0, hy1⟩, hg0, hg1⟩
  rw [Nat.zero_mul, List.drop_zero, Nat.one_mul, ← List.take_add, List.take_of_length_le (by omega)]
/-- The law's argument. -/
abbrev k62 : Kd ((Int × Int) × (S47 × (S47 × List Int))) := Kd.pair (Kd.pair (Kd.int .i64) (Kd.int .i64)) (Kd.pair k47 (Kd.pair k47 (Kd.slice 3 (Kd.int .i64))))
theorem opens_k62 : ∃ good, Opens Try.prog 62 k62 good :=
  ⟨_, opens_struct Try.underlying62 (by kernel_rfl) (opensF_cons rfl (by kernel_rfl) (opens_array2 Try.underlying60 (by kernel_rfl) (by kernel_rfl) (opens_int Try.underlying3)) (opensF_cons rfl (by kernel_rfl) opens_k47 (opensF_cons rfl (by kernel_rfl) opens_k47 (opensF_one rfl (by kernel_rfl) (opens_slice (B := 8) Try.underlying22 (by kernel_rfl) (by kernel_rfl) (opens_int Try.underlying3))))))⟩
theorem k62_open {w : World} {y : (Int × Int) × (S47 × (S47 × List Int))} {cs : List Value} (h : k62.K w y cs) : ∃ A ca B cb L cl, cs = [.int .i64 y.1.1, .int .i64 y.1.2, .int .i64 y.2.1.f0, .int .i64 y.2.1.f1, .int .i64 y.2.1.f2, .int .i64 y.2.1.f3, .int .i64 y.2.1.f4, .slice A y.2.1.f5.length ca, .int .i64 y.2.2.1.f0, .int .i64 y.2.2.1.f1, .int .i64 y.2.2.1.f2, .int .i64 y.2.2.1.f3, .int .i64 y.2.2.1.f4, .slice B y.2.2.1.f5.length cb, .slice L y.2.2.2.length cl] ∧
    (y.2.1.f5.length ≤ ca ∧ (Kd.int .i64).C w A y.2.1.f5.length y.2.1.f5) ∧ (y.2.2.1.f5.length ≤ cb ∧ (Kd.int .i64).C w B y.2.2.1.f5.length y.2.2.1.f5) ∧ (y.2.2.2.length ≤ cl ∧ (Kd.int .i64).C w L y.2.2.2.length y.2.2.2) := by
  obtain ⟨_, _, rfl, ⟨_, _, rfl, rfl, rfl⟩, ⟨_, _, rfl, ha, ⟨_, _, rfl, hb, ⟨L, cl, rfl, ll, gl⟩⟩⟩⟩ := h
  obtain ⟨A, ca, rfl, la, ga⟩ := k47_open ha
  obtain ⟨B, cb, rfl, lb, gb⟩ := k47_open hb
  exact ⟨A, ca, B, cb, L, cl, rfl, ⟨la, ga⟩, ⟨lb, gb⟩, ⟨ll, gl⟩⟩
set_option maxRecDepth 100000 in
theorem lifted (os : Os) (started : os.Started) (H : Type) (enc : TypeId × Value → H) :
    ReturnsInHanded {} Try.checked os 13 .any (Rows.factsTellsSpec.pre6 enc Try.prog Try.f13 Rows.factsTellsRow.domain false) (Rows.factsTellsSpec.post enc Try.prog Try.f13 false true false false) := by
  refine returnsInHanded_of_change_sized (C := Try.checked) own started (by kernel_rfl) Try.func13
    (ChangeSpec.witness6 (enc := enc) (C := Try.checked) false ⟨#[], #[.agg #[.int .i64 0, .int .i64 0, .int .i64 0, .int .i64 0, .int .i64 0, .int .i64 0, .int .i64 0, .slice none 0 0, .int .i64 0, .int .i64 0, .int .i64 0, .int .i64 0, .int .i64 0, .slice none 0 0, .slice none 0 0]], []⟩ 8 (by kernel_rfl) (by kernel_rfl) (by kernel_rfl) (by kernel_rfl)) ?_
  intro W base args ds gs before hval0 hW hcnd hsz0 _
  have hsz : (DataW.weightsEach Try.prog (Try.f13.params.toList ++ Rows.factsTellsSpec.plain.varTypes Try.prog) (ds ++ gs)).all (· ≤ reachBytes) = true := hsz0
  have hval : ∀ (j : Nat) t v, Try.f13.params[j]? = some t → args[j]? = some v → Value.okWide Try.prog W .any base t v := hval0
  have hW' := hW
  obtain ⟨p, q, hA0, hV, rfl, hfz, hnd⟩ := hW
  have hA : DataW.TrodAll enc Try.prog W 0 (fun _ => true) true Try.f13.params.toList args.toList ds p := hA0
  rw [Try.params13] at hA hval hsz
  obtain ⟨v0, vs0, d0, ds0, p0, q0, hargs, rfl, rfl, h0, r0⟩ := trodAll_cons hA
  obtain ⟨rfl, rfl, rfl⟩ := trodAll_nil r0
  obtain rfl : args = #[v0] := by cases args; simp_all
  obtain ⟨rfl, rfl⟩ := trodVars_none hV
  have k0 := h0
  have lt0 : ∀ x ∈ p0, x.block < W.heap.size := by obtain ⟨m, hm⟩ := k0; exact DataW.trod_lt m _ _ _ hm
  obtain ⟨good, hop⟩ := opens_k62
  obtain ⟨y0, hK0, -⟩ := opens_at hop k0 hsz (j := 0) rfl rfl
  obtain ⟨cs0, rfl, _⟩ := okWide_struct Try.underlying62 (hval 0 62 v0 rfl rfl)
  obtain ⟨A, ca, B, cb, L, cl, he0, ⟨la, ga⟩, ⟨lb, gb⟩, ⟨ll, gl⟩⟩ := k62_open (cs := cs0.toList) hK0
  have e0 : cs0 = List.toArray _ := (Array.toArray_toList (xs := cs0)).symm.trans (congrArg List.toArray he0)
  subst e0
  clear hA0 hval0 hsz0 hsz
  refine (Range.FactsTells_calls y0.1.1 y0.1.2 y0.2.1.f0 y0.2.1.f1 y0.2.1.f2 y0.2.1.f3 y0.2.1.f4 y0.2.2.1.f0 y0.2.2.1.f1 y0.2.2.1.f2 y0.2.2.1.f3 y0.2.2.1.f4 A B L ca cb cl y0.2.1.f5 y0.2.2.1.f5 y0.2.2.2 W ga gb gl la lb ll).mono fun e W' ⟨he, bel⟩ => ?_
  subst he
  exact ⟨_, rfl, _, _, _, [], _, [], hW', trodAll_mk1 (shut_bool Try.underlying4 _), (trodAll_cons_mk (Below.trod laidOut (by kernel_rfl) (of_decide_eq_true (by kernel_rfl)) k0 bel lt0) trodAll_mk0), rfl, bel.frame _, fun h => by cases h⟩
theorem over : Rows.factsTellsRow.holds Try.pinned (OpenSpec.ofChange Rows.factsTellsSpec) :=
  OpenClaim.holds_of_wide 13 Try.f13 rfl rfl rfl rfl rfl rfl rfl ⟨rfl, rfl, rfl, rfl, rfl⟩ rfl rfl rfl rfl rfl (by kernel_rfl) Try.func13 (by kernel_rfl)
    (of_decide_eq_true (by kernel_rfl)) (by unfold Func.isWrapper; first | (rw [if_pos (by decide +kernel)]; kernel_rfl) | (rw [if_neg (by decide +kernel)]; exact ⟨rfl, rfl⟩))
    (fun os started H enc _ => lifted os started H enc)
theorem proved : Rows.FactsTellsSaid := over
#print axioms proved
end Go.Proofs.Ytcoaehhoiaijoaa.factsTells
namespace Go.Proofs.Ytcoaehhoiaijoaa
/-- The row, under a short name, for the claim. -/
theorem factsTells_holds : Rows.FactsTellsSaid := factsTells.proved
end Go.Proofs.Ytcoaehhoiaijoaa
