/- Texts of this claim, put together (wip/pack.py): FaultPure, PAskSizesm8, MatchFaultsWalk. -/
import Derived.Test.YtinoabkfekomcaaK29
import Derived.Test.YtinoabkfekomcaaK25
import Derived.Test.YtinoabkfekomcaaK30
import Derived.Test.YtinoabkfekomcaaK1
import Derived.Test.YtinoabkfekomcaaK27
import Derived.Test.YtinoabkfekomcaaK26
namespace Go.Proofs.Ytinoabkfekomcaa.AskAskSizes
open Go Go.RowKit Go.Proofs.Ytinoabkfekomcaa.PAskSizes Go.Proofs.YtinoabkfekomcaaW.PrintWords Go.Proofs.YtinoabkfekomcaaW.PrintLast Go.Proofs.Ytinoabkfekomcaa.Base Go.Proofs.Ytinoabkfekomcaa.RepAskSizes Go.Proofs.Ytinoabkfekomcaa.CoilAskSizes Go.Proofs.Ytinoabkfekomcaa.Coil
set_option linter.unusedVariables false
def faultP (a0 a1 : Int) : ByteArray × Bool := if 1 ≤ a0 ∧ a0 ≤ 127 ∧ codeP a1 = true then (strOfNums [a0 + 128, a1], true) else ((⟨#[]⟩ : ByteArray), false)
theorem fault_eq (a0 a1 : Int) : reply_Fault.f a0 a1 = some (faultP a0 a1) := by
  unfold reply_Fault.f faultP
  by_cases h0 : a0 < 1
  · rw [if_pos h0, if_neg (by omega)]
  rw [if_neg h0]
  by_cases h1 : a0 > 127
  · rw [if_pos h1, if_neg (by omega)]
  rw [if_neg h1, code_eq, Option.bind_some]
  by_cases h2 : codeP a1 = true
  · have := code_bound h2
    rw [if_pos h2, if_pos ⟨by omega, by omega, h2⟩, Int.emod_eq_of_lt (by omega) (by omega), Int.emod_eq_of_lt (by omega) (by omega)]
    have e := or_top a0 7 (by decide) (by omega) (by simp; omega)
    rw [show (2 : Int) ^ 7 = 128 by decide] at e
    rw [e]
  · rw [if_neg h2, if_neg (fun h => h2 h.2.2)]
theorem refFault_eq (a0 a1 : Int) : gatewardenref07_Fault.f a0 a1 = some (faultP a0 a1) := by
  unfold gatewardenref07_Fault.f faultP
  by_cases h0 : a0 < 1
  · rw [if_pos h0, if_neg (by omega)]
  rw [if_neg h0]
  by_cases h1 : a0 > 127
  · rw [if_pos h1, if_neg (by omega)]
  rw [if_neg h1, refCode_eq, Option.bind_some]
  by_cases h2 : codeP a1 = true
  · have := code_bound h2
    rw [if_pos h2, if_pos ⟨by omega, by omega, h2⟩, w64 (by omega) (by omega), Int.emod_eq_of_lt (by omega) (by omega), Int.emod_eq_of_lt (by omega) (by omega)]
  · rw [if_neg h2, if_neg (fun h => h2 h.2.2)]
end Go.Proofs.Ytinoabkfekomcaa.AskAskSizes
namespace Go.Proofs.Ytinoabkfekomcaa.PAskSizes
open Go.RowKit Go.Proofs.YtinoabkfekomcaaW.PrintWords Go.Proofs.YtinoabkfekomcaaW.PrintLast Go.Proofs.YtinoabkfekomcaaW.PrintMore
attribute [local go_sem] max2_int min2_int max_two min_two max_three min_three max_four min_four   -- for this text's walks alone
set_option linter.unusedVariables false
set_option linter.unusedSimpArgs false

/-! ### the examples of the layer match, walked by hand -/
/-- A row of one that waits, by its block. -/
theorem one_row {W : World} {b : Nat} {t : TypeId} {x : S56} {A : Option Addr} {c : Nat} (h : W.heap[b]? = some (.cells (pv x A c) t (0, 0))) (hl : x.f5.f5.length ≤ c) (hC : Kd.C (Kd.int .i64) W A x.f5.f5.length x.f5.f5) : Kd.C k56 W (some ⟨b, 0, none⟩) 1 [x] := by
 refine ⟨rfl, by decide, fun _ => ⟨⟨b, 0, none⟩, rfl, fun j p hp => ?_⟩⟩
 cases j with
 | succ j => simp at hp
 | zero =>
  obtain rfl : x = p := by simpa using hp
  refine ⟨_, rfl, k56_mk W x hl hC, fun i u hu => ?_⟩
  have ea : (⟨b, 0, none⟩ : Addr).add (0 * k56.sz + i) = ⟨b, i, none⟩ := by cases i <;> simp [Addr.add]
  rw [ea, blk_cell h i, ← hu]
  simp only [pv, List.getElem?_toArray]
theorem hcells12 {W : World} {g : Nat} {v0 v1 v2 v3 v4 v5 v6 v7 v8 v9 v10 v11 : Value} {t : TypeId} (h : W.heap[g]? = some (.cells #[v0, v1, v2, v3, v4, v5, v6, v7, v8, v9, v10, v11] t (0, 0))) :
  W.cell? ⟨g, 0, none⟩ = some v0 ∧ W.cell? ⟨g, 1, none⟩ = some v1 ∧ W.cell? ⟨g, 2, none⟩ = some v2 ∧ W.cell? ⟨g, 3, none⟩ = some v3 ∧ W.cell? ⟨g, 4, none⟩ = some v4 ∧ W.cell? ⟨g, 5, none⟩ = some v5 ∧ W.cell? ⟨g, 6, none⟩ = some v6 ∧ W.cell? ⟨g, 7, none⟩ = some v7 ∧ W.cell? ⟨g, 8, none⟩ = some v8 ∧ W.cell? ⟨g, 9, none⟩ = some v9 ∧ W.cell? ⟨g, 10, none⟩ = some v10 ∧ W.cell? ⟨g, 11, none⟩ = some v11 :=
 ⟨(blk_cell h 0).trans rfl, (blk_cell h 1).trans rfl, (blk_cell h 2).trans rfl, (blk_cell h 3).trans rfl, (blk_cell h 4).trans rfl, (blk_cell h 5).trans rfl, (blk_cell h 6).trans rfl, (blk_cell h 7).trans rfl, (blk_cell h 8).trans rfl, (blk_cell h 9).trans rfl, (blk_cell h 10).trans rfl, (blk_cell h 11).trans rfl⟩
abbrev exP : S56 := ⟨9, 0, 0, 5, 1, ⟨3, 0, 1, 0, 0, []⟩, 0⟩
abbrev exS : ByteArray := ⟨#[3, 2, 0, 7]⟩
theorem ex_yes : matchF 60 [exP] 9 1 exS = some (0, true) := by decide +kernel
theorem ex_no : matchF 60 [exP] 9 2 exS = some (0, false) := by decide +kernel
theorem ex_fault : match_Fault.f 9 0 0 5 1 3 0 1 0 0 [] 0 11 = some (5, 1, ⟨#[131, 11]⟩, true) := by decide +kernel
set_option maxHeartbeats 8000000 in
set_option maxRecDepth 100000 in
theorem awake21_calls (w : World) : Calls Try.prog 39 #[] w fun e w' => e = .returned (.bool true) ∧ Below w.heap.size w w' := by
 obtain ⟨T, hT⟩ : ∃ T : Ending → World → Prop, T = fun e w' => e = .returned (.bool true) ∧ Below w.heap.size w w' := ⟨_, rfl⟩
 have HT := Aside0.mk hT
 rw [← hT]
 clear hT
 obtain ⟨O, hO⟩ : ∃ O : Obj, O = .cells #[.int .i64 9, .int .i64 0, .int .i64 0, .int .i64 5, .int .i64 1, .int .i64 3, .int .i64 0, .int .i64 1, .int .i64 0, .int .i64 0, .slice none 0 0, .int .i64 0] 56 := ⟨_, rfl⟩
 have HO := Aside0.mk hO
 have K0 := Aside0.mk (blk_alloc (blk_new w O) O)
 have D0 := Aside0.mk (below_alloc (below_alloc (Below.refl w.heap.size w) O) O)
 have N1 := Aside0.mk (show ((w.alloc O).alloc O).heap[w.heap.size + 1]? = some O from by have h := blk_new (w.alloc O) O; rw [World.size_alloc] at h; exact h)
 rw [hO] at K0 D0 N1
 clear hO
 go_enter Try.func39, Try.ntmps39
 go_wp2_with fail
 refine (match_Find.calls 60 (some ⟨w.heap.size + 1, 0, none⟩) 1 [exP] 9 1 exS 0 true _ (one_row (x := exP) (A := none) (c := 0) N1.out (by decide) (Kd.C_nil _ _)) (by decide) (by decide) ex_yes).mono ?_
 rintro e w1 ⟨rfl, hb⟩
 have K1 := Aside0.mk (blk_below K0.out hb)
 have D1 := Aside0.mk (below_step D0.out hb)
 have K2 := Aside0.mk (blk_alloc K1.out O)
 have D2 := Aside0.mk (below_alloc D1.out O)
 have N2 := Aside0.mk (blk_new w1 O)
 rw [HO.out] at K2 D2 N2
 clear hb K0 N1 D0
 obtain ⟨x0, x1, x2, x3, x4, x5, x6, x7, x8, x9, x10, x11⟩ := hcells12 K1.out
 go_wp2_with fail
 refine (match_Find.calls 60 (some ⟨w1.heap.size, 0, none⟩) 1 [exP] 9 2 exS 0 false _ (one_row (x := exP) (A := none) (c := 0) N2.out (by decide) (Kd.C_nil _ _)) (by decide) (by decide) ex_no).mono ?_
 rintro e w2 ⟨rfl, hb⟩
 have K3 := Aside0.mk (blk_below K2.out hb)
 have D3 := Aside0.mk (below_step D2.out hb)
 clear hb K1 K2 D2 D1 N2 x0 x1 x2 x3 x4 x5 x6 x7 x8 x9 x10 x11
 obtain ⟨x0, x1, x2, x3, x4, x5, x6, x7, x8, x9, x10, x11⟩ := hcells12 K3.out
 go_wp2_with fail
 refine (match_Fault.calls 9 0 0 5 1 3 0 1 0 0 none 0 [] 0 11 5 1 ⟨#[131, 11]⟩ true _ (Kd.C_nil _ _) (Nat.le_refl _) ex_fault).mono ?_
 rintro e w3 ⟨rfl, hb⟩
 have D4 := Aside0.mk (below_step D3.out hb)
 clear hb K3 D3 x0 x1 x2 x3 x4 x5 x6 x7 x8 x9 x10 x11
 go_wp2
 rw [HT.out]
 refine ⟨rfl, ?_⟩
 have D0 := below_alloc D4.out
 with_reducible (repeat (first | exact D0 _ | apply below_drew1 | apply pw_below_drewN))
end Go.Proofs.Ytinoabkfekomcaa.PAskSizes
namespace Go.Proofs.Ytinoabkfekomcaa.AskAskSizes
open Go Go.RowKit Go.Proofs.Ytinoabkfekomcaa.PAskSizes Go.Proofs.YtinoabkfekomcaaW.PrintWords Go.Proofs.YtinoabkfekomcaaW.PrintLast Go.Proofs.Ytinoabkfekomcaa.Base Go.Proofs.Ytinoabkfekomcaa.RepAskSizes Go.Proofs.Ytinoabkfekomcaa.CoilAskSizes Go.Proofs.Ytinoabkfekomcaa.Coil
set_option maxHeartbeats 16000000
set_option maxRecDepth 100000
set_option linter.unusedVariables false
set_option linter.unusedSimpArgs false
theorem bt_second (a b : Int) (h0 : 0 ≤ b) (h1 : b ≤ 255) : bt (strOfNums [a, b]) 1 = b := by
  have e : bytesOf (strOfNums [a, b]) = [((UInt8.ofNat a.toNat).toNat : Int), b] := by
    simp [bytesOf, strOfNums]
    omega
  rw [← rd_bytesOf, e]
  rfl
theorem kind_two {a0 a1 a2 a3 a4 : Int} {l : List Int} (hr : rightP a0 a1 a2 a3 a4 l = true) {code : Int} (hc : codeP code = true) : reply_Kind.f 8000 a0 a1 a2 a3 a4 l (strOfNums [a0 + 128, code]) = some 2 := by
  have ht := rt_of hr
  have hb := rt_of_len ht
  have hcb := code_bound hc
  have hz : (strOfNums [a0 + 128, code]).size = 2 := by rw [strOfNums_size]; rfl
  have h0 : bt (strOfNums [a0 + 128, code]) 0 = a0 + 128 := bt_head' _ _ (by omega) (by omega)
  have h1 : bt (strOfNums [a0 + 128, code]) 1 = code := bt_second _ _ (by omega) (by omega)
  have hd : (dataP a0 a1 a2 a3 a4 l (strOfNums [a0 + 128, code])).2 = false := by
    unfold dataP
    rw [if_pos hr]
    by_cases he : echoB a0 = true
    · rw [if_pos he]
      show ((strOfNums (echoL a0 a3 a4 l)).toList == (strOfNums [a0 + 128, code]).toList) = false
      rw [beq_eq_false_iff_ne]
      intro h
      have h2 := congrArg ByteArray.size (to_eq.1 h)
      rw [strOfNums_size, hz] at h2
      have := echoL_five a0 a3 a4 l
      omega
    · rw [if_neg he, if_neg (by rw [h0]; omega)]
  unfold reply_Kind.f
  rw [data_eq _ _ _ _ _ _ _ (by omega) _ (by decide), Option.bind_some, hd, if_neg (by decide), right_eq _ _ _ _ _ _ _ (by decide), hr, Option.bind_some, if_pos rfl, if_pos (by rw [hz]; rfl), if_pos (by omega), h1, w64 (by omega) (by omega), code_eq, hc, Option.bind_some, if_pos rfl, if_pos (by omega), h0, w64 (by omega) (by omega), or128 ht, if_pos rfl]
theorem fault_told (x : S56) (hr : rightP x.f5.f0 x.f5.f1 x.f5.f2 x.f5.f3 x.f5.f4 x.f5.f5 = true) (code : Int) :
    (match_Fault.f x.f0 x.f1 x.f2 x.f3 x.f4 x.f5.f0 x.f5.f1 x.f5.f2 x.f5.f3 x.f5.f4 x.f5.f5 x.f6 code = some (0, 0, (⟨#[]⟩ : ByteArray), false)) ∨
    (match_Fault.f x.f0 x.f1 x.f2 x.f3 x.f4 x.f5.f0 x.f5.f1 x.f5.f2 x.f5.f3 x.f5.f4 x.f5.f5 x.f6 code = some (x.f3, x.f4, strOfNums [x.f5.f0 + 128, code], true) ∧
      matchF 8000 [x] x.f0 x.f4 (strOfNums [x.f5.f0 + 128, code]) = some (0, true) ∧ (strOfNums [x.f5.f0 + 128, code]).size = 2 ∧ bt (strOfNums [x.f5.f0 + 128, code]) ((1 : Nat) : Int) = code ∧ 0 ≤ code ∧ code ≤ 255) := by
  have hb := rt_of_len (rt_of hr)
  unfold match_Fault.f
  rw [fault_eq, Option.bind_some]
  unfold faultP
  by_cases hc : codeP code = true
  · have hcb := code_bound hc
    right
    rw [if_pos (show 1 ≤ x.f5.f0 ∧ x.f5.f0 ≤ 127 ∧ codeP code = true from ⟨by omega, by omega, hc⟩), if_pos rfl]
    refine ⟨rfl, ?_, by rw [strOfNums_size]; rfl, bt_second _ _ (by omega) (by omega), by omega, by omega⟩
    have hf : findP [x] x.f0 = 0 := by simp [findP, idx56]
    unfold matchF
    rw [hf, if_neg (by decide), show rd_T56 [x] 0 = x from rfl]
    unfold match_answers.f
    rw [if_pos rfl, if_pos rfl, kind_two hr hc]
    rfl
  · left
    rw [if_neg (show ¬ (1 ≤ x.f5.f0 ∧ x.f5.f0 ≤ 127 ∧ codeP code = true) from fun h => hc h.2.2), if_neg (by decide)]
theorem MatchFaults_calls (x : S56) (A10 : Option Addr) (c10 : Nat) (code : Int) (w : World) (hr0 : Kd.C (Kd.int .i64) w A10 x.f5.f5.length x.f5.f5) (hc0 : x.f5.f5.length ≤ c10) :
    Calls Try.prog 13 #[.agg #[.int .i64 x.f0, .int .i64 x.f1, .int .i64 x.f2, .int .i64 x.f3, .int .i64 x.f4, .int .i64 x.f5.f0, .int .i64 x.f5.f1, .int .i64 x.f5.f2, .int .i64 x.f5.f3, .int .i64 x.f5.f4, .slice A10 x.f5.f5.length c10, .int .i64 x.f6], .int .i64 code] w fun e w' => e = .returned (.bool true) ∧ Below w.heap.size w w' := by
  obtain ⟨T, hT⟩ : ∃ T : Ending → World → Prop, T = fun e w' => e = .returned (.bool true) ∧ Below w.heap.size w w' := ⟨_, rfl⟩
  have HT := Aside0.mk hT
  rw [← hT]
  clear hT
  have HC := Aside0.mk hc0
  have K0 := Aside0.mk (blk_new w (.cells #[.int .i64 x.f0, .int .i64 x.f1, .int .i64 x.f2, .int .i64 x.f3, .int .i64 x.f4, .int .i64 x.f5.f0, .int .i64 x.f5.f1, .int .i64 x.f5.f2, .int .i64 x.f5.f3, .int .i64 x.f5.f4, .slice A10 x.f5.f5.length c10, .int .i64 x.f6] 56))
  have D0 := Aside0.mk (below_alloc (Below.refl w.heap.size w) (.cells #[.int .i64 x.f0, .int .i64 x.f1, .int .i64 x.f2, .int .i64 x.f3, .int .i64 x.f4, .int .i64 x.f5.f0, .int .i64 x.f5.f1, .int .i64 x.f5.f2, .int .i64 x.f5.f3, .int .i64 x.f5.f4, .slice A10 x.f5.f5.length c10, .int .i64 x.f6] 56))
  have R0 := Aside0.mk (Kd.C_below hr0 (below_alloc (Below.refl w.heap.size w) (.cells #[.int .i64 x.f0, .int .i64 x.f1, .int .i64 x.f2, .int .i64 x.f3, .int .i64 x.f4, .int .i64 x.f5.f0, .int .i64 x.f5.f1, .int .i64 x.f5.f2, .int .i64 x.f5.f3, .int .i64 x.f5.f4, .slice A10 x.f5.f5.length c10, .int .i64 x.f6] 56)))
  clear hr0 hc0
  by_cases hl : (x.f5.f5.length : Int) > 2000
  · go_enter Try.func13, Try.ntmps13
    go_wp2_with fail
    refine (awake21_calls _).mono ?_
    rintro e w2 ⟨rfl, hb⟩
    go_wp2
    rw [HT.out]
    exact ⟨rfl, below_step D0.out hb⟩
  have HI := Aside0.mk (refRight_eq x.f5.f0 x.f5.f1 x.f5.f2 x.f5.f3 x.f5.f4 x.f5.f5 (by omega) 8000 (by omega))
  obtain ⟨rt, hrt⟩ : ∃ rt, rightP x.f5.f0 x.f5.f1 x.f5.f2 x.f5.f3 x.f5.f4 x.f5.f5 = rt := ⟨_, rfl⟩
  rw [hrt] at HI
  have HR := Aside0.mk hrt
  clear hrt
  cases rt
  · skip
    go_enter Try.func13, Try.ntmps13
    go_wp2_with fail
    refine (gatewardenref06_Right.calls 8000 x.f5.f0 x.f5.f1 x.f5.f2 x.f5.f3 x.f5.f4 A10 c10 x.f5.f5 false _ R0.out HC.out HI.out).mono ?_
    rintro e w1 ⟨rfl, hb⟩
    have K1 := Aside0.mk (blk_below K0.out hb)
    have D1 := Aside0.mk (below_step D0.out hb)
    have R1 := Aside0.mk (Kd.C_below R0.out hb)
    clear hb
    obtain ⟨x0, x1, x2, x3, x4, x5, x6, x7, x8, x9, x10, x11⟩ := hcells12 K1.out
    go_wp2_with fail
    refine (awake21_calls _).mono ?_
    rintro e w2 ⟨rfl, hb⟩
    go_wp2
    rw [HT.out]
    exact ⟨rfl, below_step D1.out hb⟩
  rcases fault_told x HR.out code with hf | ⟨hf, hm, hz, hbt, h0, h1⟩
  · have HF := Aside0.mk hf
    clear hf
    go_enter Try.func13, Try.ntmps13
    go_wp2_with fail
    refine (gatewardenref06_Right.calls 8000 x.f5.f0 x.f5.f1 x.f5.f2 x.f5.f3 x.f5.f4 A10 c10 x.f5.f5 true _ R0.out HC.out HI.out).mono ?_
    rintro e w1 ⟨rfl, hb⟩
    have K1 := Aside0.mk (blk_below K0.out hb)
    have D1 := Aside0.mk (below_step D0.out hb)
    have R1 := Aside0.mk (Kd.C_below R0.out hb)
    clear hb
    obtain ⟨x0, x1, x2, x3, x4, x5, x6, x7, x8, x9, x10, x11⟩ := hcells12 K1.out
    go_wp2_with fail
    refine (match_Fault.calls x.f0 x.f1 x.f2 x.f3 x.f4 x.f5.f0 x.f5.f1 x.f5.f2 x.f5.f3 x.f5.f4 A10 c10 x.f5.f5 x.f6 code (0) (0) (⟨#[]⟩) (false) _ R1.out HC.out HF.out).mono ?_
    rintro e w2 ⟨rfl, hb⟩
    have K2a := Aside0.mk (blk_below K1.out hb)
    have K2 := Aside0.mk (blk_alloc (blk_below K1.out hb) (.cells #[.int .i64 0, .int .i64 0, .string ⟨#[]⟩] 49))
    have D2 := Aside0.mk (below_alloc (below_step D1.out hb) (.cells #[.int .i64 0, .int .i64 0, .string ⟨#[]⟩] 49))
    have R2 := Aside0.mk (Kd.C_below R1.out (below_alloc hb (.cells #[.int .i64 0, .int .i64 0, .string ⟨#[]⟩] 49)))
    have N2 := Aside0.mk (blk_new w2 (.cells #[.int .i64 0, .int .i64 0, .string ⟨#[]⟩] 49))
    clear hb x0 x1 x2 x3 x4 x5 x6 x7 x8 x9 x10 x11
    go_wp2_with fail
    refine (awake21_calls _).mono ?_
    rintro e w3 ⟨rfl, hb⟩
    have N3 := Aside0.mk (blk_below N2.out hb)
    obtain ⟨y0, y1, y2⟩ : _ ∧ _ ∧ _ := ⟨(blk_cell N3.out 0).trans rfl, (blk_cell N3.out 1).trans rfl, (blk_cell N3.out 2).trans rfl⟩
    have D3 := Aside0.mk (below_step D2.out hb)
    clear hb
    go_wp2
    rw [HT.out]
    exact ⟨rfl, D3.out⟩
  · obtain ⟨S, hS⟩ : ∃ S, S = strOfNums [x.f5.f0 + 128, code] := ⟨_, rfl⟩
    rw [← hS] at hf hm hz hbt
    have HF := Aside0.mk hf
    have HM := Aside0.mk hm
    clear hf hm hS
    go_enter Try.func13, Try.ntmps13
    go_wp2_with fail
    refine (gatewardenref06_Right.calls 8000 x.f5.f0 x.f5.f1 x.f5.f2 x.f5.f3 x.f5.f4 A10 c10 x.f5.f5 true _ R0.out HC.out HI.out).mono ?_
    rintro e w1 ⟨rfl, hb⟩
    have K1 := Aside0.mk (blk_below K0.out hb)
    have D1 := Aside0.mk (below_step D0.out hb)
    have R1 := Aside0.mk (Kd.C_below R0.out hb)
    clear hb
    obtain ⟨x0, x1, x2, x3, x4, x5, x6, x7, x8, x9, x10, x11⟩ := hcells12 K1.out
    go_wp2_with fail
    refine (match_Fault.calls x.f0 x.f1 x.f2 x.f3 x.f4 x.f5.f0 x.f5.f1 x.f5.f2 x.f5.f3 x.f5.f4 A10 c10 x.f5.f5 x.f6 code (x.f3) (x.f4) (S) (true) _ R1.out HC.out HF.out).mono ?_
    rintro e w2 ⟨rfl, hb⟩
    have K2a := Aside0.mk (blk_below K1.out hb)
    have K2 := Aside0.mk (blk_alloc (blk_below K1.out hb) (.cells #[.int .i64 x.f3, .int .i64 x.f4, .string S] 49))
    have D2 := Aside0.mk (below_alloc (below_step D1.out hb) (.cells #[.int .i64 x.f3, .int .i64 x.f4, .string S] 49))
    have R2 := Aside0.mk (Kd.C_below R1.out (below_alloc hb (.cells #[.int .i64 x.f3, .int .i64 x.f4, .string S] 49)))
    have N2 := Aside0.mk (blk_new w2 (.cells #[.int .i64 x.f3, .int .i64 x.f4, .string S] 49))
    clear hb x0 x1 x2 x3 x4 x5 x6 x7 x8 x9 x10 x11
    have K3 := Aside0.mk (blk_alloc K2.out (.cells #[.int .i64 x.f0, .int .i64 x.f1, .int .i64 x.f2, .int .i64 x.f3, .int .i64 x.f4, .int .i64 x.f5.f0, .int .i64 x.f5.f1, .int .i64 x.f5.f2, .int .i64 x.f5.f3, .int .i64 x.f5.f4, .slice A10 x.f5.f5.length c10, .int .i64 x.f6] 56))
    have N3 := Aside0.mk (blk_alloc N2.out (.cells #[.int .i64 x.f0, .int .i64 x.f1, .int .i64 x.f2, .int .i64 x.f3, .int .i64 x.f4, .int .i64 x.f5.f0, .int .i64 x.f5.f1, .int .i64 x.f5.f2, .int .i64 x.f5.f3, .int .i64 x.f5.f4, .slice A10 x.f5.f5.length c10, .int .i64 x.f6] 56))
    have D3 := Aside0.mk (below_alloc D2.out (.cells #[.int .i64 x.f0, .int .i64 x.f1, .int .i64 x.f2, .int .i64 x.f3, .int .i64 x.f4, .int .i64 x.f5.f0, .int .i64 x.f5.f1, .int .i64 x.f5.f2, .int .i64 x.f5.f3, .int .i64 x.f5.f4, .slice A10 x.f5.f5.length c10, .int .i64 x.f6] 56))
    have R3 := Aside0.mk (Kd.C_below R2.out (below_alloc (Below.refl _ _) (.cells #[.int .i64 x.f0, .int .i64 x.f1, .int .i64 x.f2, .int .i64 x.f3, .int .i64 x.f4, .int .i64 x.f5.f0, .int .i64 x.f5.f1, .int .i64 x.f5.f2, .int .i64 x.f5.f3, .int .i64 x.f5.f4, .slice A10 x.f5.f5.length c10, .int .i64 x.f6] 56)))
    have B3 := Aside0.mk (show ((w2.alloc (.cells #[.int .i64 x.f3, .int .i64 x.f4, .string S] 49)).alloc (.cells #[.int .i64 x.f0, .int .i64 x.f1, .int .i64 x.f2, .int .i64 x.f3, .int .i64 x.f4, .int .i64 x.f5.f0, .int .i64 x.f5.f1, .int .i64 x.f5.f2, .int .i64 x.f5.f3, .int .i64 x.f5.f4, .slice A10 x.f5.f5.length c10, .int .i64 x.f6] 56)).heap[w2.heap.size + 1]? = some (.cells #[.int .i64 x.f0, .int .i64 x.f1, .int .i64 x.f2, .int .i64 x.f3, .int .i64 x.f4, .int .i64 x.f5.f0, .int .i64 x.f5.f1, .int .i64 x.f5.f2, .int .i64 x.f5.f3, .int .i64 x.f5.f4, .slice A10 x.f5.f5.length c10, .int .i64 x.f6] 56) from by have h := blk_new (w2.alloc (.cells #[.int .i64 x.f3, .int .i64 x.f4, .string S] 49)) (.cells #[.int .i64 x.f0, .int .i64 x.f1, .int .i64 x.f2, .int .i64 x.f3, .int .i64 x.f4, .int .i64 x.f5.f0, .int .i64 x.f5.f1, .int .i64 x.f5.f2, .int .i64 x.f5.f3, .int .i64 x.f5.f4, .slice A10 x.f5.f5.length c10, .int .i64 x.f6] 56); rw [World.size_alloc] at h; exact h)
    obtain ⟨x0, x1, x2, x3, x4, x5, x6, x7, x8, x9, x10, x11⟩ := hcells12 K2a.out
    have lt1 : w.heap.size < w2.heap.size := blk_lt K2a.out
    have ne1 : w.heap.size ≠ w2.heap.size := by omega
    have ne2 : w.heap.size ≠ w2.heap.size + 1 := by omega
    clear K2 N2 D2 R2 hl
    go_wp2_with fail
    refine (match_Find.calls 8000 (some ⟨w2.heap.size + 1, 0, none⟩) 1 [x] x.f0 x.f4 S 0 true _ (one_row B3.out HC.out R3.out) (Nat.le_refl _) (by simp) HM.out).mono ?_
    rintro e w3 ⟨rfl, hb⟩
    have K4 := Aside0.mk (blk_below K3.out hb)
    have N4 := Aside0.mk (blk_below N3.out hb)
    have D4 := Aside0.mk (below_step D3.out hb)
    have R4 := Aside0.mk (Kd.C_below R3.out hb)
    clear hb K3 N3 D3 R3 B3 HM HF HI HR K2a lt1 ne1 ne2 x0 x1 x2 x3 x4 x5 x6 x7 x8 x9 x10 x11
    obtain ⟨v1, e1, g1, g1', u1, y1, xb⟩ := byte_at S 1 (by omega)
    rw [hbt] at e1
    subst e1
    clear hbt
    have hzi : (S.size : Int) = 2 := by omega
    go_upto_region 7 with (fail)
    have HKS : Aside0 (∀ w' : World, Below w3.heap.size w3 w' → (w'.cell? ⟨w.heap.size, 0, none⟩ = some (.int .i64 x.f0) ∧ w'.cell? ⟨w.heap.size, 1, none⟩ = some (.int .i64 x.f1) ∧ w'.cell? ⟨w.heap.size, 2, none⟩ = some (.int .i64 x.f2) ∧ w'.cell? ⟨w.heap.size, 3, none⟩ = some (.int .i64 x.f3) ∧ w'.cell? ⟨w.heap.size, 4, none⟩ = some (.int .i64 x.f4) ∧ w'.cell? ⟨w.heap.size, 5, none⟩ = some (.int .i64 x.f5.f0) ∧ w'.cell? ⟨w.heap.size, 6, none⟩ = some (.int .i64 x.f5.f1) ∧ w'.cell? ⟨w.heap.size, 7, none⟩ = some (.int .i64 x.f5.f2) ∧ w'.cell? ⟨w.heap.size, 8, none⟩ = some (.int .i64 x.f5.f3) ∧ w'.cell? ⟨w.heap.size, 9, none⟩ = some (.int .i64 x.f5.f4) ∧ w'.cell? ⟨w.heap.size, 10, none⟩ = some (.slice A10 x.f5.f5.length c10) ∧ w'.cell? ⟨w.heap.size, 11, none⟩ = some (.int .i64 x.f6) ∧ w'.cell? ⟨w2.heap.size, 0, none⟩ = some (.int .i64 x.f3) ∧ w'.cell? ⟨w2.heap.size, 1, none⟩ = some (.int .i64 x.f4) ∧ w'.cell? ⟨w2.heap.size, 2, none⟩ = some (.string S))) := Aside0.mk (fun w' hb => ⟨(blk_cell (blk_below K4.out hb) 0).trans rfl, (blk_cell (blk_below K4.out hb) 1).trans rfl, (blk_cell (blk_below K4.out hb) 2).trans rfl, (blk_cell (blk_below K4.out hb) 3).trans rfl, (blk_cell (blk_below K4.out hb) 4).trans rfl, (blk_cell (blk_below K4.out hb) 5).trans rfl, (blk_cell (blk_below K4.out hb) 6).trans rfl, (blk_cell (blk_below K4.out hb) 7).trans rfl, (blk_cell (blk_below K4.out hb) 8).trans rfl, (blk_cell (blk_below K4.out hb) 9).trans rfl, (blk_cell (blk_below K4.out hb) 10).trans rfl, (blk_cell (blk_below K4.out hb) 11).trans rfl, (blk_cell (blk_below N4.out hb) 0).trans rfl, (blk_cell (blk_below N4.out hb) 1).trans rfl, (blk_cell (blk_below N4.out hb) 2).trans rfl⟩)
    have HB := Aside0.mk (below_drew1 (Below.refl w3.heap.size w3))
    refine reg_start [0, 1, 2, 3, 4, 5, 6, 7, 8, 9, 10, 11, 12, 13, 14, 15, 16, 18, 17, 19, 20, 21, 22, 23, 24, 25, 26, 27, 28, 29, 30, 31, 32, 33, 34, 35] 36 (fun w' => w'.cell? ⟨w.heap.size, 0, none⟩ = some (.int .i64 x.f0) ∧ w'.cell? ⟨w.heap.size, 1, none⟩ = some (.int .i64 x.f1) ∧ w'.cell? ⟨w.heap.size, 2, none⟩ = some (.int .i64 x.f2) ∧ w'.cell? ⟨w.heap.size, 3, none⟩ = some (.int .i64 x.f3) ∧ w'.cell? ⟨w.heap.size, 4, none⟩ = some (.int .i64 x.f4) ∧ w'.cell? ⟨w.heap.size, 5, none⟩ = some (.int .i64 x.f5.f0) ∧ w'.cell? ⟨w.heap.size, 6, none⟩ = some (.int .i64 x.f5.f1) ∧ w'.cell? ⟨w.heap.size, 7, none⟩ = some (.int .i64 x.f5.f2) ∧ w'.cell? ⟨w.heap.size, 8, none⟩ = some (.int .i64 x.f5.f3) ∧ w'.cell? ⟨w.heap.size, 9, none⟩ = some (.int .i64 x.f5.f4) ∧ w'.cell? ⟨w.heap.size, 10, none⟩ = some (.slice A10 x.f5.f5.length c10) ∧ w'.cell? ⟨w.heap.size, 11, none⟩ = some (.int .i64 x.f6) ∧ w'.cell? ⟨w2.heap.size, 0, none⟩ = some (.int .i64 x.f3) ∧ w'.cell? ⟨w2.heap.size, 1, none⟩ = some (.int .i64 x.f4) ∧ w'.cell? ⟨w2.heap.size, 2, none⟩ = some (.string S)) (by kernel_rfl) rfl (HKS.out _ HB.out) (fun hHeld => ?_)
    generalize w3.drew = w4 at HB hHeld ⊢
    repeat (first | (refine reg_pure (v := ?_) (a' := ?_) rfl rfl rfl (by kernel_rfl) (fun _ _ _ h => h) (by rfl) ?_ ?_ ?_; rotate_left; (solve | (intro w'; go_simp; with_reducible rfl)); rotate_left; (solve | (simp only [Act.put, List.setIfInBounds_toArray, List.set_cons_zero, List.set_cons_succ, i64_w, i32_w]; rfl))) | (refine reg_skip (a' := ?_) rfl rfl rfl (by rfl) (by kernel_rfl) (fun _ _ _ h => h) ?_ ?_; rotate_left; (solve | (simp only [Act.put, List.setIfInBounds_toArray, List.set_cons_zero, List.set_cons_succ, i64_w, i32_w]; rfl))) | (refine reg_load (v := ?_) (a' := ?_) rfl rfl rfl (by kernel_rfl) (fun _ _ _ h => h) (by rfl) ?_ hHeld ?_ ?_; rotate_left; (solve | (rintro w' ⟨s0, s1, s2, s3, s4, s5, s6, s7, s8, s9, s10, s11, s12, s13, s14⟩; go_simp; with_reducible rfl)); rotate_left; (solve | (simp only [Act.put, List.setIfInBounds_toArray, List.set_cons_zero, List.set_cons_succ, i64_w, i32_w]; rfl)); intro hHeld))
    refine reg_call rfl rfl rfl (by kernel_rfl) (by rfl) Try.func39 (by kernel_rfl) rfl #[] rfl (by (try simp only [List.map_toArray, List.map_cons, List.map_nil]); first | done | rfl) ?_
    refine (awake21_calls _).mono ?_
    rintro e w5 ⟨rfl, hb⟩
    have HN := Aside0.mk (below_step HB.out hb)
    clear HB hb
    have HB := Aside0.mk HN.out
    clear HN
    refine ⟨_, rfl, HKS.out _ HB.out, fun hHeld => ?_⟩
    rintro a' ha'
    simp only [Act.put, List.setIfInBounds_toArray, List.set_cons_zero, List.set_cons_succ, i64_w, i32_w] at ha'
    subst ha'
    repeat (first | (refine reg_pure (v := ?_) (a' := ?_) rfl rfl rfl (by kernel_rfl) (fun _ _ _ h => h) (by rfl) ?_ ?_ ?_; rotate_left; (solve | (intro w'; go_simp; with_reducible rfl)); rotate_left; (solve | (simp only [Act.put, List.setIfInBounds_toArray, List.set_cons_zero, List.set_cons_succ, i64_w, i32_w]; rfl))) | (refine reg_skip (a' := ?_) rfl rfl rfl (by rfl) (by kernel_rfl) (fun _ _ _ h => h) ?_ ?_; rotate_left; (solve | (simp only [Act.put, List.setIfInBounds_toArray, List.set_cons_zero, List.set_cons_succ, i64_w, i32_w]; rfl))) | (refine reg_load (v := ?_) (a' := ?_) rfl rfl rfl (by kernel_rfl) (fun _ _ _ h => h) (by rfl) ?_ hHeld ?_ ?_; rotate_left; (solve | (rintro w' ⟨s0, s1, s2, s3, s4, s5, s6, s7, s8, s9, s10, s11, s12, s13, s14⟩; go_simp; with_reducible rfl)); rotate_left; (solve | (simp only [Act.put, List.setIfInBounds_toArray, List.set_cons_zero, List.set_cons_succ, i64_w, i32_w]; rfl)); intro hHeld))
    refine reg_call rfl rfl rfl (by kernel_rfl) (by rfl) Try.func44 (by kernel_rfl) rfl #[.agg #[.int .i64 x.f0, .int .i64 x.f1, .int .i64 x.f2, .int .i64 x.f3, .int .i64 x.f4, .int .i64 x.f5.f0, .int .i64 x.f5.f1, .int .i64 x.f5.f2, .int .i64 x.f5.f3, .int .i64 x.f5.f4, .slice A10 x.f5.f5.length c10, .int .i64 x.f6], .agg #[.int .i64 x.f0, .int .i64 x.f4, .string S]] rfl (by (try simp only [List.map_toArray, List.map_cons, List.map_nil]); first | done | rfl) ?_
    refine (match_Back.calls x.f0 x.f1 x.f2 x.f3 x.f4 x.f5.f0 x.f5.f1 x.f5.f2 x.f5.f3 x.f5.f4 A10 c10 x.f5.f5 x.f6 x.f0 x.f4 S x.f3 x.f4 S _ (Kd.C_below R4.out HB.out) HC.out rfl).mono ?_
    rintro e w5 ⟨rfl, hb⟩
    have HN := Aside0.mk (below_step HB.out hb)
    clear HB hb
    have HB := Aside0.mk HN.out
    clear HN
    refine ⟨_, rfl, HKS.out _ HB.out, fun hHeld => ?_⟩
    rintro a' ha'
    simp only [Act.put, List.setIfInBounds_toArray, List.set_cons_zero, List.set_cons_succ, i64_w, i32_w] at ha'
    subst ha'
    repeat (first | (refine reg_pure (v := ?_) (a' := ?_) rfl rfl rfl (by kernel_rfl) (fun _ _ _ h => h) (by rfl) ?_ ?_ ?_; rotate_left; (solve | (intro w'; go_simp; with_reducible rfl)); rotate_left; (solve | (simp only [Act.put, List.setIfInBounds_toArray, List.set_cons_zero, List.set_cons_succ, i64_w, i32_w]; rfl))) | (refine reg_skip (a' := ?_) rfl rfl rfl (by rfl) (by kernel_rfl) (fun _ _ _ h => h) ?_ ?_; rotate_left; (solve | (simp only [Act.put, List.setIfInBounds_toArray, List.set_cons_zero, List.set_cons_succ, i64_w, i32_w]; rfl))) | (refine reg_load (v := ?_) (a' := ?_) rfl rfl rfl (by kernel_rfl) (fun _ _ _ h => h) (by rfl) ?_ hHeld ?_ ?_; rotate_left; (solve | (rintro w' ⟨s0, s1, s2, s3, s4, s5, s6, s7, s8, s9, s10, s11, s12, s13, s14⟩; go_simp; with_reducible rfl)); rotate_left; (solve | (simp only [Act.put, List.setIfInBounds_toArray, List.set_cons_zero, List.set_cons_succ, i64_w, i32_w]; rfl)); intro hHeld))
    refine reg_done (by kernel_rfl) ?_
    go_wp2
    rw [HT.out]
    refine ⟨rfl, ?_⟩
    have D0 := below_step D4.out HB.out
    with_reducible (repeat (first | exact D0 | apply below_drew1 | apply pw_below_drewN))
end Go.Proofs.Ytinoabkfekomcaa.AskAskSizes
