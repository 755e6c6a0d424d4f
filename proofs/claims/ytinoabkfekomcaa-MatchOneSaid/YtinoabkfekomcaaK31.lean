/- Texts of this claim, put together (wip/pack.py): MatchOneWalk. -/
import Derived.Test.YtinoabkfekomcaaK29
import Derived.Test.YtinoabkfekomcaaK30
namespace Go.Proofs.Ytinoabkfekomcaa.AskAskSizes
open Go Go.RowKit Go.Proofs.Ytinoabkfekomcaa.PAskSizes Go.Proofs.YtinoabkfekomcaaW.PrintWords Go.Proofs.YtinoabkfekomcaaW.PrintLast Go.Proofs.Ytinoabkfekomcaa.Base Go.Proofs.Ytinoabkfekomcaa.RepAskSizes Go.Proofs.Ytinoabkfekomcaa.CoilAskSizes Go.Proofs.Ytinoabkfekomcaa.Coil
set_option maxHeartbeats 16000000
set_option maxRecDepth 100000
set_option linter.unusedVariables false
set_option linter.unusedSimpArgs false
theorem heap56 : Kd.Heap k56 := Kd.heap_iso _ (Kd.heap_pair (Kd.heap_int _) (Kd.heap_pair (Kd.heap_int _) (Kd.heap_pair (Kd.heap_int _) (Kd.heap_pair (Kd.heap_int _) (Kd.heap_pair (Kd.heap_int _) (Kd.heap_pair (Kd.heap_iso _ (Kd.heap_pair (Kd.heap_int _) (Kd.heap_pair (Kd.heap_int _) (Kd.heap_pair (Kd.heap_int _) (Kd.heap_pair (Kd.heap_int _) (Kd.heap_pair (Kd.heap_int _) (Kd.heap_slice _ (Kd.heap_int _))))))) ) (Kd.heap_int _)))))))
theorem drop_loop (l : List S56) (j : Nat) (hj : j < l.length) (hl : l.length ≤ 80) (d : Nat) : ∀ (k i : Nat) (acc : List S56), i ≤ l.length → l.length - i = d → d < k → acc.length ≤ i →
    gatewardenref20_Drop.l0 k l (j : Int) acc (i : Int) = some (acc ++ (if i ≤ j then (l.drop i).eraseIdx (j - i) else l.drop i)) := by
  induction d with
  | zero =>
    intro k i acc hi hd hk _
    obtain ⟨k, rfl⟩ : ∃ m, k = m + 1 := ⟨k - 1, by omega⟩
    simp only [gatewardenref20_Drop.l0]
    rw [if_neg (by omega), if_neg (by omega), List.drop_of_length_le (by omega), List.append_nil]
  | succ d ih =>
    intro k i acc hi hd hk ha
    obtain ⟨k, rfl⟩ : ∃ m, k = m + 1 := ⟨k - 1, by omega⟩
    simp only [gatewardenref20_Drop.l0]
    rw [if_pos (by omega), wr1 i l.length (by omega) (by omega)]
    by_cases h : i = j
    · subst h
      rw [if_pos rfl, ih k (i + 1) acc (by omega) (by omega) (by omega) (by omega), if_neg (by omega), if_pos (Nat.le_refl _), Nat.sub_self, rd_drop l i (by omega), List.eraseIdx_zero]
      rfl
    · rw [if_neg (by omega), if_pos (by omega), if_pos (by omega), ih k (i + 1) _ (by omega) (by omega) (by omega) (by simp; omega), List.append_assoc, rd_drop l i (by omega)]
      congr 2
      by_cases h2 : i ≤ j
      · rw [if_pos (by omega), if_pos h2, show j - i = (j - (i + 1)) + 1 by omega, List.eraseIdx_cons_succ]
        rfl
      · rw [if_neg (by omega), if_neg h2]
        rfl
theorem drop_eq (l : List S56) (j : Nat) (hj : j < l.length) (hl : l.length ≤ 80) : gatewardenref20_Drop.f 100 l (j : Int) = some (l.eraseIdx j) := by
  have h := drop_loop l j hj hl l.length 100 0 [] (by omega) (by omega) (by omega) (Nat.zero_le _)
  rw [if_pos (Nat.zero_le _), List.drop_zero, Nat.sub_zero, List.nil_append] at h
  exact h
theorem rd_get (l : List S56) (i : Nat) (h : i < l.length) : rd_T56 l (i : Int) = l[i] := by simp [rd_T56, List.getD_eq_getElem?_getD, List.getElem?_eq_getElem h]
/-- Without it among them, none has its number. -/
theorem none_left (l : List S56) (j : Nat) (hj : j < l.length) (id : Int) (h0 : (rd_T56 l (j : Int)).f0 = id) (hd : ∀ p q : Nat, q < l.length → p < q → (rd_T56 l (p : Int)).f0 ≠ (rd_T56 l (q : Int)).f0) (unit : Int) (pdu : ByteArray) :
    matchF 8000 (l.eraseIdx j) id unit pdu = some (0, false) := by
  unfold matchF
  rcases find_told (l.eraseIdx j) id with ⟨h, -⟩ | ⟨i, hi, -, hx⟩
  · rw [h, if_pos (by decide)]
  · exfalso
    rw [rd_get _ i hi] at hx
    have hm := List.getElem_mem hi
    rw [List.mem_eraseIdx_iff_getElem] at hm
    obtain ⟨p, hp, hpj, he⟩ := hm
    rw [← he, ← rd_get l p hp] at hx
    rcases Nat.lt_or_ge p j with h | h
    · exact hd p j hj h (by rw [hx, h0])
    · exact hd j p hp (by omega) (by rw [hx, h0])
/-- What is a response, of a request, begins with its function, or that and 128. -/
theorem kind_head {a0 a1 a2 a3 a4 : Int} {l : List Int} {s : ByteArray} (hs : s.size ≤ 300) {t : Int} (ht : t ≠ 0) (h : reply_Kind.f 8000 a0 a1 a2 a3 a4 l s = some t) : 2 ≤ s.size ∧ bt s 0 % 128 = a0 := by
  unfold reply_Kind.f at h
  rw [data_eq _ _ _ _ _ _ _ hs _ (by decide), Option.bind_some] at h
  by_cases hd : (dataP a0 a1 a2 a3 a4 l s).2 = true
  · have h3 := told hd
    obtain ⟨hr, htt, hn, hh⟩ := make_yes (a0 := a0) (a1 := a1) (a2 := a2) (a3 := a3) (a4 := a4) (l := l) (l1 := (dataP a0 a1 a2 a3 a4 l s).1) (by rw [h3])
    have hb := rt_of_len htt
    rcases hh with ⟨he, hm⟩ | ⟨he, hp, hm⟩
    · rw [h3] at hm
      have hs' : s = strOfNums (echoL a0 a3 a4 l) := congrArg Prod.fst hm
      have h5 := echoL_five a0 a3 a4 l
      obtain ⟨u, hu⟩ : ∃ u, echoL a0 a3 a4 l = a0 :: u := by
        unfold echoL
        split
        · exact ⟨_, rfl⟩
        split
        · exact ⟨_, rfl⟩
        split
        · exact ⟨_, rfl⟩
        · exact ⟨_, rfl⟩
      rw [hs', strOfNums_size]
      refine ⟨by omega, ?_⟩
      rw [hu, bt_head' a0 u (by omega) (by omega)]
      omega
    · rw [h3] at hm
      have hs' : s = strOfNums [a0, (packP a0 (dataP a0 a1 a2 a3 a4 l s).1).1.size] ++ (packP a0 (dataP a0 a1 a2 a3 a4 l s).1).1 := congrArg Prod.fst hm
      refine ⟨?_, ?_⟩
      · have := congrArg ByteArray.size hs'
        rw [ByteArray.size_append, strOfNums_size] at this
        simp at this
        omega
      · have e := bt_head a0 [((packP a0 (dataP a0 a1 a2 a3 a4 l s).1).1.size : Int)] (by omega) (by omega) (packP a0 (dataP a0 a1 a2 a3 a4 l s).1).1
        rw [← hs'] at e
        rw [e]; omega
  · rw [if_neg hd, right_eq _ _ _ _ _ _ _ (by decide), Option.bind_some] at h
    by_cases hr : rightP a0 a1 a2 a3 a4 l = true
    · have htt := rt_of hr
      have hb := rt_of_len htt
      rw [if_pos hr] at h
      by_cases h2 : (s.size : Int) = 2
      · rw [if_pos h2, if_pos (by omega), code_eq, Option.bind_some, or128 htt] at h
        have g0 := bt_range s 0
        split at h
        · rw [if_pos (by omega)] at h
          split at h
          · rename_i h6
            rw [w64 (by omega) (by omega)] at h6
            exact ⟨by omega, by omega⟩
          · exact absurd (Option.some.inj h).symm ht
        · exact absurd (Option.some.inj h).symm ht
      · rw [if_neg h2] at h
        exact absurd (Option.some.inj h).symm ht
    · rw [if_neg hr] at h
      exact absurd (Option.some.inj h).symm ht
theorem hcells3 {W : World} {g : Nat} {v0 v1 v2 : Value} {t : TypeId} (h : W.heap[g]? = some (.cells #[v0, v1, v2] t (0, 0))) : W.cell? ⟨g, 0, none⟩ = some v0 ∧ W.cell? ⟨g, 1, none⟩ = some v1 ∧ W.cell? ⟨g, 2, none⟩ = some v2 :=
  ⟨(blk_cell h 0).trans rfl, (blk_cell h 1).trans rfl, (blk_cell h 2).trans rfl⟩
theorem below_cell3 {B : Nat} {w w' : World} {g : Nat} {v0 v1 v2 : Value} (h : Below B w w') (hg : B ≤ g) : Below B w (((w'.setCell ⟨g, 0, none⟩ v0).setCell ⟨g, 1, none⟩ v1).setCell ⟨g, 2, none⟩ v2) :=
  ((h.setCell (p := ⟨g, 0, none⟩) hg v0).setCell (p := ⟨g, 1, none⟩) hg v1).setCell (p := ⟨g, 2, none⟩) hg v2
theorem put3 {w : World} {g : Nat} {t : TypeId} {y0 y1 y2 x0 x1 x2 : Value} (h : w.heap[g]? = some (.cells #[y0, y1, y2] t (0, 0))) : (((w.setCell ⟨g, 0, none⟩ x0).setCell ⟨g, 1, none⟩ x1).setCell ⟨g, 2, none⟩ x2).heap[g]? = some (.cells #[x0, x1, x2] t (0, 0)) :=
  blk_put (blk_put (blk_put h 0 x0 rfl) 1 x1 rfl) 2 x2 rfl
theorem MatchOne_calls (A0 : Option Addr) (c0 : Nat) (l0 : List S56) (id unit : Int) (pdu : ByteArray) (w : World) (hr0 : Kd.C k56 w A0 l0.length l0) (hc0 : l0.length ≤ c0) :
    Calls Try.prog 12 #[.slice A0 l0.length c0, .agg #[.int .i64 id, .int .i64 unit, .string pdu]] w fun e w' => e = .returned (.bool true) ∧ Below w.heap.size w w' := by
  obtain ⟨T, hT⟩ : ∃ T : Ending → World → Prop, T = fun e w' => e = .returned (.bool true) ∧ Below w.heap.size w w' := ⟨_, rfl⟩
  have HT := Aside0.mk hT
  rw [← hT]
  clear hT
  have HC := Aside0.mk hc0
  have K0 := Aside0.mk (blk_new w (.cells #[.int .i64 id, .int .i64 unit, .string pdu] 49))
  have D0 := Aside0.mk (below_alloc (Below.refl w.heap.size w) (.cells #[.int .i64 id, .int .i64 unit, .string pdu] 49))
  have R0 := Aside0.mk (Kd.C_below hr0 (below_alloc (Below.refl w.heap.size w) (.cells #[.int .i64 id, .int .i64 unit, .string pdu] 49)))
  have HK0 : Aside0 (∀ w' : World, Below (w.alloc (.cells #[.int .i64 id, .int .i64 unit, .string pdu] 49)).heap.size (w.alloc (.cells #[.int .i64 id, .int .i64 unit, .string pdu] 49)) w' → (w'.cell? ⟨w.heap.size, 0, none⟩ = some (.int .i64 id) ∧ w'.cell? ⟨w.heap.size, 1, none⟩ = some (.int .i64 unit) ∧ w'.cell? ⟨w.heap.size, 2, none⟩ = some (.string pdu))) := Aside0.mk (fun w' hb => hcells3 (blk_below K0.out hb))
  clear hr0 hc0
  obtain ⟨fw, hfw, hfx⟩ := few_told l0
  have HF := Aside0.mk hfw
  clear hfw
  cases fw
  · clear hfx
    go_enter Try.func12, Try.ntmps12
    go_wp2_with fail
    refine (gatewardenlaw21_few.calls 100 A0 c0 l0 false _ R0.out HC.out HF.out).mono ?_
    rintro e w4 ⟨rfl, hd⟩
    have HB := Aside0.mk hd.below
    clear hd
    obtain ⟨y0, y1, y2⟩ := HK0.out _ HB.out
    have D1 := Aside0.mk (below_step D0.out HB.out)
    go_wp2_with fail
    refine (awake21_calls _).mono ?_
    rintro e w6 ⟨rfl, hb⟩
    go_wp2
    rw [HT.out]
    exact ⟨rfl, below_step D1.out hb⟩
  obtain ⟨hl80, hv⟩ := hfx rfl
  have HV := Aside0.mk hv
  clear hfx hv
  by_cases hs : (pdu.size : Int) > 300
  · have hs' : decide ((pdu.size : Int) > 300) = true := decide_eq_true hs
    go_enter Try.func12, Try.ntmps12
    go_wp2_with fail
    refine (gatewardenlaw21_few.calls 100 A0 c0 l0 true _ R0.out HC.out HF.out).mono ?_
    rintro e w4 ⟨rfl, hd⟩
    have HB := Aside0.mk hd.below
    clear hd
    obtain ⟨y0, y1, y2⟩ := HK0.out _ HB.out
    have D1 := Aside0.mk (below_step D0.out HB.out)
    go_wp2_with fail
    refine (awake21_calls _).mono ?_
    rintro e w6 ⟨rfl, hb⟩
    go_wp2
    rw [HT.out]
    exact ⟨rfl, below_step D1.out hb⟩
  have HS := Aside0.mk (show pdu.size ≤ 300 by omega)
  obtain ⟨rg, hrg, hrx⟩ := right20_told l0 hl80
  have HG := Aside0.mk hrg
  clear hrg
  cases rg
  · skip
    go_enter Try.func12, Try.ntmps12
    go_wp2_with fail
    refine (gatewardenlaw21_few.calls 100 A0 c0 l0 true _ R0.out HC.out HF.out).mono ?_
    rintro e w4 ⟨rfl, hd⟩
    have HB := Aside0.mk hd.below
    clear hd
    obtain ⟨y0, y1, y2⟩ := HK0.out _ HB.out
    go_wp2_with fail
    refine (gatewardenref20_Right.calls 10000 A0 c0 l0 false _ (Kd.C_below R0.out HB.out) HC.out HG.out).mono ?_
    rintro e w5 ⟨rfl, hd⟩
    have hb := hd.below
    have HN := Aside0.mk (below_step HB.out hb)
    clear HB hb hd y0 y1 y2
    have HB := Aside0.mk HN.out
    clear HN
    obtain ⟨y0, y1, y2⟩ := HK0.out _ HB.out
    have D1 := Aside0.mk (below_step D0.out HB.out)
    go_wp2_with fail
    refine (awake21_calls _).mono ?_
    rintro e w6 ⟨rfl, hb⟩
    go_wp2
    rw [HT.out]
    exact ⟨rfl, below_step D1.out hb⟩
  have HDI := Aside0.mk (hrx rfl)
  clear hrx
  go_enter Try.func12, Try.ntmps12
  go_wp2_with fail
  refine (gatewardenlaw21_few.calls 100 A0 c0 l0 true _ R0.out HC.out HF.out).mono ?_
  rintro e w4 ⟨rfl, hd⟩
  have HB := Aside0.mk hd.below
  clear hd
  obtain ⟨y0, y1, y2⟩ := HK0.out _ HB.out
  go_wp2_with fail
  refine (gatewardenref20_Right.calls 10000 A0 c0 l0 true _ (Kd.C_below R0.out HB.out) HC.out HG.out).mono ?_
  rintro e w5 ⟨rfl, hd⟩
  have hb := hd.below
  have HN := Aside0.mk (below_step HB.out hb)
  clear HB hb hd y0 y1 y2
  have HB := Aside0.mk HN.out
  clear HN
  obtain ⟨y0, y1, y2⟩ := HK0.out _ HB.out
  have D1 := Aside0.mk (below_step D0.out HB.out)
  have hdist := HDI.out
  clear HDI
  obtain ⟨r, ok, hm1, -, hcase⟩ := find_both l0 id unit pdu HV.out HS.out
  have HM1 := Aside0.mk hm1
  clear hm1
  have R1 := Aside0.mk (Kd.C_below R0.out HB.out)
  rcases hcase with ⟨rfl, rfl⟩ | ⟨rfl, j, hj, rfl, hj0, hj4, t, ht, hk1, hk2⟩
  · go_wp2_with fail
    refine (match_Find.calls 8000 A0 c0 l0 id unit pdu 0 false _ R1.out HC.out (by omega) HM1.out).mono ?_
    rintro e w6 ⟨rfl, hb⟩
    have D2 := Aside0.mk (below_step D1.out hb)
    clear hb y0 y1 y2
    go_wp2_with fail
    refine (awake21_calls _).mono ?_
    rintro e w7 ⟨rfl, hb⟩
    go_wp2
    rw [HT.out]
    exact ⟨rfl, below_step D2.out hb⟩
  obtain ⟨x, hx⟩ : ∃ x, x = rd_T56 l0 (j : Int) := ⟨_, rfl⟩
  have HNL := Aside0.mk (none_left l0 j hj id hj0 hdist unit pdu)
  rw [← hx] at hj0 hj4 hk1 hk2
  obtain ⟨hp2, hmod⟩ := kind_head HS.out ht hk1
  have HK2 := Aside0.mk hk2
  have HX := Aside0.mk hx
  clear hdist hk1 hk2 hx
  go_wp2_with fail
  refine (match_Find.calls 8000 A0 c0 l0 id unit pdu (j : Int) true _ R1.out HC.out (by omega) HM1.out).mono ?_
  rintro e w6 ⟨rfl, hb⟩
  have HN := Aside0.mk (below_step HB.out hb)
  clear HB hb y0 y1 y2 D1 R1
  have HB1 := Aside0.mk HN.out
  clear HN
  have D1 := Aside0.mk (below_step D0.out HB1.out)
  have R1 := Aside0.mk (Kd.C_below R0.out HB1.out)
  have K1 := Aside0.mk (blk_below K0.out HB1.out)
  clear HM1 HF HG HB1 HK0 R0 K0 D0
  subst hj0
  obtain ⟨v0, e0, g0, g0', u0, z0, b0⟩ := byte_at pdu 0 (by omega)
  rw [show ((0 : Nat) : Int) = 0 from rfl] at e0
  rw [e0] at hmod
  clear e0
  have hj' : decide ((j : Int) < 0) = false := decide_eq_false (by omega)
  have hjl : decide ((j : Int) ≥ (l0.length : Int)) = false := decide_eq_false (by omega)
  have hp0 : 0 < pdu.size := by omega
  have hp0' : (0 : Int) < (pdu.size : Int) := by omega
  have hjl2 : decide (l0.length ≤ j) = false := decide_eq_false (by omega)
  have hjz : (j : Int) < (l0.length : Int) := by omega
  have hjn : (0 : Int) ≤ (j : Int) := by omega
  have h4 : (x.f4 != unit) = false := bne_eq_false_iff_eq.2 hj4
  have hlt2 : decide ((pdu.size : Int) < 2) = false := decide_eq_false (by omega)
  have hm' : (v0.tmod 128 != x.f5.f0) = false := bne_eq_false_iff_eq.2 (by rw [Int.tmod_eq_emod_of_nonneg g0]; exact hmod)
  have ht' : (t == 0) = false := beq_eq_false_iff_ne.2 ht
  have h00 : (x.f0 != x.f0) = false := by simp
  obtain ⟨ad, A10, c10, hA, x0, x1, x2, x3, x4, x5, x6, x7, x8, x9, x10, x11, hl10, hi10⟩ := at_T56 R1.out (j : Int) (by omega) (by omega)
  rw [← HX.out] at x0 x1 x2 x3 x4 x5 x6 x7 x8 x9 x10 x11 hl10 hi10
  rw [Int.toNat_natCast] at x0 x1 x2 x3 x4 x5 x6 x7 x8 x9 x10 x11
  subst hA
  have HL := Aside0.mk hl10
  have HI := Aside0.mk hi10
  have HJ4 := Aside0.mk hj4
  clear hl10 hi10 hj4 hmod ht
  go_upto_region 6 with (fail)
  have HKS : Aside0 (∀ w' : World, Below w6.heap.size w6 w' → (w'.cell? ⟨w.heap.size, 0, none⟩ = some (.int .i64 x.f0) ∧ w'.cell? ⟨w.heap.size, 1, none⟩ = some (.int .i64 unit) ∧ w'.cell? ⟨w.heap.size, 2, none⟩ = some (.string pdu) ∧ w'.cell? (ad.add (j * 12)) = some (.int .i64 x.f0) ∧ w'.cell? ⟨(ad.add (j * 12)).block, (ad.add (j * 12)).off + 1, none⟩ = some (.int .i64 x.f1) ∧ w'.cell? ⟨(ad.add (j * 12)).block, (ad.add (j * 12)).off + 2, none⟩ = some (.int .i64 x.f2) ∧ w'.cell? ⟨(ad.add (j * 12)).block, (ad.add (j * 12)).off + 3, none⟩ = some (.int .i64 x.f3) ∧ w'.cell? ⟨(ad.add (j * 12)).block, (ad.add (j * 12)).off + 4, none⟩ = some (.int .i64 x.f4) ∧ w'.cell? ⟨(ad.add (j * 12)).block, (ad.add (j * 12)).off + 5, none⟩ = some (.int .i64 x.f5.f0) ∧ w'.cell? ⟨(ad.add (j * 12)).block, (ad.add (j * 12)).off + 6, none⟩ = some (.int .i64 x.f5.f1) ∧ w'.cell? ⟨(ad.add (j * 12)).block, (ad.add (j * 12)).off + 7, none⟩ = some (.int .i64 x.f5.f2) ∧ w'.cell? ⟨(ad.add (j * 12)).block, (ad.add (j * 12)).off + 8, none⟩ = some (.int .i64 x.f5.f3) ∧ w'.cell? ⟨(ad.add (j * 12)).block, (ad.add (j * 12)).off + 9, none⟩ = some (.int .i64 x.f5.f4) ∧ w'.cell? ⟨(ad.add (j * 12)).block, (ad.add (j * 12)).off + 10, none⟩ = some (.slice A10 x.f5.f5.length c10) ∧ w'.cell? ⟨(ad.add (j * 12)).block, (ad.add (j * 12)).off + 11, none⟩ = some (.int .i64 x.f6))) := Aside0.mk (fun w' hb => ⟨(blk_cell (blk_below K1.out hb) 0).trans rfl, (blk_cell (blk_below K1.out hb) 1).trans rfl, (blk_cell (blk_below K1.out hb) 2).trans rfl, pw_cell_below hb x0, pw_cell_below hb x1, pw_cell_below hb x2, pw_cell_below hb x3, pw_cell_below hb x4, pw_cell_below hb x5, pw_cell_below hb x6, pw_cell_below hb x7, pw_cell_below hb x8, pw_cell_below hb x9, pw_cell_below hb x10, pw_cell_below hb x11⟩)
  clear x0 x1 x2 x3 x4 x5 x6 x7 x8 x9 x10 x11
  have HB := Aside0.mk (below_drew1 (Below.refl w6.heap.size w6))
  refine reg_start (List.range 59) 59 (fun w' => w'.cell? ⟨w.heap.size, 0, none⟩ = some (.int .i64 x.f0) ∧ w'.cell? ⟨w.heap.size, 1, none⟩ = some (.int .i64 unit) ∧ w'.cell? ⟨w.heap.size, 2, none⟩ = some (.string pdu) ∧ w'.cell? (ad.add (j * 12)) = some (.int .i64 x.f0) ∧ w'.cell? ⟨(ad.add (j * 12)).block, (ad.add (j * 12)).off + 1, none⟩ = some (.int .i64 x.f1) ∧ w'.cell? ⟨(ad.add (j * 12)).block, (ad.add (j * 12)).off + 2, none⟩ = some (.int .i64 x.f2) ∧ w'.cell? ⟨(ad.add (j * 12)).block, (ad.add (j * 12)).off + 3, none⟩ = some (.int .i64 x.f3) ∧ w'.cell? ⟨(ad.add (j * 12)).block, (ad.add (j * 12)).off + 4, none⟩ = some (.int .i64 x.f4) ∧ w'.cell? ⟨(ad.add (j * 12)).block, (ad.add (j * 12)).off + 5, none⟩ = some (.int .i64 x.f5.f0) ∧ w'.cell? ⟨(ad.add (j * 12)).block, (ad.add (j * 12)).off + 6, none⟩ = some (.int .i64 x.f5.f1) ∧ w'.cell? ⟨(ad.add (j * 12)).block, (ad.add (j * 12)).off + 7, none⟩ = some (.int .i64 x.f5.f2) ∧ w'.cell? ⟨(ad.add (j * 12)).block, (ad.add (j * 12)).off + 8, none⟩ = some (.int .i64 x.f5.f3) ∧ w'.cell? ⟨(ad.add (j * 12)).block, (ad.add (j * 12)).off + 9, none⟩ = some (.int .i64 x.f5.f4) ∧ w'.cell? ⟨(ad.add (j * 12)).block, (ad.add (j * 12)).off + 10, none⟩ = some (.slice A10 x.f5.f5.length c10) ∧ w'.cell? ⟨(ad.add (j * 12)).block, (ad.add (j * 12)).off + 11, none⟩ = some (.int .i64 x.f6)) (by kernel_rfl) rfl (HKS.out _ HB.out) (fun hHeld => ?_)
  generalize w6.drew = w7 at HB hHeld ⊢
  repeat (first | (refine reg_pure (v := ?_) (a' := ?_) rfl rfl rfl (by kernel_rfl) (fun _ _ _ h => h) (by rfl) ?_ ?_ ?_; rotate_left; (solve | (intro w'; go_simp; with_reducible rfl)); rotate_left; (solve | (simp only [Act.put, List.setIfInBounds_toArray, List.set_cons_zero, List.set_cons_succ, i64_w, i32_w]; rfl))) | (refine reg_skip (a' := ?_) rfl rfl rfl (by rfl) (by kernel_rfl) (fun _ _ _ h => h) ?_ ?_; rotate_left; (solve | (simp only [Act.put, List.setIfInBounds_toArray, List.set_cons_zero, List.set_cons_succ, i64_w, i32_w]; rfl))) | (refine reg_load (v := ?_) (a' := ?_) rfl rfl rfl (by kernel_rfl) (fun _ _ _ h => h) (by rfl) ?_ hHeld ?_ ?_; rotate_left; (solve | (rintro w' ⟨s0, s1, s2, s3, s4, s5, s6, s7, s8, s9, s10, s11, s12, s13, s14⟩; go_simp; with_reducible rfl)); rotate_left; (solve | (simp only [Act.put, List.setIfInBounds_toArray, List.set_cons_zero, List.set_cons_succ, i64_w, i32_w]; rfl)); intro hHeld))
  refine reg_call rfl rfl rfl (by kernel_rfl) (by rfl) Try.func25 (by kernel_rfl) rfl #[.agg #[.int .i64 x.f5.f0, .int .i64 x.f5.f1, .int .i64 x.f5.f2, .int .i64 x.f5.f3, .int .i64 x.f5.f4, .slice A10 x.f5.f5.length c10], .string pdu] rfl (by (try simp only [List.map_toArray, List.map_cons, List.map_nil]); first | done | rfl) ?_
  refine (gatewardenref07_Kind.calls 8000 x.f5.f0 x.f5.f1 x.f5.f2 x.f5.f3 x.f5.f4 A10 c10 x.f5.f5 pdu t _ (Kd.C_below HI.out HB.out) HL.out HK2.out).mono ?_
  rintro e w5 ⟨rfl, hb⟩
  have HN := Aside0.mk (below_step HB.out hb)
  clear HB hb
  have HB := Aside0.mk HN.out
  clear HN
  refine ⟨_, rfl, HKS.out _ HB.out, fun hHeld => ?_⟩
  rintro a' ha'
  simp only [Act.put, List.setIfInBounds_toArray, List.set_cons_zero, List.set_cons_succ, i64_w, i32_w] at ha'
  subst ha'
  repeat (first | (refine reg_pure (v := ?_) (a' := ?_) rfl rfl rfl (by kernel_rfl) (fun _ _ _ h => h) (by rfl) ?_ ?_ ?_; rotate_left; (solve | (intro w'; go_simp; with_reducible rfl)); rotate_left; (solve | (simp only [Act.put, List.setIfInBounds_toArray, List.set_cons_zero, List.set_cons_succ, i64_w, i32_w]; rfl))) | (refine reg_skip (a' := ?_) rfl rfl rfl (by rfl) (by kernel_rfl) (fun _ _ _ h => h) ?_ ?_; rotate_left; (solve | (simp only [Act.put, List.setIfInBounds_toArray, List.set_cons_zero, List.set_cons_succ, i64_w, i32_w]; rfl))) | (refine reg_load (v := ?_) (a' := ?_) rfl rfl rfl (by kernel_rfl) (fun _ _ _ h => h) (by rfl) ?_ hHeld ?_ ?_; rotate_left; (solve | (rintro w' ⟨s0, s1, s2, s3, s4, s5, s6, s7, s8, s9, s10, s11, s12, s13, s14⟩; go_simp; with_reducible rfl)); rotate_left; (solve | (simp only [Act.put, List.setIfInBounds_toArray, List.set_cons_zero, List.set_cons_succ, i64_w, i32_w]; rfl)); intro hHeld))
  refine reg_done (by kernel_rfl) ?_
  go_upto_region 8 with (fail)
  have HN := Aside0.mk (below_drew1 HB.out)
  clear HB hHeld
  have HB := Aside0.mk HN.out
  clear HN
  refine reg_start [0, 1, 3, 2, 4, 5, 6, 7, 8, 9] 10 (fun w' => w'.cell? ⟨w.heap.size, 0, none⟩ = some (.int .i64 x.f0) ∧ w'.cell? ⟨w.heap.size, 1, none⟩ = some (.int .i64 unit) ∧ w'.cell? ⟨w.heap.size, 2, none⟩ = some (.string pdu) ∧ w'.cell? (ad.add (j * 12)) = some (.int .i64 x.f0) ∧ w'.cell? ⟨(ad.add (j * 12)).block, (ad.add (j * 12)).off + 1, none⟩ = some (.int .i64 x.f1) ∧ w'.cell? ⟨(ad.add (j * 12)).block, (ad.add (j * 12)).off + 2, none⟩ = some (.int .i64 x.f2) ∧ w'.cell? ⟨(ad.add (j * 12)).block, (ad.add (j * 12)).off + 3, none⟩ = some (.int .i64 x.f3) ∧ w'.cell? ⟨(ad.add (j * 12)).block, (ad.add (j * 12)).off + 4, none⟩ = some (.int .i64 x.f4) ∧ w'.cell? ⟨(ad.add (j * 12)).block, (ad.add (j * 12)).off + 5, none⟩ = some (.int .i64 x.f5.f0) ∧ w'.cell? ⟨(ad.add (j * 12)).block, (ad.add (j * 12)).off + 6, none⟩ = some (.int .i64 x.f5.f1) ∧ w'.cell? ⟨(ad.add (j * 12)).block, (ad.add (j * 12)).off + 7, none⟩ = some (.int .i64 x.f5.f2) ∧ w'.cell? ⟨(ad.add (j * 12)).block, (ad.add (j * 12)).off + 8, none⟩ = some (.int .i64 x.f5.f3) ∧ w'.cell? ⟨(ad.add (j * 12)).block, (ad.add (j * 12)).off + 9, none⟩ = some (.int .i64 x.f5.f4) ∧ w'.cell? ⟨(ad.add (j * 12)).block, (ad.add (j * 12)).off + 10, none⟩ = some (.slice A10 x.f5.f5.length c10) ∧ w'.cell? ⟨(ad.add (j * 12)).block, (ad.add (j * 12)).off + 11, none⟩ = some (.int .i64 x.f6)) (by kernel_rfl) rfl (HKS.out _ HB.out) (fun hHeld => ?_)
  generalize World.drew w5 = w8 at HB hHeld ⊢
  repeat (first | (refine reg_pure (v := ?_) (a' := ?_) rfl rfl rfl (by kernel_rfl) (fun _ _ _ h => h) (by rfl) ?_ ?_ ?_; rotate_left; (solve | (intro w'; go_simp; with_reducible rfl)); rotate_left; (solve | (simp only [Act.put, List.setIfInBounds_toArray, List.set_cons_zero, List.set_cons_succ, i64_w, i32_w]; rfl))) | (refine reg_skip (a' := ?_) rfl rfl rfl (by rfl) (by kernel_rfl) (fun _ _ _ h => h) ?_ ?_; rotate_left; (solve | (simp only [Act.put, List.setIfInBounds_toArray, List.set_cons_zero, List.set_cons_succ, i64_w, i32_w]; rfl))) | (refine reg_load (v := ?_) (a' := ?_) rfl rfl rfl (by kernel_rfl) (fun _ _ _ h => h) (by rfl) ?_ hHeld ?_ ?_; rotate_left; (solve | (rintro w' ⟨s0, s1, s2, s3, s4, s5, s6, s7, s8, s9, s10, s11, s12, s13, s14⟩; go_simp; with_reducible rfl)); rotate_left; (solve | (simp only [Act.put, List.setIfInBounds_toArray, List.set_cons_zero, List.set_cons_succ, i64_w, i32_w]; rfl)); intro hHeld))
  refine reg_call rfl rfl rfl (by kernel_rfl) (by rfl) Try.func46 (by kernel_rfl) rfl #[.slice (some ad) l0.length c0, .int .i64 (j : Int)] rfl (by (try simp only [List.map_toArray, List.map_cons, List.map_nil]); first | done | rfl) ?_
  refine (gatewardenref20_Drop.calls 100 (fun k => k < w8.heap.size) (some ad) c0 l0 (j : Int) (l0.eraseIdx j) _ (Kd.V_mk HC.out (Kd.C_F heap56 (Kd.C_below R1.out HB.out))) (drop_eq l0 j hj hl80)).mono ?_
  rintro e w5 ⟨vd, rfl, hN, hb⟩
  obtain ⟨A7, c7, rfl⟩ := Kd.V_slice (Kd.N_V (base' := 0) hN)
  have HV7 := Aside0.mk (Kd.V_reads' (Kd.N_V (base' := 0) hN))
  clear hN
  have HN := Aside0.mk (below_step HB.out hb)
  clear HB hb
  have HB := Aside0.mk HN.out
  clear HN
  refine ⟨_, rfl, HKS.out _ HB.out, fun hHeld => ?_⟩
  rintro a' ha'
  simp only [Act.put, List.setIfInBounds_toArray, List.set_cons_zero, List.set_cons_succ, i64_w, i32_w] at ha'
  subst ha'
  repeat (first | (refine reg_pure (v := ?_) (a' := ?_) rfl rfl rfl (by kernel_rfl) (fun _ _ _ h => h) (by rfl) ?_ ?_ ?_; rotate_left; (solve | (intro w'; go_simp; with_reducible rfl)); rotate_left; (solve | (simp only [Act.put, List.setIfInBounds_toArray, List.set_cons_zero, List.set_cons_succ, i64_w, i32_w]; rfl))) | (refine reg_skip (a' := ?_) rfl rfl rfl (by rfl) (by kernel_rfl) (fun _ _ _ h => h) ?_ ?_; rotate_left; (solve | (simp only [Act.put, List.setIfInBounds_toArray, List.set_cons_zero, List.set_cons_succ, i64_w, i32_w]; rfl))) | (refine reg_load (v := ?_) (a' := ?_) rfl rfl rfl (by kernel_rfl) (fun _ _ _ h => h) (by rfl) ?_ hHeld ?_ ?_; rotate_left; (solve | (rintro w' ⟨s0, s1, s2, s3, s4, s5, s6, s7, s8, s9, s10, s11, s12, s13, s14⟩; go_simp; with_reducible rfl)); rotate_left; (solve | (simp only [Act.put, List.setIfInBounds_toArray, List.set_cons_zero, List.set_cons_succ, i64_w, i32_w]; rfl)); intro hHeld))
  refine reg_call rfl rfl rfl (by kernel_rfl) (by rfl) Try.func40 (by kernel_rfl) rfl #[.slice A7 (l0.eraseIdx j).length c7, .agg #[.int .i64 x.f0, .int .i64 unit, .string pdu]] rfl (by (try simp only [List.map_toArray, List.map_cons, List.map_nil]); first | done | rfl) ?_
  refine (match_Find.calls 8000 A7 c7 (l0.eraseIdx j) x.f0 unit pdu 0 false _ HV7.out.2.2 HV7.out.2.1 (by rw [List.length_eraseIdx_of_lt hj]; omega) HNL.out).mono ?_
  rintro e w5 ⟨rfl, hb⟩
  have HN := Aside0.mk (below_step HB.out hb)
  clear HB hb
  have HB := Aside0.mk HN.out
  clear HN
  refine ⟨_, rfl, HKS.out _ HB.out, fun hHeld => ?_⟩
  rintro a' ha'
  simp only [Act.put, List.setIfInBounds_toArray, List.set_cons_zero, List.set_cons_succ, i64_w, i32_w] at ha'
  subst ha'
  repeat (first | (refine reg_pure (v := ?_) (a' := ?_) rfl rfl rfl (by kernel_rfl) (fun _ _ _ h => h) (by rfl) ?_ ?_ ?_; rotate_left; (solve | (intro w'; go_simp; with_reducible rfl)); rotate_left; (solve | (simp only [Act.put, List.setIfInBounds_toArray, List.set_cons_zero, List.set_cons_succ, i64_w, i32_w]; rfl))) | (refine reg_skip (a' := ?_) rfl rfl rfl (by rfl) (by kernel_rfl) (fun _ _ _ h => h) ?_ ?_; rotate_left; (solve | (simp only [Act.put, List.setIfInBounds_toArray, List.set_cons_zero, List.set_cons_succ, i64_w, i32_w]; rfl))) | (refine reg_load (v := ?_) (a' := ?_) rfl rfl rfl (by kernel_rfl) (fun _ _ _ h => h) (by rfl) ?_ hHeld ?_ ?_; rotate_left; (solve | (rintro w' ⟨s0, s1, s2, s3, s4, s5, s6, s7, s8, s9, s10, s11, s12, s13, s14⟩; go_simp; with_reducible rfl)); rotate_left; (solve | (simp only [Act.put, List.setIfInBounds_toArray, List.set_cons_zero, List.set_cons_succ, i64_w, i32_w]; rfl)); intro hHeld))
  refine reg_done (by kernel_rfl) ?_
  go_upto_region 9 with (fail)
  have HN := Aside0.mk (below_drew1 HB.out)
  clear HB hHeld HV7
  have HB := Aside0.mk HN.out
  clear HN
  refine reg_start (List.range 8) 8 (fun w' => w'.cell? ⟨w.heap.size, 0, none⟩ = some (.int .i64 x.f0) ∧ w'.cell? ⟨w.heap.size, 1, none⟩ = some (.int .i64 unit) ∧ w'.cell? ⟨w.heap.size, 2, none⟩ = some (.string pdu) ∧ w'.cell? (ad.add (j * 12)) = some (.int .i64 x.f0) ∧ w'.cell? ⟨(ad.add (j * 12)).block, (ad.add (j * 12)).off + 1, none⟩ = some (.int .i64 x.f1) ∧ w'.cell? ⟨(ad.add (j * 12)).block, (ad.add (j * 12)).off + 2, none⟩ = some (.int .i64 x.f2) ∧ w'.cell? ⟨(ad.add (j * 12)).block, (ad.add (j * 12)).off + 3, none⟩ = some (.int .i64 x.f3) ∧ w'.cell? ⟨(ad.add (j * 12)).block, (ad.add (j * 12)).off + 4, none⟩ = some (.int .i64 x.f4) ∧ w'.cell? ⟨(ad.add (j * 12)).block, (ad.add (j * 12)).off + 5, none⟩ = some (.int .i64 x.f5.f0) ∧ w'.cell? ⟨(ad.add (j * 12)).block, (ad.add (j * 12)).off + 6, none⟩ = some (.int .i64 x.f5.f1) ∧ w'.cell? ⟨(ad.add (j * 12)).block, (ad.add (j * 12)).off + 7, none⟩ = some (.int .i64 x.f5.f2) ∧ w'.cell? ⟨(ad.add (j * 12)).block, (ad.add (j * 12)).off + 8, none⟩ = some (.int .i64 x.f5.f3) ∧ w'.cell? ⟨(ad.add (j * 12)).block, (ad.add (j * 12)).off + 9, none⟩ = some (.int .i64 x.f5.f4) ∧ w'.cell? ⟨(ad.add (j * 12)).block, (ad.add (j * 12)).off + 10, none⟩ = some (.slice A10 x.f5.f5.length c10) ∧ w'.cell? ⟨(ad.add (j * 12)).block, (ad.add (j * 12)).off + 11, none⟩ = some (.int .i64 x.f6)) (by kernel_rfl) rfl (HKS.out _ HB.out) (fun hHeld => ?_)
  generalize World.drew w5 = w8 at HB hHeld ⊢
  repeat (first | (refine reg_pure (v := ?_) (a' := ?_) rfl rfl rfl (by kernel_rfl) (fun _ _ _ h => h) (by rfl) ?_ ?_ ?_; rotate_left; (solve | (intro w'; go_simp; with_reducible rfl)); rotate_left; (solve | (simp only [Act.put, List.setIfInBounds_toArray, List.set_cons_zero, List.set_cons_succ, i64_w, i32_w]; rfl))) | (refine reg_skip (a' := ?_) rfl rfl rfl (by rfl) (by kernel_rfl) (fun _ _ _ h => h) ?_ ?_; rotate_left; (solve | (simp only [Act.put, List.setIfInBounds_toArray, List.set_cons_zero, List.set_cons_succ, i64_w, i32_w]; rfl))) | (refine reg_load (v := ?_) (a' := ?_) rfl rfl rfl (by kernel_rfl) (fun _ _ _ h => h) (by rfl) ?_ hHeld ?_ ?_; rotate_left; (solve | (rintro w' ⟨s0, s1, s2, s3, s4, s5, s6, s7, s8, s9, s10, s11, s12, s13, s14⟩; go_simp; with_reducible rfl)); rotate_left; (solve | (simp only [Act.put, List.setIfInBounds_toArray, List.set_cons_zero, List.set_cons_succ, i64_w, i32_w]; rfl)); intro hHeld))
  refine reg_two (w1 := w8.alloc (.cells #[.int .i64 0, .int .i64 0, .string ⟨#[]⟩] 49)) (v := .pointer (some ⟨w8.heap.size, 0, none⟩)) [0, 1, 2, 3, 4, 5, 6, 7] [0, 1, 2, 3, 4, 6, 5, 7] rfl rfl rfl rfl rfl rfl (by kernel_rfl) (by rfl) (by rfl) Try.func44 (by kernel_rfl) rfl #[.agg #[.int .i64 x.f0, .int .i64 x.f1, .int .i64 x.f2, .int .i64 x.f3, .int .i64 x.f4, .int .i64 x.f5.f0, .int .i64 x.f5.f1, .int .i64 x.f5.f2, .int .i64 x.f5.f3, .int .i64 x.f5.f4, .slice A10 x.f5.f5.length c10, .int .i64 x.f6], .agg #[.int .i64 x.f0, .int .i64 unit, .string pdu]] rfl (by (try simp only [List.map_toArray, List.map_cons, List.map_nil]); first | done | rfl) (by go_simp) (HKS.out _ (below_alloc HB.out _)) ?h1 ?h2
  case h1 =>
    refine (match_Back.calls x.f0 x.f1 x.f2 x.f3 x.f4 x.f5.f0 x.f5.f1 x.f5.f2 x.f5.f3 x.f5.f4 A10 c10 x.f5.f5 x.f6 x.f0 unit pdu x.f3 x.f4 pdu _ (Kd.C_below HI.out HB.out) HL.out rfl).mono ?_
    rintro e w9 ⟨rfl, hb⟩
    have HN := Aside0.mk (below_step HB.out hb)
    clear HB hb
    have HB := Aside0.mk HN.out
    clear HN
    refine ⟨_, rfl, HKS.out _ HB.out, fun hHeld => ?_⟩
    rintro a' ha'
    simp only [Act.put, List.setIfInBounds_toArray, List.set_cons_zero, List.set_cons_succ, i64_w, i32_w] at ha'
    subst ha'
    refine reg_run (w1 := w9.alloc (.cells #[.int .i64 0, .int .i64 0, .string ⟨#[]⟩] 49)) (v := .pointer (some ⟨w9.heap.size, 0, none⟩)) rfl rfl rfl (by kernel_rfl) (by rfl) (by go_simp) (HKS.out _ (below_alloc HB.out _)) (fun hHeld => ?_)
    rintro a' ha'
    simp only [Act.put, List.setIfInBounds_toArray, List.set_cons_zero, List.set_cons_succ, i64_w, i32_w] at ha'
    subst ha'
    refine reg_store (w1 := w9.alloc (.cells #[.int .i64 x.f3, .int .i64 x.f4, .string pdu] 49)) rfl rfl rfl (by kernel_rfl) (by rfl) (by go_simp) (HKS.out _ (below_alloc HB.out _)) (fun hHeld => ?_)
    refine reg_done (by kernel_rfl) ?_
    have G := Aside0.mk (blk_new w9 (.cells #[.int .i64 x.f3, .int .i64 x.f4, .string pdu] 49))
    have HN := Aside0.mk (below_alloc HB.out (.cells #[.int .i64 x.f3, .int .i64 x.f4, .string pdu] 49))
    have HG := Aside0.mk (show w6.heap.size ≤ w9.heap.size from HB.out.size)
    clear HB hHeld
    have HB := Aside0.mk HN.out
    clear HN
    generalize w9.heap.size = g at *
    generalize w9.alloc (.cells #[.int .i64 x.f3, .int .i64 x.f4, .string pdu] 49) = w10 at *
    go_upto_region 10 with (fail)
    have HKT : Aside0 (∀ w' : World, Below w10.heap.size w10 w' → (w'.cell? ⟨w.heap.size, 0, none⟩ = some (.int .i64 x.f0) ∧ w'.cell? ⟨w.heap.size, 1, none⟩ = some (.int .i64 unit) ∧ w'.cell? ⟨w.heap.size, 2, none⟩ = some (.string pdu) ∧ w'.cell? (ad.add (j * 12)) = some (.int .i64 x.f0) ∧ w'.cell? ⟨(ad.add (j * 12)).block, (ad.add (j * 12)).off + 1, none⟩ = some (.int .i64 x.f1) ∧ w'.cell? ⟨(ad.add (j * 12)).block, (ad.add (j * 12)).off + 2, none⟩ = some (.int .i64 x.f2) ∧ w'.cell? ⟨(ad.add (j * 12)).block, (ad.add (j * 12)).off + 3, none⟩ = some (.int .i64 x.f3) ∧ w'.cell? ⟨(ad.add (j * 12)).block, (ad.add (j * 12)).off + 4, none⟩ = some (.int .i64 x.f4) ∧ w'.cell? ⟨(ad.add (j * 12)).block, (ad.add (j * 12)).off + 5, none⟩ = some (.int .i64 x.f5.f0) ∧ w'.cell? ⟨(ad.add (j * 12)).block, (ad.add (j * 12)).off + 6, none⟩ = some (.int .i64 x.f5.f1) ∧ w'.cell? ⟨(ad.add (j * 12)).block, (ad.add (j * 12)).off + 7, none⟩ = some (.int .i64 x.f5.f2) ∧ w'.cell? ⟨(ad.add (j * 12)).block, (ad.add (j * 12)).off + 8, none⟩ = some (.int .i64 x.f5.f3) ∧ w'.cell? ⟨(ad.add (j * 12)).block, (ad.add (j * 12)).off + 9, none⟩ = some (.int .i64 x.f5.f4) ∧ w'.cell? ⟨(ad.add (j * 12)).block, (ad.add (j * 12)).off + 10, none⟩ = some (.slice A10 x.f5.f5.length c10) ∧ w'.cell? ⟨(ad.add (j * 12)).block, (ad.add (j * 12)).off + 11, none⟩ = some (.int .i64 x.f6) ∧ w'.cell? ⟨g, 0, none⟩ = some (.int .i64 x.f3) ∧ w'.cell? ⟨g, 1, none⟩ = some (.int .i64 x.f4) ∧ w'.cell? ⟨g, 2, none⟩ = some (.string pdu))) := Aside0.mk (fun w' hb => by obtain ⟨r0, r1, r2, r3, r4, r5, r6, r7, r8, r9, r10, r11, r12, r13, r14⟩ := HKS.out w' (below_step HB.out hb); obtain ⟨t0, t1, t2⟩ := hcells3 (blk_below G.out hb); exact ⟨r0, r1, r2, r3, r4, r5, r6, r7, r8, r9, r10, r11, r12, r13, r14, t0, t1, t2⟩)
    have D2 := Aside0.mk (below_step D1.out HB.out)
    clear HB G HKS
    have HKS := Aside0.mk HKT.out
    clear HKT
    have HB := Aside0.mk (below_drew1 (Below.refl w10.heap.size w10))
    have hf0 : (x.f3 == x.f3) = true := by simp
    have hf1 : (x.f4 == unit) = true := beq_iff_eq.2 HJ4.out
    refine reg_start (List.range 30) 30 (fun w' => w'.cell? ⟨w.heap.size, 0, none⟩ = some (.int .i64 x.f0) ∧ w'.cell? ⟨w.heap.size, 1, none⟩ = some (.int .i64 unit) ∧ w'.cell? ⟨w.heap.size, 2, none⟩ = some (.string pdu) ∧ w'.cell? (ad.add (j * 12)) = some (.int .i64 x.f0) ∧ w'.cell? ⟨(ad.add (j * 12)).block, (ad.add (j * 12)).off + 1, none⟩ = some (.int .i64 x.f1) ∧ w'.cell? ⟨(ad.add (j * 12)).block, (ad.add (j * 12)).off + 2, none⟩ = some (.int .i64 x.f2) ∧ w'.cell? ⟨(ad.add (j * 12)).block, (ad.add (j * 12)).off + 3, none⟩ = some (.int .i64 x.f3) ∧ w'.cell? ⟨(ad.add (j * 12)).block, (ad.add (j * 12)).off + 4, none⟩ = some (.int .i64 x.f4) ∧ w'.cell? ⟨(ad.add (j * 12)).block, (ad.add (j * 12)).off + 5, none⟩ = some (.int .i64 x.f5.f0) ∧ w'.cell? ⟨(ad.add (j * 12)).block, (ad.add (j * 12)).off + 6, none⟩ = some (.int .i64 x.f5.f1) ∧ w'.cell? ⟨(ad.add (j * 12)).block, (ad.add (j * 12)).off + 7, none⟩ = some (.int .i64 x.f5.f2) ∧ w'.cell? ⟨(ad.add (j * 12)).block, (ad.add (j * 12)).off + 8, none⟩ = some (.int .i64 x.f5.f3) ∧ w'.cell? ⟨(ad.add (j * 12)).block, (ad.add (j * 12)).off + 9, none⟩ = some (.int .i64 x.f5.f4) ∧ w'.cell? ⟨(ad.add (j * 12)).block, (ad.add (j * 12)).off + 10, none⟩ = some (.slice A10 x.f5.f5.length c10) ∧ w'.cell? ⟨(ad.add (j * 12)).block, (ad.add (j * 12)).off + 11, none⟩ = some (.int .i64 x.f6) ∧ w'.cell? ⟨g, 0, none⟩ = some (.int .i64 x.f3) ∧ w'.cell? ⟨g, 1, none⟩ = some (.int .i64 x.f4) ∧ w'.cell? ⟨g, 2, none⟩ = some (.string pdu)) (by kernel_rfl) rfl (HKS.out _ HB.out) (fun hHeld => ?_)
    generalize World.drew w10 = w11 at HB hHeld ⊢
    repeat (first | (refine reg_pure (v := ?_) (a' := ?_) rfl rfl rfl (by kernel_rfl) (fun _ _ _ h => h) (by rfl) ?_ ?_ ?_; rotate_left; (solve | (intro w'; go_simp; with_reducible rfl)); rotate_left; (solve | (simp only [Act.put, List.setIfInBounds_toArray, List.set_cons_zero, List.set_cons_succ, i64_w, i32_w]; rfl))) | (refine reg_skip (a' := ?_) rfl rfl rfl (by rfl) (by kernel_rfl) (fun _ _ _ h => h) ?_ ?_; rotate_left; (solve | (simp only [Act.put, List.setIfInBounds_toArray, List.set_cons_zero, List.set_cons_succ, i64_w, i32_w]; rfl))) | (refine reg_load (v := ?_) (a' := ?_) rfl rfl rfl (by kernel_rfl) (fun _ _ _ h => h) (by rfl) ?_ hHeld ?_ ?_; rotate_left; (solve | (rintro w' ⟨s0, s1, s2, s3, s4, s5, s6, s7, s8, s9, s10, s11, s12, s13, s14, s15, s16, s17⟩; go_simp; with_reducible rfl)); rotate_left; (solve | (simp only [Act.put, List.setIfInBounds_toArray, List.set_cons_zero, List.set_cons_succ, i64_w, i32_w]; rfl)); intro hHeld))
    refine reg_call rfl rfl rfl (by kernel_rfl) (by rfl) Try.func39 (by kernel_rfl) rfl #[] rfl (by (try simp only [List.map_toArray, List.map_cons, List.map_nil]); first | done | rfl) ?_
    refine (awake21_calls _).mono ?_
    rintro e w5 ⟨rfl, hb⟩
    have HN := Aside0.mk (below_step HB.out hb)
    clear HB hb
    have HB := Aside0.mk HN.out
    clear HN
    refine ⟨_, rfl, HKS.out _ HB.out, fun hHeld => ?_⟩
    rintro a' ha'
    simp only [Act.put, List.setIfInBounds_toArray, List.set_cons_zero, List.set_cons_succ, i64_w, i32_w] at ha'
    subst ha'
    repeat (first | (refine reg_pure (v := ?_) (a' := ?_) rfl rfl rfl (by kernel_rfl) (fun _ _ _ h => h) (by rfl) ?_ ?_ ?_; rotate_left; (solve | (intro w'; go_simp; with_reducible rfl)); rotate_left; (solve | (simp only [Act.put, List.setIfInBounds_toArray, List.set_cons_zero, List.set_cons_succ, i64_w, i32_w]; rfl))) | (refine reg_skip (a' := ?_) rfl rfl rfl (by rfl) (by kernel_rfl) (fun _ _ _ h => h) ?_ ?_; rotate_left; (solve | (simp only [Act.put, List.setIfInBounds_toArray, List.set_cons_zero, List.set_cons_succ, i64_w, i32_w]; rfl))) | (refine reg_load (v := ?_) (a' := ?_) rfl rfl rfl (by kernel_rfl) (fun _ _ _ h => h) (by rfl) ?_ hHeld ?_ ?_; rotate_left; (solve | (rintro w' ⟨s0, s1, s2, s3, s4, s5, s6, s7, s8, s9, s10, s11, s12, s13, s14, s15, s16, s17⟩; go_simp; with_reducible rfl)); rotate_left; (solve | (simp only [Act.put, List.setIfInBounds_toArray, List.set_cons_zero, List.set_cons_succ, i64_w, i32_w]; rfl)); intro hHeld))
    refine reg_done (by kernel_rfl) ?_
    go_wp2
    rw [HT.out]
    refine ⟨rfl, ?_⟩
    have D0 := below_step D2.out HB.out
    with_reducible (repeat (first | exact D0 | apply below_drew1 | apply pw_below_drewN))
  case h2 =>
    intro hHeld
    rintro a' ha'
    simp only [Act.put, List.setIfInBounds_toArray, List.set_cons_zero, List.set_cons_succ, i64_w, i32_w] at ha'
    subst ha'
    have HN := Aside0.mk (below_alloc HB.out (.cells #[.int .i64 0, .int .i64 0, .string ⟨#[]⟩] 49))
    have N0 := Aside0.mk (blk_new w8 (.cells #[.int .i64 0, .int .i64 0, .string ⟨#[]⟩] 49))
    have HG := Aside0.mk (show w6.heap.size ≤ w8.heap.size from HB.out.size)
    clear HB
    have HB := Aside0.mk HN.out
    clear HN
    refine reg_call rfl rfl rfl (by kernel_rfl) (by rfl) Try.func44 (by kernel_rfl) rfl #[.agg #[.int .i64 x.f0, .int .i64 x.f1, .int .i64 x.f2, .int .i64 x.f3, .int .i64 x.f4, .int .i64 x.f5.f0, .int .i64 x.f5.f1, .int .i64 x.f5.f2, .int .i64 x.f5.f3, .int .i64 x.f5.f4, .slice A10 x.f5.f5.length c10, .int .i64 x.f6], .agg #[.int .i64 x.f0, .int .i64 unit, .string pdu]] rfl (by (try simp only [List.map_toArray, List.map_cons, List.map_nil]); first | done | rfl) ?_
    refine (match_Back.calls x.f0 x.f1 x.f2 x.f3 x.f4 x.f5.f0 x.f5.f1 x.f5.f2 x.f5.f3 x.f5.f4 A10 c10 x.f5.f5 x.f6 x.f0 unit pdu x.f3 x.f4 pdu _ (Kd.C_below HI.out HB.out) HL.out rfl).mono ?_
    rintro e w5 ⟨rfl, hb⟩
    have N1 := Aside0.mk (blk_below N0.out hb)
    have HN := Aside0.mk (below_step HB.out hb)
    clear HB hb
    have HB := Aside0.mk HN.out
    clear HN
    refine ⟨_, rfl, HKS.out _ HB.out, fun hHeld => ?_⟩
    rintro a' ha'
    simp only [Act.put, List.setIfInBounds_toArray, List.set_cons_zero, List.set_cons_succ, i64_w, i32_w] at ha'
    subst ha'
    generalize w8.heap.size = g at *
    obtain ⟨z0, z1, z2⟩ := hcells3 N1.out
    have zf := blk_frozen N1.out
    refine reg_store (w1 := ((w5.setCell ⟨g, 0, none⟩ (.int .i64 x.f3)).setCell ⟨g, 1, none⟩ (.int .i64 x.f4)).setCell ⟨g, 2, none⟩ (.string pdu)) rfl rfl rfl (by kernel_rfl) (by rfl) (by go_simp) (HKS.out _ (below_cell3 HB.out HG.out)) (fun hHeld => ?_)
    refine reg_done (by kernel_rfl) ?_
    have G := Aside0.mk (put3 (x0 := .int .i64 x.f3) (x1 := .int .i64 x.f4) (x2 := .string pdu) N1.out)
    have HN := Aside0.mk (below_cell3 (v0 := .int .i64 x.f3) (v1 := .int .i64 x.f4) (v2 := .string pdu) HB.out HG.out)
    clear HB hHeld z0 z1 z2 zf N1 N0
    have HB := Aside0.mk HN.out
    clear HN
    generalize ((w5.setCell ⟨g, 0, none⟩ (.int .i64 x.f3)).setCell ⟨g, 1, none⟩ (.int .i64 x.f4)).setCell ⟨g, 2, none⟩ (.string pdu) = w10 at *
    go_upto_region 10 with (fail)
    have HKT : Aside0 (∀ w' : World, Below w10.heap.size w10 w' → (w'.cell? ⟨w.heap.size, 0, none⟩ = some (.int .i64 x.f0) ∧ w'.cell? ⟨w.heap.size, 1, none⟩ = some (.int .i64 unit) ∧ w'.cell? ⟨w.heap.size, 2, none⟩ = some (.string pdu) ∧ w'.cell? (ad.add (j * 12)) = some (.int .i64 x.f0) ∧ w'.cell? ⟨(ad.add (j * 12)).block, (ad.add (j * 12)).off + 1, none⟩ = some (.int .i64 x.f1) ∧ w'.cell? ⟨(ad.add (j * 12)).block, (ad.add (j * 12)).off + 2, none⟩ = some (.int .i64 x.f2) ∧ w'.cell? ⟨(ad.add (j * 12)).block, (ad.add (j * 12)).off + 3, none⟩ = some (.int .i64 x.f3) ∧ w'.cell? ⟨(ad.add (j * 12)).block, (ad.add (j * 12)).off + 4, none⟩ = some (.int .i64 x.f4) ∧ w'.cell? ⟨(ad.add (j * 12)).block, (ad.add (j * 12)).off + 5, none⟩ = some (.int .i64 x.f5.f0) ∧ w'.cell? ⟨(ad.add (j * 12)).block, (ad.add (j * 12)).off + 6, none⟩ = some (.int .i64 x.f5.f1) ∧ w'.cell? ⟨(ad.add (j * 12)).block, (ad.add (j * 12)).off + 7, none⟩ = some (.int .i64 x.f5.f2) ∧ w'.cell? ⟨(ad.add (j * 12)).block, (ad.add (j * 12)).off + 8, none⟩ = some (.int .i64 x.f5.f3) ∧ w'.cell? ⟨(ad.add (j * 12)).block, (ad.add (j * 12)).off + 9, none⟩ = some (.int .i64 x.f5.f4) ∧ w'.cell? ⟨(ad.add (j * 12)).block, (ad.add (j * 12)).off + 10, none⟩ = some (.slice A10 x.f5.f5.length c10) ∧ w'.cell? ⟨(ad.add (j * 12)).block, (ad.add (j * 12)).off + 11, none⟩ = some (.int .i64 x.f6) ∧ w'.cell? ⟨g, 0, none⟩ = some (.int .i64 x.f3) ∧ w'.cell? ⟨g, 1, none⟩ = some (.int .i64 x.f4) ∧ w'.cell? ⟨g, 2, none⟩ = some (.string pdu))) := Aside0.mk (fun w' hb => by obtain ⟨r0, r1, r2, r3, r4, r5, r6, r7, r8, r9, r10, r11, r12, r13, r14⟩ := HKS.out w' (below_step HB.out hb); obtain ⟨t0, t1, t2⟩ := hcells3 (blk_below G.out hb); exact ⟨r0, r1, r2, r3, r4, r5, r6, r7, r8, r9, r10, r11, r12, r13, r14, t0, t1, t2⟩)
    have D2 := Aside0.mk (below_step D1.out HB.out)
    clear HB G HKS
    have HKS := Aside0.mk HKT.out
    clear HKT
    have HB := Aside0.mk (below_drew1 (Below.refl w10.heap.size w10))
    have hf0 : (x.f3 == x.f3) = true := by simp
    have hf1 : (x.f4 == unit) = true := beq_iff_eq.2 HJ4.out
    refine reg_start (List.range 30) 30 (fun w' => w'.cell? ⟨w.heap.size, 0, none⟩ = some (.int .i64 x.f0) ∧ w'.cell? ⟨w.heap.size, 1, none⟩ = some (.int .i64 unit) ∧ w'.cell? ⟨w.heap.size, 2, none⟩ = some (.string pdu) ∧ w'.cell? (ad.add (j * 12)) = some (.int .i64 x.f0) ∧ w'.cell? ⟨(ad.add (j * 12)).block, (ad.add (j * 12)).off + 1, none⟩ = some (.int .i64 x.f1) ∧ w'.cell? ⟨(ad.add (j * 12)).block, (ad.add (j * 12)).off + 2, none⟩ = some (.int .i64 x.f2) ∧ w'.cell? ⟨(ad.add (j * 12)).block, (ad.add (j * 12)).off + 3, none⟩ = some (.int .i64 x.f3) ∧ w'.cell? ⟨(ad.add (j * 12)).block, (ad.add (j * 12)).off + 4, none⟩ = some (.int .i64 x.f4) ∧ w'.cell? ⟨(ad.add (j * 12)).block, (ad.add (j * 12)).off + 5, none⟩ = some (.int .i64 x.f5.f0) ∧ w'.cell? ⟨(ad.add (j * 12)).block, (ad.add (j * 12)).off + 6, none⟩ = some (.int .i64 x.f5.f1) ∧ w'.cell? ⟨(ad.add (j * 12)).block, (ad.add (j * 12)).off + 7, none⟩ = some (.int .i64 x.f5.f2) ∧ w'.cell? ⟨(ad.add (j * 12)).block, (ad.add (j * 12)).off + 8, none⟩ = some (.int .i64 x.f5.f3) ∧ w'.cell? ⟨(ad.add (j * 12)).block, (ad.add (j * 12)).off + 9, none⟩ = some (.int .i64 x.f5.f4) ∧ w'.cell? ⟨(ad.add (j * 12)).block, (ad.add (j * 12)).off + 10, none⟩ = some (.slice A10 x.f5.f5.length c10) ∧ w'.cell? ⟨(ad.add (j * 12)).block, (ad.add (j * 12)).off + 11, none⟩ = some (.int .i64 x.f6) ∧ w'.cell? ⟨g, 0, none⟩ = some (.int .i64 x.f3) ∧ w'.cell? ⟨g, 1, none⟩ = some (.int .i64 x.f4) ∧ w'.cell? ⟨g, 2, none⟩ = some (.string pdu)) (by kernel_rfl) rfl (HKS.out _ HB.out) (fun hHeld => ?_)
    generalize World.drew w10 = w11 at HB hHeld ⊢
    repeat (first | (refine reg_pure (v := ?_) (a' := ?_) rfl rfl rfl (by kernel_rfl) (fun _ _ _ h => h) (by rfl) ?_ ?_ ?_; rotate_left; (solve | (intro w'; go_simp; with_reducible rfl)); rotate_left; (solve | (simp only [Act.put, List.setIfInBounds_toArray, List.set_cons_zero, List.set_cons_succ, i64_w, i32_w]; rfl))) | (refine reg_skip (a' := ?_) rfl rfl rfl (by rfl) (by kernel_rfl) (fun _ _ _ h => h) ?_ ?_; rotate_left; (solve | (simp only [Act.put, List.setIfInBounds_toArray, List.set_cons_zero, List.set_cons_succ, i64_w, i32_w]; rfl))) | (refine reg_load (v := ?_) (a' := ?_) rfl rfl rfl (by kernel_rfl) (fun _ _ _ h => h) (by rfl) ?_ hHeld ?_ ?_; rotate_left; (solve | (rintro w' ⟨s0, s1, s2, s3, s4, s5, s6, s7, s8, s9, s10, s11, s12, s13, s14, s15, s16, s17⟩; go_simp; with_reducible rfl)); rotate_left; (solve | (simp only [Act.put, List.setIfInBounds_toArray, List.set_cons_zero, List.set_cons_succ, i64_w, i32_w]; rfl)); intro hHeld))
    refine reg_call rfl rfl rfl (by kernel_rfl) (by rfl) Try.func39 (by kernel_rfl) rfl #[] rfl (by (try simp only [List.map_toArray, List.map_cons, List.map_nil]); first | done | rfl) ?_
    refine (awake21_calls _).mono ?_
    rintro e w5 ⟨rfl, hb⟩
    have HN := Aside0.mk (below_step HB.out hb)
    clear HB hb
    have HB := Aside0.mk HN.out
    clear HN
    refine ⟨_, rfl, HKS.out _ HB.out, fun hHeld => ?_⟩
    rintro a' ha'
    simp only [Act.put, List.setIfInBounds_toArray, List.set_cons_zero, List.set_cons_succ, i64_w, i32_w] at ha'
    subst ha'
    repeat (first | (refine reg_pure (v := ?_) (a' := ?_) rfl rfl rfl (by kernel_rfl) (fun _ _ _ h => h) (by rfl) ?_ ?_ ?_; rotate_left; (solve | (intro w'; go_simp; with_reducible rfl)); rotate_left; (solve | (simp only [Act.put, List.setIfInBounds_toArray, List.set_cons_zero, List.set_cons_succ, i64_w, i32_w]; rfl))) | (refine reg_skip (a' := ?_) rfl rfl rfl (by rfl) (by kernel_rfl) (fun _ _ _ h => h) ?_ ?_; rotate_left; (solve | (simp only [Act.put, List.setIfInBounds_toArray, List.set_cons_zero, List.set_cons_succ, i64_w, i32_w]; rfl))) | (refine reg_load (v := ?_) (a' := ?_) rfl rfl rfl (by kernel_rfl) (fun _ _ _ h => h) (by rfl) ?_ hHeld ?_ ?_; rotate_left; (solve | (rintro w' ⟨s0, s1, s2, s3, s4, s5, s6, s7, s8, s9, s10, s11, s12, s13, s14, s15, s16, s17⟩; go_simp; with_reducible rfl)); rotate_left; (solve | (simp only [Act.put, List.setIfInBounds_toArray, List.set_cons_zero, List.set_cons_succ, i64_w, i32_w]; rfl)); intro hHeld))
    refine reg_done (by kernel_rfl) ?_
    go_wp2
    rw [HT.out]
    refine ⟨rfl, ?_⟩
    have D0 := below_step D2.out HB.out
    with_reducible (repeat (first | exact D0 | apply below_drew1 | apply pw_below_drewN))
end Go.Proofs.Ytinoabkfekomcaa.AskAskSizes
