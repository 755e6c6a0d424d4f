/- The laws GuardTells, GuardBack, GuardRises, walked by hand. -/
import Derived.Test.YtjllahglfpbemaaDoorGuardPure2
namespace Go.Proofs.YtjllahglfpbemaaDoor.PGuardTells
open Go Go.RowKit Go.Proofs.YtjllahglfpbemaaDoorW.PrintWords Go.Proofs.YtjllahglfpbemaaDoorW.PrintLast Go.Proofs.YtjllahglfpbemaaDoorW.PrintMore
set_option maxHeartbeats 2000000
set_option maxRecDepth 100000
set_option linter.unusedVariables false
set_option linter.unusedSimpArgs false
theorem Tab.on {w w' : World} (h : Tab w) (hb : Below w.heap.size w w') : Tab w' := Go.Lib.tabBelow_of_tabIs h w' hb
theorem guard_Lead_eq (s : ByteArray) (w : World) (hm : s.size ≤ 1000000) : Calls Tryd.prog 31 #[.string s] w fun e w' => e = .returned (.int .i64 ((lead s.data.toList : Nat) : Int)) ∧ Below w.heap.size w w' := by
  have h := guard_Lead_calls s w
  have e : wrap64 ((s.size : Int) - ((Lib.trimLeftS s.data.toList ten).length : Int)) = ((lead s.data.toList : Nat) : Int) := by
    rw [size_list] at hm
    have h1 := lead_le s.data.toList
    rw [size_list, trim_length, w64 (by omega) (by omega)]
    omega
  rw [e] at h
  exact h
theorem awake02 (w : World) (ht : Tab w) : Calls Tryd.prog 26 #[] w fun e w' => e = .returned (.bool true) ∧ Below w.heap.size w w' := by
  have g1 : ∀ w, Calls Tryd.prog 29 #[.string ⟨#[48, 48, 55]⟩] w fun e w' => e = .returned (.tuple #[.int .i64 0, .bool false]) ∧ Below w.heap.size w w' := fun w => guard_Get_calls ⟨#[48, 48, 55]⟩ w (by decide)
  have g2 : ∀ w, Calls Tryd.prog 29 #[.string ⟨#[55]⟩] w fun e w' => e = .returned (.tuple #[.int .i64 7, .bool true]) ∧ Below w.heap.size w w' := fun w => guard_Get_calls ⟨#[55]⟩ w (by decide)
  have g3 : ∀ w, Tab w → Calls Tryd.prog 27 #[.int .i64 0] w fun e w' => e = .returned (.tuple #[.string ⟨#[48]⟩, .bool true]) ∧ Below w.heap.size w w' := fun w ht => by
    have := guard_Put_calls 0 w (by decide) (by decide) ht
    rw [if_neg (by decide), show Lib.itoa 0 = [48] from (Go.Lib.itoa_nonneg 0).trans (dec_small (by decide))] at this
    exact this
  have g4 : ∀ w, Calls Tryd.prog 31 #[.string ⟨#[49, 50, 120]⟩] w fun e w' => e = .returned (.int .i64 2) ∧ Below w.heap.size w w' := fun w => guard_Lead_eq ⟨#[49, 50, 120]⟩ w (by decide)
  obtain ⟨T, hT⟩ : ∃ T : Ending → World → Prop, T = fun e w' => e = .returned (.bool true) ∧ Below w.heap.size w w' := ⟨_, rfl⟩
  have HT := Aside0.mk hT
  rw [← hT]
  clear hT
  have G1 := Aside0.mk g1
  have G2 := Aside0.mk g2
  have G3 := Aside0.mk g3
  have G4 := Aside0.mk g4
  clear g1 g2 g3 g4
  go_enter Tryd.func26, Tryd.ntmps26
  go_wp2_with fail
  refine (G1.out _).mono ?_
  rintro e w1 ⟨rfl, h1⟩
  go_wp2_with fail
  refine (G2.out _).mono ?_
  rintro e w2 ⟨rfl, h2⟩
  go_wp2_with fail
  refine (G3.out _ ((ht.on h1).on h2)).mono ?_
  rintro e w3 ⟨rfl, h3⟩
  go_wp2_with fail
  refine (G4.out _).mono ?_
  rintro e w4 ⟨rfl, h4⟩
  go_wp2_with fail
  rw [HT.out]
  exact ⟨rfl, below_step (below_step (below_step h1 h2) h3) h4⟩
theorem put_in {n : Int} (h : 0 ≤ n ∧ n ≤ 9007199254740992) (w : World) (ht : Tab w) : Calls Tryd.prog 27 #[.int .i64 n] w fun e w' => e = .returned (.tuple #[.string (strOf (Lib.decDigits n.toNat)), .bool true]) ∧ Below w.heap.size w w' := by
  have := guard_Put_calls n w (by omega) (by omega) ht
  rw [if_neg (by omega), show Lib.itoa n = Lib.decDigits n.toNat from by unfold Lib.itoa; rw [if_neg (by omega)]] at this
  exact this
theorem put_out {n : Int} (h0 : -9223372036854775808 ≤ n) (h1 : n ≤ 9223372036854775807) (h : n < 0 ∨ 9007199254740992 < n) (w : World) (ht : Tab w) : Calls Tryd.prog 27 #[.int .i64 n] w fun e w' => e = .returned (.tuple #[.string (strOf []), .bool false]) ∧ Below w.heap.size w w' := by
  have := guard_Put_calls n w h0 h1 ht
  rw [if_pos h] at this
  exact this
/-- guard.Put, whatever the number. -/
theorem put_any (n : Int) (h0 : -9223372036854775808 ≤ n) (h1 : n ≤ 9223372036854775807) : ∃ (l : List UInt8) (p : Bool), (p = decide (0 ≤ n ∧ n ≤ 9007199254740992)) ∧ (p = true → l = Lib.decDigits n.toNat) ∧ (p = false → l = []) ∧ ∀ (w : World), Tab w → Calls Tryd.prog 27 #[.int .i64 n] w fun e w' => e = .returned (.tuple #[.string (strOf l), .bool p]) ∧ Below w.heap.size w w' := by
  by_cases h : 0 ≤ n ∧ n ≤ 9007199254740992
  · exact ⟨_, true, (decide_eq_true h).symm, fun _ => rfl, (fun h => by cases h), fun w ht => put_in h w ht⟩
  · exact ⟨[], false, (decide_eq_false h).symm, (fun h => by cases h), fun _ => rfl, fun w ht => put_out h0 h1 (by omega) w ht⟩
theorem strOf_size (l : List UInt8) : (strOf l).size = l.length := by rw [size_list, strOf_list]
theorem strOf_toList (l : List UInt8) : (strOf l).toList = l := by rw [Lib.toList_data, strOf_list]
theorem GuardRises_calls (a b : Int) (w : World) (ht : Tab w) (ha : -9223372036854775808 ≤ a ∧ a ≤ 9223372036854775807) (hb : -9223372036854775808 ≤ b ∧ b ≤ 9223372036854775807) :
    Calls Tryd.prog 10 #[.int .i64 a, .int .i64 b] w fun e w' => e = .returned (.bool true) ∧ Below w.heap.size w w' := by
  obtain ⟨l, p, hp, hp1, hp0, cp⟩ := put_any a ha.1 ha.2
  obtain ⟨m, q, hq, hq1, hq0, cq⟩ := put_any b hb.1 hb.2
  obtain ⟨T, hT⟩ : ∃ T : Ending → World → Prop, T = fun e w' => e = .returned (.bool true) ∧ Below w.heap.size w w' := ⟨_, rfl⟩
  have HT := Aside0.mk hT
  rw [← hT]
  clear hT
  have CP := Aside0.mk cp
  have CQ := Aside0.mk cq
  have HH := Aside0.mk (show p = true → q = true → ((l.length < m.length ∧ a < b) ∨ (m.length < l.length ∧ b < a) ∨ (l.length = m.length ∧ Op.bytesLess l m = decide (a < b))) ∧ (l = m ↔ a = b) from fun h1 h2 => by
    rw [h1] at hp; rw [h2] at hq
    have h3 := of_decide_eq_true hp.symm
    have h4 := of_decide_eq_true hq.symm
    rw [hp1 h1, hq1 h2]
    refine ⟨?_, ?_⟩
    · rcases rises (a := a.toNat) (b := b.toNat) (by omega) (by omega) with ⟨h5, h6⟩ | ⟨h5, h6⟩ | ⟨h5, h6⟩
      · exact .inl ⟨h5, by omega⟩
      · exact .inr (.inl ⟨h5, by omega⟩)
      · exact .inr (.inr ⟨h5, by rw [h6]; exact decide_eq_decide.2 (by omega)⟩)
    · constructor
      · intro h; have := dec_inj (a := a.toNat) (b := b.toNat) (by omega) (by omega) h; omega
      · rintro rfl; rfl)
  clear hp hp1 hp0 cp hq hq1 hq0 cq ha hb
  have hls := strOf_size l
  have hms := strOf_size m
  have hll := strOf_toList l
  have hml := strOf_toList m
  generalize strOf l = sl at CP hls hll
  generalize strOf m = sm at CQ hms hml
  cases p with
  | false =>
    go_enter Tryd.func10, Tryd.ntmps10
    go_wp2_with fail
    refine (CP.out _ ht).mono ?_
    rintro e w1 ⟨rfl, h1⟩
    go_wp2_with fail
    refine (CQ.out _ (ht.on h1)).mono ?_
    rintro e w2 ⟨rfl, h2⟩
    go_wp2_with fail
    refine (awake02 _ ((ht.on h1).on h2)).mono ?_
    rintro e w3 ⟨rfl, h3⟩
    go_wp2_with fail
    rw [HT.out]
    exact ⟨rfl, below_step (below_step h1 h2) h3⟩
  | true =>
  cases q with
  | false =>
    go_enter Tryd.func10, Tryd.ntmps10
    go_wp2_with fail
    refine (CP.out _ ht).mono ?_
    rintro e w1 ⟨rfl, h1⟩
    go_wp2_with fail
    refine (CQ.out _ (ht.on h1)).mono ?_
    rintro e w2 ⟨rfl, h2⟩
    go_wp2_with fail
    refine (awake02 _ ((ht.on h1).on h2)).mono ?_
    rintro e w3 ⟨rfl, h3⟩
    go_wp2_with fail
    rw [HT.out]
    exact ⟨rfl, below_step (below_step h1 h2) h3⟩
  | true =>
  obtain ⟨hcase, heq⟩ := HH.out rfl rfl
  have hE : (sl.toList == sm.toList) = (a == b) := by
    rw [hll, hml, Bool.eq_iff_iff, beq_iff_eq, beq_iff_eq]; exact heq
  obtain ⟨eb, heb⟩ : ∃ eb, eb = (a == b) := ⟨_, rfl⟩
  rw [← heb] at hE
  have heb' := heb.symm
  clear heb heq HH
  rcases hcase with ⟨h5, h6⟩ | ⟨h5, h6⟩ | ⟨h5, h6⟩
  · have d1 : decide (sl.size < sm.size) = true := decide_eq_true (by omega)
    have d2 : decide (a < b) = true := decide_eq_true h6
    clear h5 h6 hls hms hll hml
    go_enter Tryd.func10, Tryd.ntmps10
    go_wp2_with fail
    refine (CP.out _ ht).mono ?_
    rintro e w1 ⟨rfl, h1⟩
    go_wp2_with fail
    refine (CQ.out _ (ht.on h1)).mono ?_
    rintro e w2 ⟨rfl, h2⟩
    go_wp2_with fail
    refine (awake02 _ ((ht.on h1).on h2)).mono ?_
    rintro e w3 ⟨rfl, h3⟩
    go_wp2_with fail
    rw [HT.out]
    exact ⟨rfl, below_step (below_step h1 h2) h3⟩
  · have d1 : decide (sl.size < sm.size) = false := decide_eq_false (by omega)
    have d2 : decide (a < b) = false := decide_eq_false (by omega)
    have d3 : ((sl.size : Int) == (sm.size : Int)) = false := beq_eq_false_iff_ne.2 (by omega)
    have d4 : ¬ (sl.size : Int) = (sm.size : Int) := by omega
    clear h5 h6 hls hms hll hml
    go_enter Tryd.func10, Tryd.ntmps10
    go_wp2_with fail
    refine (CP.out _ ht).mono ?_
    rintro e w1 ⟨rfl, h1⟩
    go_wp2_with fail
    refine (CQ.out _ (ht.on h1)).mono ?_
    rintro e w2 ⟨rfl, h2⟩
    go_wp2_with fail
    refine (awake02 _ ((ht.on h1).on h2)).mono ?_
    rintro e w3 ⟨rfl, h3⟩
    go_wp2_with fail
    rw [HT.out]
    exact ⟨rfl, below_step (below_step h1 h2) h3⟩
  · have d1 : decide (sl.size < sm.size) = false := decide_eq_false (by omega)
    have d5 : sl.size = sm.size := by omega
    have d3 : ((sl.size : Int) == (sm.size : Int)) = true := by rw [beq_iff_eq]; omega
    have d4 : (sl.size : Int) = (sm.size : Int) := by omega
    have d6 : Op.bytesLess sl.toList sm.toList = decide (a < b) := by rw [hll, hml]; exact h6
    obtain ⟨lb, hlb⟩ : ∃ lb, lb = decide (a < b) := ⟨_, rfl⟩
    rw [← hlb] at d6
    have hlb' := hlb.symm
    clear h5 h6 hls hms hll hml hlb
    go_enter Tryd.func10, Tryd.ntmps10
    go_wp2_with fail
    refine (CP.out _ ht).mono ?_
    rintro e w1 ⟨rfl, h1⟩
    go_wp2_with fail
    refine (CQ.out _ (ht.on h1)).mono ?_
    rintro e w2 ⟨rfl, h2⟩
    go_wp2_with fail
    refine (awake02 _ ((ht.on h1).on h2)).mono ?_
    rintro e w3 ⟨rfl, h3⟩
    go_wp2_with fail
    rw [HT.out]
    exact ⟨rfl, below_step (below_step h1 h2) h3⟩
theorem getV_P (o : Option Int) : getV o = .tuple #[.int .i64 (getP o).1, .bool (getP o).2] := by cases o <;> rfl
theorem get_calls (s : ByteArray) (w : World) (hm : s.size ≤ 1000000) : Calls Tryd.prog 29 #[.string s] w fun e w' => e = .returned (.tuple #[.int .i64 (getP (readF s.data.toList)).1, .bool (getP (readF s.data.toList)).2]) ∧ Below w.heap.size w w' := by
  rw [← getV_P]
  exact guard_Get_calls s w hm
theorem GuardTells_calls (n : Int) (s : ByteArray) (w : World) (ht : Tab w) (hn : -9223372036854775808 ≤ n ∧ n ≤ 9223372036854775807) :
    Calls Tryd.prog 8 #[.int .i64 n, .string s] w fun e w' => e = .returned (.bool true) ∧ Below w.heap.size w w' := by
  obtain ⟨T, hT⟩ : ∃ T : Ending → World → Prop, T = fun e w' => e = .returned (.bool true) ∧ Below w.heap.size w w' := ⟨_, rfl⟩
  have HT := Aside0.mk hT
  rw [← hT]
  clear hT
  by_cases hs : (s.size : Int) > 100
  · have hd : decide ((s.size : Int) > 100) = true := decide_eq_true hs
    have hd2 : decide (s.size > 100) = true := decide_eq_true (by omega)
    go_enter Tryd.func8, Tryd.ntmps8
    go_wp2_with fail
    refine (awake02 _ ht).mono ?_
    rintro e w3 ⟨rfl, h3⟩
    go_wp2_with fail
    rw [HT.out]
    exact ⟨rfl, h3⟩
  have hd : decide ((s.size : Int) > 100) = false := decide_eq_false hs
  have hl : s.data.toList.length ≤ 100 := by rw [← size_list]; omega
  obtain ⟨l, p, hp, hp1, hp0, cp⟩ := put_any n hn.1 hn.2
  have CP := Aside0.mk cp
  have R1 := Aside0.mk (show gatewardenref02_Put.f 2000 n = some (strOf l, p) from by
    rw [refPut_eq n 2000 (by omega)]
    cases p with
    | true =>
      have h3 := of_decide_eq_true hp.symm
      rw [if_neg (by omega), hp1 rfl]
    | false =>
      have h3 := of_decide_eq_false hp.symm
      rw [if_pos (by omega), hp0 rfl]; rfl)
  clear hp hp1 hp0 cp
  generalize strOf l = a at CP R1
  have G := Aside0.mk (fun w => get_calls s w (by rw [size_list]; omega))
  have R2 := Aside0.mk (refGet_eq s hl)
  obtain ⟨gn, gp, hgp⟩ : ∃ gn gp, getP (readF s.data.toList) = (gn, gp) := ⟨_, _, rfl⟩
  simp only [hgp] at G R2
  have L := Aside0.mk (fun w => guard_Lead_eq s w (by rw [size_list]; omega))
  have R3 := Aside0.mk (refLead_eq s (by omega) 2000 (by omega))
  generalize ((lead s.data.toList : Nat) : Int) = ld at L R3
  have he : (a.toList == a.toList) = true := beq_self_eq_true _
  go_enter Tryd.func8, Tryd.ntmps8
  go_wp2_with fail
  refine (CP.out _ ht).mono ?_
  rintro e w1 ⟨rfl, h1⟩
  go_wp2_with fail
  refine (gatewardenref02_Put.calls 2000 n a p _ R1.out).mono ?_
  rintro e w2 ⟨rfl, h2⟩
  have t2 := Aside0.mk ((ht.on h1).on h2)
  have b2 := Aside0.mk (below_step h1 h2)
  clear h1 h2
  go_wp2_with fail
  refine (G.out _).mono ?_
  rintro e w3 ⟨rfl, h3⟩
  go_wp2_with fail
  refine (gatewardenref02_Get.calls 2000 s gn gp _ R2.out).mono ?_
  rintro e w4 ⟨rfl, h4⟩
  have t4 := Aside0.mk ((t2.out.on h3).on h4)
  have b4 := Aside0.mk (below_step (below_step b2.out h3) h4)
  clear h3 h4
  go_wp2_with fail
  refine (awake02 _ t4.out).mono ?_
  rintro e w5 ⟨rfl, h5⟩
  have b5 := Aside0.mk (below_step b4.out h5)
  clear h5
  go_wp2_with fail
  refine (L.out _).mono ?_
  rintro e w6 ⟨rfl, h6⟩
  go_wp2_with fail
  refine (gatewardenref02_Lead.calls 2000 s ld _ R3.out).mono ?_
  rintro e w7 ⟨rfl, h7⟩
  have b7 := Aside0.mk (below_step (below_step b5.out h6) h7.below)
  clear h6 h7
  go_wp2_with fail
  rw [HT.out]
  exact ⟨rfl, b7.out⟩
theorem GuardBack_calls (n : Int) (s : ByteArray) (w : World) (ht : Tab w) (hn : -9223372036854775808 ≤ n ∧ n ≤ 9223372036854775807) :
    Calls Tryd.prog 9 #[.int .i64 n, .string s] w fun e w' => e = .returned (.bool true) ∧ Below w.heap.size w w' := by
  obtain ⟨T, hT⟩ : ∃ T : Ending → World → Prop, T = fun e w' => e = .returned (.bool true) ∧ Below w.heap.size w w' := ⟨_, rfl⟩
  have HT := Aside0.mk hT
  rw [← hT]
  clear hT
  by_cases hs : (s.size : Int) > 100
  · have hd : decide ((s.size : Int) > 100) = true := decide_eq_true hs
    have hd2 : decide (s.size > 100) = true := decide_eq_true (by omega)
    go_enter Tryd.func9, Tryd.ntmps9
    go_wp2_with fail
    refine (awake02 _ ht).mono ?_
    rintro e w3 ⟨rfl, h3⟩
    go_wp2_with fail
    rw [HT.out]
    exact ⟨rfl, h3⟩
  have hd : decide ((s.size : Int) > 100) = false := decide_eq_false hs
  have hl : s.data.toList.length ≤ 100 := by rw [← size_list]; omega
  obtain ⟨l, p, hp, hp1, hp0, cp⟩ := put_any n hn.1 hn.2
  have CP := Aside0.mk cp
  have hll : l.length ≤ 16 := by
    cases p with
    | true =>
      have h3 := of_decide_eq_true hp.symm
      rw [hp1 rfl, Go.Lib.decDigits_length]
      exact nDigits_M (by omega)
    | false => rw [hp0 rfl]; exact Nat.zero_le _
  -- what comes back of the digits
  obtain ⟨m, hm, hmp⟩ : ∃ m : Int, getP (readF l) = (m, p) ∧ (p = true → m = n) := by
    cases p with
    | true =>
      have h3 := of_decide_eq_true hp.symm
      exact ⟨n, by rw [(readF_iff _ _).2 ⟨h3.1, h3.2, hp1 rfl⟩]; rfl, fun _ => rfl⟩
    | false => exact ⟨0, by rw [hp0 rfl]; rfl, (fun h => by cases h)⟩
  have G1 := Aside0.mk (fun w => get_calls (strOf l) w (by rw [strOf_size]; omega))
  rw [strOf_list, hm] at G1
  have L1 := Aside0.mk (fun w => guard_Lead_eq (strOf l) w (by rw [strOf_size]; omega))
  rw [strOf_list] at L1
  have hlead : p = true → ((lead l : Nat) : Int) = (l.length : Int) := fun h => by rw [hp1 h, lead_dec]
  have hsz := strOf_size l
  generalize strOf l = a at CP G1 L1 hsz
  -- what comes of the text
  have G2 := Aside0.mk (fun w => get_calls s w (by rw [size_list]; omega))
  obtain ⟨k, u, hk, hku, hk0⟩ : ∃ (k : Int) (u : Bool), getP (readF s.data.toList) = (k, u) ∧ (u = true → s.data.toList = Lib.decDigits k.toNat) ∧ 0 ≤ k ∧ k ≤ 9007199254740992 := by
    cases hr : readF s.data.toList with
    | none => exact ⟨0, false, rfl, (fun h => by cases h), by omega, by omega⟩
    | some k =>
      obtain ⟨h1, h2, h3⟩ := (readF_iff _ _).1 hr
      exact ⟨k, true, rfl, fun _ => h3, h1, h2⟩
  rw [hk] at G2
  have CK := Aside0.mk (fun w ht => put_in (n := k) hk0 w ht)
  have L2 := Aside0.mk (fun w => guard_Lead_eq s w (by rw [size_list]; omega))
  have hle2 : u = true → ((lead s.data.toList : Nat) : Int) = (s.size : Int) := fun h => by rw [size_list, hku h, lead_dec]
  have hbs : u = true → ((strOf (Lib.decDigits k.toNat)).toList == s.toList) = true := fun h => by rw [strOf_toList, Lib.toList_data, hku h]; exact beq_self_eq_true _
  generalize strOf (Lib.decDigits k.toNat) = b at CK hbs
  generalize ((lead s.data.toList : Nat) : Int) = ld2 at L2 hle2
  generalize ((lead l : Nat) : Int) = ld1 at L1 hlead
  have hlead' : p = true → ld1 = (a.size : Int) := fun h => by rw [hlead h, hsz]
  clear hp1 hp0 cp hll hm hlead hsz hk hku hk0 hn
  cases p with
  | false =>
    clear hmp hlead'
    by_cases q0 : 0 ≤ n
    · have d0 : decide (n ≥ 0) = true := decide_eq_true q0
      have d0' : decide (0 ≤ n) = true := decide_eq_true q0
      have q1 : ¬ n ≤ 9007199254740992 := by have := of_decide_eq_false hp.symm; omega
      have d1 : decide (n ≤ 9007199254740992) = false := decide_eq_false q1
      clear hp q0 q1
      cases u with
      | false =>
        clear hle2 hbs
        go_enter Tryd.func9, Tryd.ntmps9
        go_wp2_with fail
        refine (CP.out _ ht).mono ?_
        rintro e w1 ⟨rfl, h1⟩
        go_wp2_with fail
        refine (G1.out _).mono ?_
        rintro e w2 ⟨rfl, h2⟩
        go_wp2_with fail
        refine (G2.out _).mono ?_
        rintro e w3 ⟨rfl, h3⟩
        have t3 := Aside0.mk (((ht.on h1).on h2).on h3)
        have b3 := Aside0.mk (below_step (below_step h1 h2) h3)
        clear h1 h2 h3
        go_wp2_with fail
        refine (CK.out _ t3.out).mono ?_
        rintro e w4 ⟨rfl, h4⟩
        have t4 := Aside0.mk (t3.out.on h4)
        have b4 := Aside0.mk (below_step b3.out h4)
        clear h4
        go_wp2_with fail
        refine (awake02 _ t4.out).mono ?_
        rintro e w5 ⟨rfl, h5⟩
        have b5 := Aside0.mk (below_step b4.out h5)
        clear h5
        go_wp2_with fail
        rw [HT.out]
        exact ⟨rfl, b5.out⟩
      | true =>
        have e3 := hle2 rfl
        have e4 := hbs rfl
        subst e3
        clear hle2 hbs
        go_enter Tryd.func9, Tryd.ntmps9
        go_wp2_with fail
        refine (CP.out _ ht).mono ?_
        rintro e w1 ⟨rfl, h1⟩
        go_wp2_with fail
        refine (G1.out _).mono ?_
        rintro e w2 ⟨rfl, h2⟩
        go_wp2_with fail
        refine (G2.out _).mono ?_
        rintro e w3 ⟨rfl, h3⟩
        have t3 := Aside0.mk (((ht.on h1).on h2).on h3)
        have b3 := Aside0.mk (below_step (below_step h1 h2) h3)
        clear h1 h2 h3
        go_wp2_with fail
        refine (CK.out _ t3.out).mono ?_
        rintro e w4 ⟨rfl, h4⟩
        have t4 := Aside0.mk (t3.out.on h4)
        have b4 := Aside0.mk (below_step b3.out h4)
        clear h4
        go_wp2_with fail
        refine (awake02 _ t4.out).mono ?_
        rintro e w5 ⟨rfl, h5⟩
        have b5 := Aside0.mk (below_step b4.out h5)
        clear h5
        go_wp2_with fail
        refine (L2.out _).mono ?_
        rintro e w6 ⟨rfl, h6⟩
        have b6 := Aside0.mk (below_step b5.out h6)
        clear h6
        go_wp2_with fail
        rw [HT.out]
        exact ⟨rfl, b6.out⟩
    · have d0 : decide (n ≥ 0) = false := decide_eq_false q0
      have d0' : decide (0 ≤ n) = false := decide_eq_false q0
      clear hp q0
      cases u with
      | false =>
        clear hle2 hbs
        go_enter Tryd.func9, Tryd.ntmps9
        go_wp2_with fail
        refine (CP.out _ ht).mono ?_
        rintro e w1 ⟨rfl, h1⟩
        go_wp2_with fail
        refine (G1.out _).mono ?_
        rintro e w2 ⟨rfl, h2⟩
        go_wp2_with fail
        refine (G2.out _).mono ?_
        rintro e w3 ⟨rfl, h3⟩
        have t3 := Aside0.mk (((ht.on h1).on h2).on h3)
        have b3 := Aside0.mk (below_step (below_step h1 h2) h3)
        clear h1 h2 h3
        go_wp2_with fail
        refine (CK.out _ t3.out).mono ?_
        rintro e w4 ⟨rfl, h4⟩
        have t4 := Aside0.mk (t3.out.on h4)
        have b4 := Aside0.mk (below_step b3.out h4)
        clear h4
        go_wp2_with fail
        refine (awake02 _ t4.out).mono ?_
        rintro e w5 ⟨rfl, h5⟩
        have b5 := Aside0.mk (below_step b4.out h5)
        clear h5
        go_wp2_with fail
        rw [HT.out]
        exact ⟨rfl, b5.out⟩
      | true =>
        have e3 := hle2 rfl
        have e4 := hbs rfl
        subst e3
        clear hle2 hbs
        go_enter Tryd.func9, Tryd.ntmps9
        go_wp2_with fail
        refine (CP.out _ ht).mono ?_
        rintro e w1 ⟨rfl, h1⟩
        go_wp2_with fail
        refine (G1.out _).mono ?_
        rintro e w2 ⟨rfl, h2⟩
        go_wp2_with fail
        refine (G2.out _).mono ?_
        rintro e w3 ⟨rfl, h3⟩
        have t3 := Aside0.mk (((ht.on h1).on h2).on h3)
        have b3 := Aside0.mk (below_step (below_step h1 h2) h3)
        clear h1 h2 h3
        go_wp2_with fail
        refine (CK.out _ t3.out).mono ?_
        rintro e w4 ⟨rfl, h4⟩
        have t4 := Aside0.mk (t3.out.on h4)
        have b4 := Aside0.mk (below_step b3.out h4)
        clear h4
        go_wp2_with fail
        refine (awake02 _ t4.out).mono ?_
        rintro e w5 ⟨rfl, h5⟩
        have b5 := Aside0.mk (below_step b4.out h5)
        clear h5
        go_wp2_with fail
        refine (L2.out _).mono ?_
        rintro e w6 ⟨rfl, h6⟩
        have b6 := Aside0.mk (below_step b5.out h6)
        clear h6
        go_wp2_with fail
        rw [HT.out]
        exact ⟨rfl, b6.out⟩
  | true =>
    obtain ⟨q0, q1⟩ := of_decide_eq_true hp.symm
    have d0 : decide (n ≥ 0) = true := decide_eq_true q0
    have d0' : decide (0 ≤ n) = true := decide_eq_true q0
    have d1 : decide (n ≤ 9007199254740992) = true := decide_eq_true q1
    clear hp q0 q1
    have e1 := hmp rfl
    have e2 := hlead' rfl
    subst e1 e2
    clear hmp hlead'
    cases u with
    | false =>
      clear hle2 hbs
      go_enter Tryd.func9, Tryd.ntmps9
      go_wp2_with fail
      refine (CP.out _ ht).mono ?_
      rintro e w1 ⟨rfl, h1⟩
      go_wp2_with fail
      refine (G1.out _).mono ?_
      rintro e w2 ⟨rfl, h2⟩
      go_wp2_with fail
      refine (G2.out _).mono ?_
      rintro e w3 ⟨rfl, h3⟩
      have t3 := Aside0.mk (((ht.on h1).on h2).on h3)
      have b3 := Aside0.mk (below_step (below_step h1 h2) h3)
      clear h1 h2 h3
      go_wp2_with fail
      refine (CK.out _ t3.out).mono ?_
      rintro e w4 ⟨rfl, h4⟩
      have t4 := Aside0.mk (t3.out.on h4)
      have b4 := Aside0.mk (below_step b3.out h4)
      clear h4
      go_wp2_with fail
      refine (awake02 _ t4.out).mono ?_
      rintro e w5 ⟨rfl, h5⟩
      have b5 := Aside0.mk (below_step b4.out h5)
      clear h5
      go_wp2_with fail
      refine (L1.out _).mono ?_
      rintro e w6 ⟨rfl, h6⟩
      have b6 := Aside0.mk (below_step b5.out h6)
      clear h6
      go_wp2_with fail
      rw [HT.out]
      exact ⟨rfl, b6.out⟩
    | true =>
      have e3 := hle2 rfl
      have e4 := hbs rfl
      subst e3
      clear hle2 hbs
      go_enter Tryd.func9, Tryd.ntmps9
      go_wp2_with fail
      refine (CP.out _ ht).mono ?_
      rintro e w1 ⟨rfl, h1⟩
      go_wp2_with fail
      refine (G1.out _).mono ?_
      rintro e w2 ⟨rfl, h2⟩
      go_wp2_with fail
      refine (G2.out _).mono ?_
      rintro e w3 ⟨rfl, h3⟩
      have t3 := Aside0.mk (((ht.on h1).on h2).on h3)
      have b3 := Aside0.mk (below_step (below_step h1 h2) h3)
      clear h1 h2 h3
      go_wp2_with fail
      refine (CK.out _ t3.out).mono ?_
      rintro e w4 ⟨rfl, h4⟩
      have t4 := Aside0.mk (t3.out.on h4)
      have b4 := Aside0.mk (below_step b3.out h4)
      clear h4
      go_wp2_with fail
      refine (awake02 _ t4.out).mono ?_
      rintro e w5 ⟨rfl, h5⟩
      have b5 := Aside0.mk (below_step b4.out h5)
      clear h5
      go_wp2_with fail
      refine (L1.out _).mono ?_
      rintro e w6 ⟨rfl, h6⟩
      have b6 := Aside0.mk (below_step b5.out h6)
      clear h6
      go_wp2_with fail
      refine (L2.out _).mono ?_
      rintro e w7 ⟨rfl, h7⟩
      have b7 := Aside0.mk (below_step b6.out h7)
      clear h7
      go_wp2_with fail
      rw [HT.out]
      exact ⟨rfl, b7.out⟩
end Go.Proofs.YtjllahglfpbemaaDoor.PGuardTells
