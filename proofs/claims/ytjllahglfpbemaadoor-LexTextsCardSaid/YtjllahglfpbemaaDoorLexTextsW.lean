/- The law LexTexts, walked by hand. -/
import Derived.Test.YtjllahglfpbemaaDoorLexLaws
namespace Go.Proofs.YtjllahglfpbemaaDoor.PGuardTells
open Go Go.RowKit Go.Proofs.YtjllahglfpbemaaDoorW.PrintWords Go.Proofs.YtjllahglfpbemaaDoorW.PrintLast Go.Proofs.YtjllahglfpbemaaDoorW.PrintMore
set_option maxHeartbeats 4000000
set_option maxRecDepth 100000
set_option linter.unusedVariables false
set_option linter.unusedSimpArgs false
attribute [local go_sem high] eqA28
theorem texts_big (s : ByteArray) (w : World) (hs : (1000 : Int) < (s.size : Int)) : Calls Tryd.prog 4 #[.string s] w fun e w' => e = .returned (.bool true) ∧ Below w.heap.size w w' := by
  obtain ⟨T, hT⟩ : ∃ T : Ending → World → Prop, T = fun e w' => e = .returned (.bool true) ∧ Below w.heap.size w w' := ⟨_, rfl⟩
  have HT := Aside0.mk hT
  rw [← hT]
  clear hT
  go_enter Tryd.func4, Tryd.ntmps4
  go_wp2_with fail
  refine (gatewardenlaw10_awake.calls true _ awake_eq).mono ?_
  rintro e w1 ⟨rfl, hb⟩
  have HB := Aside0.mk hb
  clear hb
  go_wp2_with fail
  rw [HT.out]
  exact ⟨rfl, HB.out⟩
theorem texts_err (s : ByteArray) (w : World) (hs : s.size ≤ 1000) (i : Int) (hx : lexF s.data.toList 1 = .error i) : Calls Tryd.prog 4 #[.string s] w fun e w' => e = .returned (.bool true) ∧ Below w.heap.size w w' := by
  obtain ⟨T, hT⟩ : ∃ T : Ending → World → Prop, T = fun e w' => e = .returned (.bool true) ∧ Below w.heap.size w w' := ⟨_, rfl⟩
  have HT := Aside0.mk hT
  rw [← hT]
  clear hT
  have hbig : ¬ (1000 : Int) < (s.size : Int) := by omega
  have C1 := Aside0.mk (fun W => split_in s W (by omega))
  rw [hx] at C1
  clear hx
  go_enter Tryd.func4, Tryd.ntmps4
  go_wp2_with fail
  refine (C1.out _).mono ?_
  rintro e w1 ⟨v1, rfl, _, hb⟩
  dsimp only [outF]
  have HB := Aside0.mk hb
  clear hb
  go_wp2_with fail
  refine (gatewardenlaw10_awake.calls true _ awake_eq).mono ?_
  rintro e w2 ⟨rfl, hb⟩
  have HB2 := Aside0.mk (below_step HB.out hb)
  clear hb
  go_wp2_with fail
  rw [HT.out]
  exact ⟨rfl, HB2.out⟩
theorem texts_ok (s : ByteArray) (w : World) (hs : s.size ≤ 1000) (r : List S28) (hx : lexF s.data.toList 1 = .ok r) : Calls Tryd.prog 4 #[.string s] w fun e w' => e = .returned (.bool true) ∧ Below w.heap.size w w' := by
  obtain ⟨T, hT⟩ : ∃ T : Ending → World → Prop, T = fun e w' => e = .returned (.bool true) ∧ Below w.heap.size w w' := ⟨_, rfl⟩
  have HT := Aside0.mk hT
  rw [← hT]
  clear hT
  have hbig : ¬ (1000 : Int) < (s.size : Int) := by omega
  have C1 := Aside0.mk (fun W => split_in s W (by omega))
  rw [hx] at C1
  obtain ⟨h1, h2, h3⟩ := lexF_toks _ _ _ r (Nat.le_refl _) hx
  have htl := textF_len r
  have hzs := size_list s
  have hlr : r.length ≤ 1000 := by omega
  have htx : (textF r).length ≤ 2000 := by omega
  have C2 := Aside0.mk (fun W => split_in (strOf (textF r)) W (by rw [size_list, strOf_list]; omega))
  rw [strOf_list, lexF_text r h1] at C2
  clear hx h1 h2 h3 htl hzs
  go_enter Tryd.func4, Tryd.ntmps4
  go_wp2_with fail
  refine (C1.out _).mono ?_
  rintro e w1 ⟨v1, rfl, hR, hb⟩
  dsimp only [outF] at hR ⊢
  obtain ⟨A1, c1, rfl, hc1, hC1⟩ := Kd.R_reads hR
  have HB := Aside0.mk hb
  have HC1 := Aside0.mk hC1
  clear hb hR hC1 C1
  go_wp2_with fail
  go_loopg [6, 7] r.length (fun gg s6 s7 wr => ∃ (i : Nat) (u : ByteArray), i ≤ r.length ∧ r.length - i ≤ gg ∧ s6 = .string u ∧ s7 = .int .i64 (i : Int) ∧ Aside0 (u.data.toList = textF (r.take i)) ∧ wr = w1)
  case atStart => exact ⟨0, _, Nat.zero_le _, by omega, rfl, rfl, ⟨rfl⟩, rfl⟩
  case round =>
    obtain ⟨i, u, hi, hgg, rfl, rfl, HU, rfl⟩ := hrel
    by_cases hlt : i < r.length
    · have hltz : (i : Int) < (r.length : Int) := by omega
      obtain ⟨ad, hA, q0, q1, q2, q3⟩ := at_T28 HC1.out (i : Int) (by omega) hltz
      subst hA
      rw [Int.toNat_natCast] at q0 q1 q2 q3
      rw [rdT r i hlt] at q0 q1 q2 q3
      have hsp : textF r = textF (r.take i) ++ (r[i].f1.data.toList ++ 32 :: textF (r.drop (i + 1))) := by
        conv => lhs; rw [← List.take_append_drop i r, textF_app, List.drop_eq_getElem_cons hlt, textF]
      have hlen := congrArg List.length hsp
      rw [List.length_append, List.length_append, List.length_cons] at hlen
      have z6 : u.size = (textF (r.take i)).length := by rw [size_list, HU.out]
      have z1 := size_list r[i].f1
      have z2 : u.size + r[i].f1.size ≤ 2000 := by omega
      have z3 : (u ++ r[i].f1).size ≤ 2000 := by rw [size_list, app_list, List.length_append, ← size_list, ← size_list]; omega
      have HU2 := Aside0.mk (show ((u ++ r[i].f1) ++ (⟨#[32]⟩ : ByteArray)).data.toList = textF (r.take (i + 1)) from by
        rw [app_list, app_list, HU.out, List.take_succ_eq_append_getElem hlt, textF_app, List.append_assoc]
        rfl)
      clear hsp hlen z6 z1
      generalize r[i] = q at q0 q1 q2 q3 z2 z3 HU2
      go_wp2_with fail
      go_roundg (r.length - (i + 1))
      case measure => omega
      case rel => exact ⟨i + 1, _, by omega, Nat.le_refl _, rfl, by go_num, HU2, rfl⟩
    · have hie : i = r.length := by omega
      subst hie
      have hltz : ¬ ((r.length : Int) < (r.length : Int)) := by omega
      have hu : u = strOf (textF r) := ext_list (by rw [HU.out, List.take_length, strOf_list])
      subst hu
      clear HU hlt hi hgg
      generalize strOf (textF r) = u at C2
      go_wp2_with fail
      refine (C2.out _).mono ?_
      rintro e w2 ⟨v2, rfl, hR, hb⟩
      dsimp only [outF] at hR ⊢
      obtain ⟨A2, c2, rfl, hc2, hC2⟩ := Kd.R_reads hR
      have HB2 := Aside0.mk (below_step HB.out hb)
      have HC3 := Aside0.mk (Kd.C_below HC1.out hb)
      have HC2 := Aside0.mk hC2
      have hml : (r.map inOne).length = r.length := List.length_map ..
      clear hb hR hC2 C2 HB HC1
      rw [hml] at HC2 hc2 ⊢
      have hne : ((r.length : Int) != (r.length : Int)) = false := by simp
      go_wp2_with fail
      go_loopg [11] r.length (fun gg s11 wr => ∃ (i : Nat), i ≤ r.length ∧ r.length - i ≤ gg ∧ s11 = .int .i64 (i : Int) ∧ Aside0 (Below w2.heap.size w2 wr))
      case atStart => exact ⟨0, Nat.zero_le _, by omega, rfl, ⟨Below.refl _ _⟩⟩
      case round =>
        obtain ⟨i, hi, hgg, rfl, HBr⟩ := hrel
        by_cases hlt : i < r.length
        · have hltz : (i : Int) < (r.length : Int) := by omega
          obtain ⟨ad, hA, q0, q1, q2, q3⟩ := at_T28 (Kd.C_below HC3.out HBr.out) (i : Int) (by omega) hltz
          subst hA
          obtain ⟨ad2, hA2, t0, t1, t2, t3⟩ := at_T28 (Kd.C_below HC2.out HBr.out) (i : Int) (by omega) hltz
          subst hA2
          rw [Int.toNat_natCast] at q0 q1 q2 q3 t0 t1 t2 t3
          rw [rdT r i hlt] at q0 q1 q2 q3
          rw [rdT (r.map inOne) i (by rw [hml]; exact hlt), List.getElem_map] at t0 t1 t2 t3
          simp only [inOne] at t0 t1 t2 t3
          have hBA := below_alloc (Below.refl wr.heap.size wr) (.cells #[.int .i64 r[i].f0, .string r[i].f1, .int .i64 r[i].f2, .int .i64 1] 28)
          have u0 := pw_cell_below hBA t0
          have u1 := pw_cell_below hBA t1
          have u2 := pw_cell_below hBA t2
          have u3 := pw_cell_below hBA t3
          have HBn := Aside0.mk (below_step HBr.out hBA)
          clear hBA t0 t1 t2 t3
          generalize r[i] = q at q0 q1 q2 q3 u0 u1 u2 u3 HBn
          go_wp2_with fail
          go_quiet (fail)
          go_wp2_with fail
          go_roundg (r.length - (i + 1))
          case measure => omega
          case rel => exact ⟨i + 1, by omega, Nat.le_refl _, by go_num, ⟨pw_below_drewN HBn.out _⟩⟩
        · have hie : i = r.length := by omega
          subst hie
          have hltz : ¬ ((r.length : Int) < (r.length : Int)) := by omega
          go_wp2_with fail
          refine (gatewardenlaw10_awake.calls true _ awake_eq).mono ?_
          rintro e w4 ⟨rfl, hb⟩
          have HB4 := Aside0.mk (below_step (below_step HB2.out HBr.out) hb)
          clear hb
          go_wp2_with fail
          rw [HT.out]
          exact ⟨rfl, HB4.out⟩
theorem LexTexts_calls (s : ByteArray) (w : World) : Calls Tryd.prog 4 #[.string s] w fun e w' => e = .returned (.bool true) ∧ Below w.heap.size w w' := by
  by_cases h : (1000 : Int) < (s.size : Int)
  · exact texts_big s w h
  cases hx : lexF s.data.toList 1 with
  | error i => exact texts_err s w (by omega) i hx
  | ok r => exact texts_ok s w (by omega) r hx
end Go.Proofs.YtjllahglfpbemaaDoor.PGuardTells
