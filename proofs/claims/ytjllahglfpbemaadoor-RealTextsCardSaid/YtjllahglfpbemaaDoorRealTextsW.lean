/- The law RealTexts, walked by hand. -/
import Derived.Test.YtjllahglfpbemaaDoorRealAll
namespace Go.Proofs.YtjllahglfpbemaaDoor.Fl
open Go Go.RowKit Go.Proofs.YtjllahglfpbemaaDoorW.PrintWords Go.Proofs.YtjllahglfpbemaaDoorW.PrintLast Go.Proofs.YtjllahglfpbemaaDoorW.PrintMore Go.Proofs.YtjllahglfpbemaaDoor.Dbl Go.Proofs.YtjllahglfpbemaaDoor.PGuardTells
set_option maxHeartbeats 4000000
set_option maxRecDepth 100000
set_option linter.unusedVariables false
set_option linter.unusedSimpArgs false
attribute [-go_sem] binOp_float_cmp_eql binOp_float_cmp_neq binOp_float_cmp_lss binOp_float_cmp_leq binOp_float_cmp_gtr binOp_float_cmp_geq
attribute [local go_sem] f_eql f_neq f_lss f_leq f_gtr bits_run frombits_run neg_run
theorem RealTexts_calls (x : Nat) (s : ByteArray) (w : World) (hx : x < 18446744073709551616) (ht : Tab w) : Calls Tryd.prog 6 #[.float .f64 x, .string s] w fun e w' => e = .returned (.bool true) ∧ Below w.heap.size w w' := by
  obtain ⟨T, hT⟩ : ∃ T : Ending → World → Prop, T = fun e w' => e = .returned (.bool true) ∧ Below w.heap.size w w' := ⟨_, rfl⟩
  have HT := Aside0.mk hT
  rw [← hT]
  clear hT
  by_cases hbig : (100 : Int) < (s.size : Int)
  · go_enter Tryd.func6, Tryd.ntmps6
    go_wp2_with fail
    refine (awake_calls _).mono ?_
    rintro e w1 ⟨rfl, b1⟩
    have B1 := Aside0.mk b1
    clear b1
    go_wp2_with fail
    rw [HT.out]
    exact ⟨rfl, B1.out⟩
  have hz := size_list s
  have C1 := Aside0.mk (fun W hW => text_calls x hx W hW)
  have C2 := Aside0.mk (fun W => rtext_calls x hx W)
  have C3 := Aside0.mk (fun W => read_calls s (by omega) W)
  have C4 := Aside0.mk (fun W => rread_calls 100 s (by omega) (by omega) W)
  have hlt := readB_lt s.data.toList
  unfold TextTold at C1 C2
  unfold PairTold at C3 C4
  generalize textB x = tb at C1 C2
  generalize readB s.data.toList = rb at C3 C4 hlt
  obtain ⟨l, p⟩ := tb
  obtain ⟨c, u⟩ := rb
  dsimp only at C1 C2 C3 C4 hlt
  generalize strOf l = sl at C1 C2
  have C5 := Aside0.mk (fun W => rsame_calls c c hlt hlt W)
  rw [same_self] at C5
  clear hz hlt
  cases p
  all_goals
    cases u
    all_goals
      go_enter Tryd.func6, Tryd.ntmps6
      go_wp2_with fail
      refine (C1.out _ ht).mono ?_
      rintro e w1 ⟨rfl, b1⟩
      have B1 := Aside0.mk b1
      clear b1
      go_wp2_with fail
      refine (C2.out _).mono ?_
      rintro e w2 ⟨rfl, b2⟩
      have B2 := Aside0.mk (below_step B1.out b2)
      clear b2
      go_wp2_with fail
      refine (C3.out _).mono ?_
      rintro e w3 ⟨rfl, b3⟩
      have B3 := Aside0.mk (below_step B2.out b3)
      clear b3
      go_wp2_with fail
      refine (C4.out _).mono ?_
      rintro e w4 ⟨rfl, b4⟩
      have B4 := Aside0.mk (below_step B3.out b4)
      clear b4
      go_wp2_with fail
      refine (awake_calls _).mono ?_
      rintro e w5 ⟨rfl, b5⟩
      have B5 := Aside0.mk (below_step B4.out b5)
      clear b5
      go_wp2_with fail
      refine (C5.out _).mono ?_
      rintro e w6 ⟨rfl, b6⟩
      have B6 := Aside0.mk (below_step B5.out b6)
      clear b6
      go_wp2_with fail
      rw [HT.out]
      exact ⟨rfl, B6.out⟩
end Go.Proofs.YtjllahglfpbemaaDoor.Fl
