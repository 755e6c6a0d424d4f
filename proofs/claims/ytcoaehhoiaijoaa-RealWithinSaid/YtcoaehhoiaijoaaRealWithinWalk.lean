/- RealWithin: a number is within itself, what is no number isn't, nor is anything by it; a smaller number isn't within greater ones. -/
import Derived.Test.YtcoaehhoiaijoaaRealAwake
import Derived.Test.YtcoaehhoiaijoaaFloatOrder
namespace Go.Proofs.Ytcoaehhoiaijoaa.Fl
open Go Go.RowKit Go.Proofs.YtcoaehhoiaijoaaW.PrintWords Go.Proofs.Ytcoaehhoiaijoaa.Base
attribute [-go_sem] binOp_float_cmp_eql binOp_float_cmp_neq binOp_float_cmp_lss binOp_float_cmp_leq
attribute [local go_sem] f_eql f_neq f_lss f_leq
set_option maxHeartbeats 8000000
set_option maxRecDepth 100000
theorem RealWithin_calls (x y : Nat) (w : World) : Calls Try.prog 9 #[.float .f64 x, .float .f64 y] w fun e w' => e = .returned (.bool true) ∧ Below w.heap.size w w' := by
  cases hx : eqF x x
  · have HN := Aside0.mk (le_nan hx)
    have hl := (HN.out y).2.2.1
    have HS := Aside0.mk (show sameF x y = sameF y x by unfold sameF; rw [hx]; cases eqF y y <;> rfl)
    have hyy : (leF x y && leF y x) = false := by rw [(HN.out y).1]; rfl
    have hxy : (leF y x && leF x y) = false := by rw [(HN.out y).2.1]; rfl
    have hxx : (leF x x && leF x x) = false := by rw [(HN.out x).1]; rfl
    have X := Aside0.mk (And.intro hxx (And.intro hyy hxy))
    clear hxx hyy hxy
    cases hs : sameF x y
    · have Hs := Aside0.mk hs
      clear hs
      go_enter Try.func9, Try.ntmps9
      go_wp2_with fail
      refine (within_calls _ _ _ _).mono ?_
      rw [X.out.1]
      rintro e w1 ⟨rfl, hw1⟩
      have D1 := Aside0.mk hw1
      clear hw1
      go_wp2_with fail
      refine (within_calls _ _ _ _).mono ?_
      rw [X.out.2.1]
      rintro e w2 ⟨rfl, hw2⟩
      have D2 := Aside0.mk (below_step D1.out hw2)
      clear hw2
      go_wp2_with fail
      refine (within_calls _ _ _ _).mono ?_
      rw [X.out.2.2]
      rintro e w3 ⟨rfl, hw3⟩
      have D3 := Aside0.mk (below_step D2.out hw3)
      clear hw3
      go_wp2_with fail
      refine (awake_calls _).mono ?_
      rintro e w4 ⟨rfl, hw4⟩
      have D4 := Aside0.mk (below_step D3.out hw4)
      clear hw4
      go_wp2_with fail
      refine (same_calls _ _ _).mono ?_
      rw [Hs.out]
      rintro e w5 ⟨rfl, hw5⟩
      have D5 := Aside0.mk (below_step D4.out hw5)
      clear hw5
      go_wp2_with fail
      refine (same_calls _ _ _).mono ?_
      rw [← HS.out, Hs.out]
      rintro e w6 ⟨rfl, hw6⟩
      have D6 := Aside0.mk (below_step D5.out hw6)
      clear hw6
      go_wp2_with fail
      refine (same_calls _ _ _).mono ?_
      rw [Hs.out]
      rintro e w7 ⟨rfl, hw7⟩
      have D7 := Aside0.mk (below_step D6.out hw7)
      clear hw7
      go_wp2_with fail
      go_ret
      exact ⟨rfl, D7.out⟩
    · have Hs := Aside0.mk hs
      clear hs
      go_enter Try.func9, Try.ntmps9
      go_wp2_with fail
      refine (within_calls _ _ _ _).mono ?_
      rw [X.out.1]
      rintro e w1 ⟨rfl, hw1⟩
      have D1 := Aside0.mk hw1
      clear hw1
      go_wp2_with fail
      refine (within_calls _ _ _ _).mono ?_
      rw [X.out.2.1]
      rintro e w2 ⟨rfl, hw2⟩
      have D2 := Aside0.mk (below_step D1.out hw2)
      clear hw2
      go_wp2_with fail
      refine (within_calls _ _ _ _).mono ?_
      rw [X.out.2.2]
      rintro e w3 ⟨rfl, hw3⟩
      have D3 := Aside0.mk (below_step D2.out hw3)
      clear hw3
      go_wp2_with fail
      refine (awake_calls _).mono ?_
      rintro e w4 ⟨rfl, hw4⟩
      have D4 := Aside0.mk (below_step D3.out hw4)
      clear hw4
      go_wp2_with fail
      refine (same_calls _ _ _).mono ?_
      rw [Hs.out]
      rintro e w5 ⟨rfl, hw5⟩
      have D5 := Aside0.mk (below_step D4.out hw5)
      clear hw5
      go_wp2_with fail
      refine (same_calls _ _ _).mono ?_
      rw [← HS.out, Hs.out]
      rintro e w6 ⟨rfl, hw6⟩
      have D6 := Aside0.mk (below_step D5.out hw6)
      clear hw6
      go_wp2_with fail
      refine (same_calls _ _ _).mono ?_
      rw [Hs.out]
      rintro e w7 ⟨rfl, hw7⟩
      have D7 := Aside0.mk (below_step D6.out hw7)
      clear hw7
      go_wp2_with fail
      go_ret
      exact ⟨rfl, D7.out⟩
  · cases hy : eqF y y
    · have HN := Aside0.mk (le_nan hy)
      have hl := (HN.out x).2.2.2.1
      have hyy : (leF x y && leF y x) = false := by rw [(HN.out x).2.1]; rfl
      have hxy : (leF y x && leF x y) = false := by rw [(HN.out x).1]; rfl
      have hxx : (leF x x && leF x x) = true := by rw [leF_self hx]; rfl
      have hs : sameF x y = false := by unfold sameF; rw [hx, hy]; rfl
      have hz : sameF y x = false := by unfold sameF; rw [hx, hy]; rfl
      have X := Aside0.mk (And.intro hxx (And.intro hyy (And.intro hxy (And.intro hs hz))))
      clear hxx hyy hxy hs hz hy
      go_enter Try.func9, Try.ntmps9
      go_wp2_with fail
      refine (within_calls _ _ _ _).mono ?_
      rw [X.out.1]
      rintro e w1 ⟨rfl, hw1⟩
      have D1 := Aside0.mk hw1
      clear hw1
      go_wp2_with fail
      refine (within_calls _ _ _ _).mono ?_
      rw [X.out.2.1]
      rintro e w2 ⟨rfl, hw2⟩
      have D2 := Aside0.mk (below_step D1.out hw2)
      clear hw2
      go_wp2_with fail
      refine (within_calls _ _ _ _).mono ?_
      rw [X.out.2.2.1]
      rintro e w3 ⟨rfl, hw3⟩
      have D3 := Aside0.mk (below_step D2.out hw3)
      clear hw3
      go_wp2_with fail
      refine (awake_calls _).mono ?_
      rintro e w4 ⟨rfl, hw4⟩
      have D4 := Aside0.mk (below_step D3.out hw4)
      clear hw4
      go_wp2_with fail
      refine (same_calls _ _ _).mono ?_
      rw [X.out.2.2.2.1]
      rintro e w5 ⟨rfl, hw5⟩
      have D5 := Aside0.mk (below_step D4.out hw5)
      clear hw5
      go_wp2_with fail
      refine (same_calls _ _ _).mono ?_
      rw [X.out.2.2.2.2]
      rintro e w6 ⟨rfl, hw6⟩
      have D6 := Aside0.mk (below_step D5.out hw6)
      clear hw6
      go_wp2_with fail
      refine (same_calls _ _ _).mono ?_
      rw [X.out.2.2.2.1]
      rintro e w7 ⟨rfl, hw7⟩
      have D7 := Aside0.mk (below_step D6.out hw7)
      clear hw7
      go_wp2_with fail
      go_ret
      exact ⟨rfl, D7.out⟩
    · cases hl : ltF x y
      · have hxx : (leF x x && leF x x) = true := by rw [leF_self hx]; rfl
        have hs : sameF x y = (x == y) := by unfold sameF; rw [hx, hy]; rfl
        have hz : sameF y x = (x == y) := by unfold sameF; rw [hx, hy, Bool.beq_comm]; rfl
        have Y := Aside0.mk (And.intro hxx (And.intro hs hz))
        clear hxx hs hz
        cases hq : leF x y && leF y x
        · have hr : (leF y x && leF x y) = false := by rw [Bool.and_comm]; exact hq
          have Q := Aside0.mk (And.intro hq hr)
          clear hq hr
          cases hs : (x == y)
          · have Hs := Aside0.mk hs
            clear hs
            go_enter Try.func9, Try.ntmps9
            go_wp2_with fail
            refine (within_calls _ _ _ _).mono ?_
            rw [Y.out.1]
            rintro e w1 ⟨rfl, hw1⟩
            have D1 := Aside0.mk hw1
            clear hw1
            go_wp2_with fail
            refine (within_calls _ _ _ _).mono ?_
            rw [Q.out.1]
            rintro e w2 ⟨rfl, hw2⟩
            have D2 := Aside0.mk (below_step D1.out hw2)
            clear hw2
            go_wp2_with fail
            refine (within_calls _ _ _ _).mono ?_
            rw [Q.out.2]
            rintro e w3 ⟨rfl, hw3⟩
            have D3 := Aside0.mk (below_step D2.out hw3)
            clear hw3
            go_wp2_with fail
            refine (awake_calls _).mono ?_
            rintro e w4 ⟨rfl, hw4⟩
            have D4 := Aside0.mk (below_step D3.out hw4)
            clear hw4
            go_wp2_with fail
            refine (same_calls _ _ _).mono ?_
            rw [Y.out.2.1, Hs.out]
            rintro e w5 ⟨rfl, hw5⟩
            have D5 := Aside0.mk (below_step D4.out hw5)
            clear hw5
            go_wp2_with fail
            refine (same_calls _ _ _).mono ?_
            rw [Y.out.2.2, Hs.out]
            rintro e w6 ⟨rfl, hw6⟩
            have D6 := Aside0.mk (below_step D5.out hw6)
            clear hw6
            go_wp2_with fail
            refine (same_calls _ _ _).mono ?_
            rw [Y.out.2.1, Hs.out]
            rintro e w7 ⟨rfl, hw7⟩
            have D7 := Aside0.mk (below_step D6.out hw7)
            clear hw7
            go_wp2_with fail
            go_ret
            exact ⟨rfl, D7.out⟩
          · have Hs := Aside0.mk hs
            have he : eqF x y = true := by rw [← eq_of_beq hs]; exact hx
            clear hs
            go_enter Try.func9, Try.ntmps9
            go_wp2_with fail
            refine (within_calls _ _ _ _).mono ?_
            rw [Y.out.1]
            rintro e w1 ⟨rfl, hw1⟩
            have D1 := Aside0.mk hw1
            clear hw1
            go_wp2_with fail
            refine (within_calls _ _ _ _).mono ?_
            rw [Q.out.1]
            rintro e w2 ⟨rfl, hw2⟩
            have D2 := Aside0.mk (below_step D1.out hw2)
            clear hw2
            go_wp2_with fail
            refine (within_calls _ _ _ _).mono ?_
            rw [Q.out.2]
            rintro e w3 ⟨rfl, hw3⟩
            have D3 := Aside0.mk (below_step D2.out hw3)
            clear hw3
            go_wp2_with fail
            refine (awake_calls _).mono ?_
            rintro e w4 ⟨rfl, hw4⟩
            have D4 := Aside0.mk (below_step D3.out hw4)
            clear hw4
            go_wp2_with fail
            refine (same_calls _ _ _).mono ?_
            rw [Y.out.2.1, Hs.out]
            rintro e w5 ⟨rfl, hw5⟩
            have D5 := Aside0.mk (below_step D4.out hw5)
            clear hw5
            go_wp2_with fail
            refine (same_calls _ _ _).mono ?_
            rw [Y.out.2.2, Hs.out]
            rintro e w6 ⟨rfl, hw6⟩
            have D6 := Aside0.mk (below_step D5.out hw6)
            clear hw6
            go_wp2_with fail
            refine (same_calls _ _ _).mono ?_
            rw [Y.out.2.1, Hs.out]
            rintro e w7 ⟨rfl, hw7⟩
            have D7 := Aside0.mk (below_step D6.out hw7)
            clear hw7
            go_wp2_with fail
            go_ret
            exact ⟨rfl, D7.out⟩
        · have hr : (leF y x && leF x y) = true := by rw [Bool.and_comm]; exact hq
          have Q := Aside0.mk (And.intro hq hr)
          clear hq hr
          cases hs : (x == y)
          · have Hs := Aside0.mk hs
            clear hs
            go_enter Try.func9, Try.ntmps9
            go_wp2_with fail
            refine (within_calls _ _ _ _).mono ?_
            rw [Y.out.1]
            rintro e w1 ⟨rfl, hw1⟩
            have D1 := Aside0.mk hw1
            clear hw1
            go_wp2_with fail
            refine (within_calls _ _ _ _).mono ?_
            rw [Q.out.1]
            rintro e w2 ⟨rfl, hw2⟩
            have D2 := Aside0.mk (below_step D1.out hw2)
            clear hw2
            go_wp2_with fail
            refine (within_calls _ _ _ _).mono ?_
            rw [Q.out.2]
            rintro e w3 ⟨rfl, hw3⟩
            have D3 := Aside0.mk (below_step D2.out hw3)
            clear hw3
            go_wp2_with fail
            refine (awake_calls _).mono ?_
            rintro e w4 ⟨rfl, hw4⟩
            have D4 := Aside0.mk (below_step D3.out hw4)
            clear hw4
            go_wp2_with fail
            refine (same_calls _ _ _).mono ?_
            rw [Y.out.2.1, Hs.out]
            rintro e w5 ⟨rfl, hw5⟩
            have D5 := Aside0.mk (below_step D4.out hw5)
            clear hw5
            go_wp2_with fail
            refine (same_calls _ _ _).mono ?_
            rw [Y.out.2.2, Hs.out]
            rintro e w6 ⟨rfl, hw6⟩
            have D6 := Aside0.mk (below_step D5.out hw6)
            clear hw6
            go_wp2_with fail
            refine (same_calls _ _ _).mono ?_
            rw [Y.out.2.1, Hs.out]
            rintro e w7 ⟨rfl, hw7⟩
            have D7 := Aside0.mk (below_step D6.out hw7)
            clear hw7
            go_wp2_with fail
            go_ret
            exact ⟨rfl, D7.out⟩
          · have Hs := Aside0.mk hs
            have he : eqF x y = true := by rw [← eq_of_beq hs]; exact hx
            clear hs
            go_enter Try.func9, Try.ntmps9
            go_wp2_with fail
            refine (within_calls _ _ _ _).mono ?_
            rw [Y.out.1]
            rintro e w1 ⟨rfl, hw1⟩
            have D1 := Aside0.mk hw1
            clear hw1
            go_wp2_with fail
            refine (within_calls _ _ _ _).mono ?_
            rw [Q.out.1]
            rintro e w2 ⟨rfl, hw2⟩
            have D2 := Aside0.mk (below_step D1.out hw2)
            clear hw2
            go_wp2_with fail
            refine (within_calls _ _ _ _).mono ?_
            rw [Q.out.2]
            rintro e w3 ⟨rfl, hw3⟩
            have D3 := Aside0.mk (below_step D2.out hw3)
            clear hw3
            go_wp2_with fail
            refine (awake_calls _).mono ?_
            rintro e w4 ⟨rfl, hw4⟩
            have D4 := Aside0.mk (below_step D3.out hw4)
            clear hw4
            go_wp2_with fail
            refine (same_calls _ _ _).mono ?_
            rw [Y.out.2.1, Hs.out]
            rintro e w5 ⟨rfl, hw5⟩
            have D5 := Aside0.mk (below_step D4.out hw5)
            clear hw5
            go_wp2_with fail
            refine (same_calls _ _ _).mono ?_
            rw [Y.out.2.2, Hs.out]
            rintro e w6 ⟨rfl, hw6⟩
            have D6 := Aside0.mk (below_step D5.out hw6)
            clear hw6
            go_wp2_with fail
            refine (same_calls _ _ _).mono ?_
            rw [Y.out.2.1, Hs.out]
            rintro e w7 ⟨rfl, hw7⟩
            have D7 := Aside0.mk (below_step D6.out hw7)
            clear hw7
            go_wp2_with fail
            go_ret
            exact ⟨rfl, D7.out⟩
      · have T := Aside0.mk (lt_two hl)
        have hxx : (leF x x && leF x x) = true := by rw [leF_self hx]; rfl
        have hyx : (leF x y && leF y x) = false := by rw [T.out.2.1]; exact Bool.and_false _
        have hxy : (leF y x && leF x y) = false := by rw [T.out.2.1]; rfl
        have h5 : (leF x x && leF x y) = true := by rw [leF_self hx, T.out.1]; rfl
        have h6 : (leF x y && leF y y) = true := by rw [leF_self hy, T.out.1]; rfl
        have X := Aside0.mk (And.intro hxx (And.intro hyx (And.intro hxy (And.intro h5 h6))))
        clear hxx hyx hxy h5 h6
        go_enter Try.func9, Try.ntmps9
        go_wp2_with fail
        refine (within_calls _ _ _ _).mono ?_
        rw [X.out.1]
        rintro e w1 ⟨rfl, hw1⟩
        have D1 := Aside0.mk hw1
        clear hw1
        go_wp2_with fail
        refine (within_calls _ _ _ _).mono ?_
        rw [X.out.2.1]
        rintro e w2 ⟨rfl, hw2⟩
        have D2 := Aside0.mk (below_step D1.out hw2)
        clear hw2
        go_wp2_with fail
        refine (within_calls _ _ _ _).mono ?_
        rw [X.out.2.2.1]
        rintro e w3 ⟨rfl, hw3⟩
        have D3 := Aside0.mk (below_step D2.out hw3)
        clear hw3
        go_wp2_with fail
        refine (awake_calls _).mono ?_
        rintro e w4 ⟨rfl, hw4⟩
        have D4 := Aside0.mk (below_step D3.out hw4)
        clear hw4
        go_wp2_with fail
        refine (within_calls _ _ _ _).mono ?_
        rw [X.out.2.2.1]
        rintro e w5 ⟨rfl, hw5⟩
        have D5 := Aside0.mk (below_step D4.out hw5)
        clear hw5
        go_wp2_with fail
        refine (within_calls _ _ _ _).mono ?_
        rw [X.out.2.2.2.1]
        rintro e w6 ⟨rfl, hw6⟩
        have D6 := Aside0.mk (below_step D5.out hw6)
        clear hw6
        go_wp2_with fail
        refine (within_calls _ _ _ _).mono ?_
        rw [X.out.2.2.2.2]
        rintro e w7 ⟨rfl, hw7⟩
        have D7 := Aside0.mk (below_step D6.out hw7)
        clear hw7
        go_wp2_with fail
        refine (within_calls _ _ _ _).mono ?_
        rw [X.out.2.1]
        rintro e w8 ⟨rfl, hw8⟩
        have D8 := Aside0.mk (below_step D7.out hw8)
        clear hw8
        go_wp2_with fail
        go_ret
        exact ⟨rfl, D8.out⟩
end Go.Proofs.Ytcoaehhoiaijoaa.Fl
