/- The examples of the layer ask, walked by hand (over the functions as printed for the law AskSizes). -/
import Derived.Test.YtinoabkfekomcaaAskGetAskSizes
namespace Go.Proofs.Ytinoabkfekomcaa.AskAskSizes
open Go Go.RowKit Go.Proofs.Ytinoabkfekomcaa.PAskSizes Go.Proofs.YtinoabkfekomcaaW.PrintWords Go.Proofs.YtinoabkfekomcaaW.PrintLast Go.Proofs.Ytinoabkfekomcaa.Base Go.Proofs.Ytinoabkfekomcaa.RepAskSizes Go.Proofs.Ytinoabkfekomcaa.CoilAskSizes
set_option maxHeartbeats 8000000
set_option maxRecDepth 100000
abbrev sOne : ByteArray := ⟨#[3, 0, 100, 0, 2]⟩
theorem got_one : getP sOne = (3, 100, 2, 0, 0, [], 0) := by
  have hb : bt sOne 0 = 3 := by decide +kernel
  have hr : readP 3 (sOne.extract 1 sOne.size) = (100, 2, 0, 0, [], true) := by
    unfold readP
    rw [if_neg (by decide), if_neg (by decide), if_neg (by decide +kernel), if_pos (by decide)]
    have h1 : w16 (sOne.extract 1 sOne.size) 0 = 100 := by decide +kernel
    have h2 : w16 (sOne.extract 1 sOne.size) 2 = 2 := by decide +kernel
    have h3 : (((sOne.extract 1 sOne.size).size : Int) == 4) = true := by decide +kernel
    rw [h1, h2, h3]
  unfold getP
  rw [hb, hr, if_neg (by decide +kernel), if_neg (by decide +kernel), if_neg (by decide +kernel)]
theorem got_seven : getP ⟨#[7]⟩ = (0, 0, 0, 0, 0, [], 2) := by
  unfold getP
  rw [if_pos (.inr (by decide +kernel))]
theorem put_one : ask_Put.f 50 3 100 2 0 0 [] = some (sOne, true) := by decide +kernel
theorem right_one : ask_Right.f 50 3 100 2 0 0 [] = some true := by decide +kernel
theorem awake_calls (w : World) : Calls Try.prog 14 #[] w fun e w' => e = .returned (.bool true) ∧ Below w.heap.size w w' := by
  go_enter Try.func14, Try.ntmps14
  go_wp2_with fail
  refine (get_calls sOne (by decide) _).mono ?_
  rw [got_one]
  rintro e w1 ⟨⟨v, rfl, ⟨A1, c1, rfl, h1, h2, h3⟩⟩, hb1⟩
  have D1 := Aside0.mk hb1
  have C1 := Aside0.mk (And.intro h1 h2)
  clear hb1 h1 h2 h3
  go_wp2_with fail
  refine (ask_Put.calls 50 3 100 2 0 0 A1 c1 [] _ _ _ (Kd.C_below C1.out.2 (below_alloc (Below.refl _ _) _)) C1.out.1 put_one).mono ?_
  rintro e w2 ⟨rfl, hb2⟩
  have K2 := Aside0.mk (blk_below (blk_new w1 (.cells #[.int .i64 3, .int .i64 100, .int .i64 2, .int .i64 0, .int .i64 0, .slice A1 0 c1] 24)) hb2)
  have D2 := Aside0.mk (below_step (below_alloc D1.out _) hb2)
  have C2 := Aside0.mk (Kd.C_below C1.out.2 (below_step (below_alloc (Below.refl _ _) _) hb2))
  clear hb2
  go_wp2_with fail
  refine (get_calls ⟨#[7]⟩ (by decide) _).mono ?_
  rw [got_seven]
  rintro e w3 ⟨⟨v, rfl, ⟨A3, c3, rfl, -, -, -⟩⟩, hb3⟩
  have K3 := Aside0.mk (blk_alloc (blk_below K2.out hb3) (.cells #[.int .i64 0, .int .i64 0, .int .i64 0, .int .i64 0, .int .i64 0, .slice A3 0 c3] 24))
  have D3 := Aside0.mk (below_step D2.out hb3)
  have C3 := Aside0.mk (Kd.C_below C2.out (below_alloc hb3 (.cells #[.int .i64 0, .int .i64 0, .int .i64 0, .int .i64 0, .int .i64 0, .slice A3 0 c3] 24)))
  clear hb3
  obtain ⟨⟨c40, c41, c42, c43, c44, c45⟩, f4⟩ := six_cells K3.out
  go_wp2_with fail
  refine (ask_Right.calls 50 3 100 2 0 0 A1 c1 [] _ _ C3.out C1.out.1 right_one).mono ?_
  rintro e w4 ⟨rfl, hb4⟩
  have D4 := Aside0.mk (below_step (below_alloc D3.out _) hb4)
  clear hb4
  go_wp2_with fail
  refine (ask_Known.calls 50 23 _ _ (known_eq 23 50 (by omega))).mono ?_
  rw [show knownP 23 = true from rfl]
  rintro e w5 ⟨rfl, hb5⟩
  have D5 := Aside0.mk (below_step D4.out hb5)
  clear hb5
  go_wp2
  go_ret
  exact ⟨rfl, D5.out⟩
end Go.Proofs.Ytinoabkfekomcaa.AskAskSizes
