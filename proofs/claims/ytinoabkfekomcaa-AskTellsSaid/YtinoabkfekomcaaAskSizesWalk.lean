/- AskSizes: how many bytes a request has, by its function (walked by hand over the functions as printed for the law AskSizes). -/
import Derived.Test.YtinoabkfekomcaaAskAwakeAskSizes
namespace Go.Proofs.Ytinoabkfekomcaa.AskAskSizes
open Go Go.RowKit Go.Proofs.Ytinoabkfekomcaa.PAskSizes Go.Proofs.YtinoabkfekomcaaW.PrintWords Go.Proofs.YtinoabkfekomcaaW.PrintLast Go.Proofs.Ytinoabkfekomcaa.Base Go.Proofs.Ytinoabkfekomcaa.RepAskSizes Go.Proofs.Ytinoabkfekomcaa.CoilAskSizes Go.Proofs.Ytinoabkfekomcaa.Coil
set_option maxHeartbeats 8000000
set_option maxRecDepth 100000
/-- How many bytes a right request has. -/
def lenP (a0 a4 : Int) : Int := if a0 = 15 then 6 + (a4 + 7) / 8 else if a0 = 16 then 6 + 2 * a4 else if a0 = 22 then 7 else if a0 = 23 then 10 + 2 * a4 else 5
theorem right_size {a0 a1 a2 a3 a4 : Int} {l : List Int} (h : Rt a0 a1 a2 a3 a4 l) :
    ((strOfNums (putL a0 a1 a2 a3 a4 l)).size : Int) = lenP a0 a4 ∧ bt (strOfNums (putL a0 a1 a2 a3 a4 l)) 0 = a0 ∧ 0 < (strOfNums (putL a0 a1 a2 a3 a4 l)).size ∧ 1 ≤ a0 ∧ a0 ≤ 23 ∧ 0 ≤ a4 ∧ a4 ≤ 1968 ∧ (a0 = 16 ∨ a0 = 23 → a4 ≤ 123) ∧ l.length ≤ 2000 := by
  rcases h with ⟨h0, h1, h2, hl, hg⟩ | ⟨h0, h1, h2, hl, hg⟩ | ⟨rfl, h1, h2, hl, hg⟩ | ⟨rfl, h1, h2, hl, hg⟩ | ⟨rfl, h1, h2, hl, hg⟩ | ⟨rfl, h1, h2, hl, hg⟩ | ⟨rfl, h1, h2, hl, hg⟩ | ⟨rfl, h1, h2, hl, hg⟩
  · have e : putL a0 a1 a2 a3 a4 l = [a0] ++ be [a1, a2] := by unfold putL; rw [if_pos (by omega)]
    rw [e]
    refine ⟨?_, bt_head' a0 _ (by omega) (by omega), by rw [strOfNums_size]; simp, by omega, by omega, by omega, by omega, by omega, by omega⟩
    unfold lenP
    rw [if_neg (by omega), if_neg (by omega), if_neg (by omega), if_neg (by omega), strOfNums_size]; rfl
  · have e : putL a0 a1 a2 a3 a4 l = [a0] ++ be [a1, a2] := by unfold putL; rw [if_pos (by omega)]
    rw [e]
    refine ⟨?_, bt_head' a0 _ (by omega) (by omega), by rw [strOfNums_size]; simp, by omega, by omega, by omega, by omega, by omega, by omega⟩
    unfold lenP
    rw [if_neg (by omega), if_neg (by omega), if_neg (by omega), if_neg (by omega), strOfNums_size]; rfl
  · exact ⟨by rw [strOfNums_size]; rfl, bt_head' 5 _ (by omega) (by omega), by rw [strOfNums_size]; exact Nat.succ_pos _, by omega, by omega, by omega, by omega, by omega, by omega⟩
  · exact ⟨by rw [strOfNums_size]; rfl, bt_head' 6 _ (by omega) (by omega), by rw [strOfNums_size]; exact Nat.succ_pos _, by omega, by omega, by omega, by omega, by omega, by omega⟩
  · refine ⟨?_, bt_head' 15 _ (by omega) (by omega), by rw [strOfNums_size]; exact Nat.succ_pos _, by omega, by omega, by omega, by omega, by omega, by omega⟩
    rw [strOfNums_size]; unfold putL lenP
    rw [if_neg (by decide), if_neg (by decide), if_neg (by decide), if_pos rfl, if_pos rfl]
    simp only [List.length_append, be_length, pack_length, List.length_cons, List.length_nil]
    omega
  · refine ⟨?_, bt_head' 16 _ (by omega) (by omega), by rw [strOfNums_size]; exact Nat.succ_pos _, by omega, by omega, by omega, by omega, by omega, by omega⟩
    rw [strOfNums_size]; unfold putL lenP
    rw [if_neg (by decide), if_neg (by decide), if_neg (by decide), if_neg (by decide), if_pos rfl, if_neg (by decide), if_pos rfl]
    simp only [List.length_append, be_length, List.length_cons, List.length_nil]
    omega
  · exact ⟨by rw [strOfNums_size]; rfl, bt_head' 22 _ (by omega) (by omega), by rw [strOfNums_size]; exact Nat.succ_pos _, by omega, by omega, by omega, by omega, by omega, by omega⟩
  · refine ⟨?_, bt_head' 23 _ (by omega) (by omega), by rw [strOfNums_size]; exact Nat.succ_pos _, by omega, by omega, by omega, by omega, by omega, by omega⟩
    rw [strOfNums_size]; unfold putL lenP
    rw [if_neg (by decide), if_neg (by decide), if_neg (by decide), if_neg (by decide), if_neg (by decide), if_neg (by decide), if_neg (by decide), if_neg (by decide), if_neg (by decide), if_pos rfl]
    simp only [List.length_append, be_length, List.length_cons, List.length_nil]
    omega
/-- Put, told: a right request's bytes, or none. -/
theorem put_told (a0 a1 a2 a3 a4 : Int) (l : List Int) : (rightP a0 a1 a2 a3 a4 l = true ∧ Rt a0 a1 a2 a3 a4 l ∧ ask_Put.f 5000 a0 a1 a2 a3 a4 l = some (strOfNums (putL a0 a1 a2 a3 a4 l), true)) ∨
    (rightP a0 a1 a2 a3 a4 l = false ∧ ask_Put.f 5000 a0 a1 a2 a3 a4 l = some ((⟨#[]⟩ : ByteArray), false)) := by
  cases hr : rightP a0 a1 a2 a3 a4 l
  · exact .inr ⟨rfl, put_wrong hr _ (by decide)⟩
  · exact .inl ⟨rfl, rt_of hr, put_right (rt_of hr) hr _ (by decide)⟩
theorem AskSizes_calls (a0 a1 a2 a3 a4 : Int) (A0 : Option Addr) (c0 : Nat) (l0 : List Int) (w : World) (hr0 : Kd.C (Kd.int .i64) w A0 l0.length l0) (hc0 : l0.length ≤ c0) :
    Calls Try.prog 5 #[.agg #[.int .i64 a0, .int .i64 a1, .int .i64 a2, .int .i64 a3, .int .i64 a4, .slice A0 l0.length c0]] w fun e w' => e = .returned (.bool true) ∧ Below w.heap.size w w' := by
  obtain ⟨T, hT⟩ : ∃ T : Ending → World → Prop, T = fun e w' => e = .returned (.bool true) ∧ Below w.heap.size w w' := ⟨_, rfl⟩
  have HT := Aside0.mk hT
  rw [← hT]
  clear hT
  have HR0 := Aside0.mk (And.intro hc0 (Kd.C_below hr0 (below_alloc (Below.refl _ _) (.cells #[.int .i64 a0, .int .i64 a1, .int .i64 a2, .int .i64 a3, .int .i64 a4, .slice A0 l0.length c0] 24))))
  clear hr0 hc0
  rcases put_told a0 a1 a2 a3 a4 l0 with ⟨hr, ht, hp⟩ | ⟨hr, hp⟩
  · obtain ⟨hsz, hb, hpos, g1, g2, g3, g4, g5, g6⟩ := right_size ht
    obtain ⟨S, hS⟩ : ∃ S, S = strOfNums (putL a0 a1 a2 a3 a4 l0) := ⟨_, rfl⟩
    rw [← hS] at hp hsz hb hpos
    have HP := Aside0.mk hp
    have HSZ := Aside0.mk (And.intro hsz (And.intro hb (And.intro g1 (And.intro g2 (And.intro g3 (And.intro g4 g5))))))
    have hlen : ¬ (l0.length : Int) > 3000 := by omega
    have hb0 : ((S[0]'hpos).toNat : Int) = a0 := by rw [← hb]; exact bt_at S 0 hpos
    have hposz : (0 : Int) < (S.size : Int) := by omega
    have hwa : wrap64 a0 = a0 := w64 (by omega) (by omega)
    have hwa' : IntKind.i64.wrap a0 = a0 := by rw [IntKind.wrap_i64]; omega
    clear hr ht hp hsz hb g1 g2 g3 g4 g5 g6 hS
    have key : (a0 = 15 ∧ wrap64 (6 + wrap64 (Int.tdiv (wrap64 (a4 + 7)) 8)) = (S.size : Int)) ∨ (a0 = 16 ∧ wrap64 (6 + wrap64 (2 * a4)) = (S.size : Int)) ∨ (a0 = 22 ∧ (S.size : Int) = 7) ∨ (a0 = 23 ∧ wrap64 (10 + wrap64 (2 * a4)) = (S.size : Int)) ∨ ((¬ a0 = 15 ∧ ¬ a0 = 16 ∧ ¬ a0 = 22 ∧ ¬ a0 = 23) ∧ (S.size : Int) = 5) := by
      obtain ⟨h1, h2, h3, h4, h5, h6, h7⟩ := HSZ.out
      unfold lenP at h1
      by_cases c1 : a0 = 15
      · rw [if_pos c1] at h1
        exact .inl ⟨c1, by rw [w64 (n := a4 + 7) (by omega) (by omega), tdiv8 (by omega), w64 (n := (a4 + 7) / 8) (by omega) (by omega), w64 (by omega) (by omega), h1]⟩
      rw [if_neg c1] at h1
      by_cases c2 : a0 = 16
      · rw [if_pos c2] at h1
        exact .inr (.inl ⟨c2, by rw [w64 (n := 2 * a4) (by omega) (by omega), w64 (by omega) (by omega), h1]⟩)
      rw [if_neg c2] at h1
      by_cases c3 : a0 = 22
      · rw [if_pos c3] at h1
        exact .inr (.inr (.inl ⟨c3, h1⟩))
      rw [if_neg c3] at h1
      by_cases c4 : a0 = 23
      · rw [if_pos c4] at h1
        exact .inr (.inr (.inr (.inl ⟨c4, by rw [w64 (n := 2 * a4) (by omega) (by omega), w64 (by omega) (by omega), h1]⟩)))
      rw [if_neg c4] at h1
      exact .inr (.inr (.inr (.inr ⟨⟨c1, c2, c3, c4⟩, h1⟩)))
    rcases key with ⟨rfl, hn⟩ | ⟨rfl, hn⟩ | ⟨rfl, hn⟩ | ⟨rfl, hn⟩ | ⟨⟨c, c', c2, c3⟩, hn⟩
    · go_enter Try.func5, Try.ntmps5
      go_wp2_with fail
      refine (ask_Put.calls 5000 _ a1 a2 a3 a4 A0 c0 l0 S true _ HR0.out.2 HR0.out.1 HP.out).mono ?_
      rintro e w1 ⟨rfl, hb1⟩
      have K1 := Aside0.mk (blk_below (blk_new w (.cells #[.int .i64 _, .int .i64 a1, .int .i64 a2, .int .i64 a3, .int .i64 a4, .slice A0 l0.length c0] 24)) hb1)
      have D1 := Aside0.mk (below_step (below_alloc (Below.refl w.heap.size w) _) hb1)
      obtain ⟨⟨c40, c41, c42, c43, c44, c45⟩, f4⟩ := six_cells K1.out
      clear hb1
      go_upto_region 14 with (fail)
      simp only [hn]
      clear hn hwa hlen
      go_region_held3 (fun w' => w'.cell? ⟨w.heap.size, 0, none⟩ = some (.int .i64 15)) (first | exact c40 | (refine (Below.cell HD2.out ?_).trans c40; exact blk_lt K1.out)) (first | (refine (awake_calls _).mono ?_; rintro e w2 ⟨rfl, hb2⟩; have HD2 := Aside0.mk hb2; clear hb2))
      go_wp2
      rw [HT.out]
      refine ⟨rfl, ?_⟩
      have D0 := below_step (pw_below_drewN D1.out _) HD2.out
      with_reducible (repeat (first | exact D0 | apply below_drew1 | apply pw_below_drewN))
    · go_enter Try.func5, Try.ntmps5
      go_wp2_with fail
      refine (ask_Put.calls 5000 _ a1 a2 a3 a4 A0 c0 l0 S true _ HR0.out.2 HR0.out.1 HP.out).mono ?_
      rintro e w1 ⟨rfl, hb1⟩
      have K1 := Aside0.mk (blk_below (blk_new w (.cells #[.int .i64 _, .int .i64 a1, .int .i64 a2, .int .i64 a3, .int .i64 a4, .slice A0 l0.length c0] 24)) hb1)
      have D1 := Aside0.mk (below_step (below_alloc (Below.refl w.heap.size w) _) hb1)
      obtain ⟨⟨c40, c41, c42, c43, c44, c45⟩, f4⟩ := six_cells K1.out
      clear hb1
      go_upto_region 14 with (fail)
      simp only [hn]
      clear hn hwa hlen
      go_region_held3 (fun w' => w'.cell? ⟨w.heap.size, 0, none⟩ = some (.int .i64 16)) (first | exact c40 | (refine (Below.cell HD2.out ?_).trans c40; exact blk_lt K1.out)) (first | (refine (awake_calls _).mono ?_; rintro e w2 ⟨rfl, hb2⟩; have HD2 := Aside0.mk hb2; clear hb2))
      go_wp2
      rw [HT.out]
      refine ⟨rfl, ?_⟩
      have D0 := below_step (pw_below_drewN D1.out _) HD2.out
      with_reducible (repeat (first | exact D0 | apply below_drew1 | apply pw_below_drewN))
    · go_enter Try.func5, Try.ntmps5
      go_wp2_with fail
      refine (ask_Put.calls 5000 _ a1 a2 a3 a4 A0 c0 l0 S true _ HR0.out.2 HR0.out.1 HP.out).mono ?_
      rintro e w1 ⟨rfl, hb1⟩
      have K1 := Aside0.mk (blk_below (blk_new w (.cells #[.int .i64 _, .int .i64 a1, .int .i64 a2, .int .i64 a3, .int .i64 a4, .slice A0 l0.length c0] 24)) hb1)
      have D1 := Aside0.mk (below_step (below_alloc (Below.refl w.heap.size w) _) hb1)
      obtain ⟨⟨c40, c41, c42, c43, c44, c45⟩, f4⟩ := six_cells K1.out
      clear hb1
      go_upto_region 14 with (fail)
      clear hwa hlen
      go_region_held3 (fun w' => w'.cell? ⟨w.heap.size, 0, none⟩ = some (.int .i64 22)) (first | exact c40 | (refine (Below.cell HD2.out ?_).trans c40; exact blk_lt K1.out)) (first | (refine (awake_calls _).mono ?_; rintro e w2 ⟨rfl, hb2⟩; have HD2 := Aside0.mk hb2; clear hb2))
      go_wp2
      rw [HT.out]
      refine ⟨rfl, ?_⟩
      have D0 := below_step (pw_below_drewN D1.out _) HD2.out
      with_reducible (repeat (first | exact D0 | apply below_drew1 | apply pw_below_drewN))
    · go_enter Try.func5, Try.ntmps5
      go_wp2_with fail
      refine (ask_Put.calls 5000 _ a1 a2 a3 a4 A0 c0 l0 S true _ HR0.out.2 HR0.out.1 HP.out).mono ?_
      rintro e w1 ⟨rfl, hb1⟩
      have K1 := Aside0.mk (blk_below (blk_new w (.cells #[.int .i64 _, .int .i64 a1, .int .i64 a2, .int .i64 a3, .int .i64 a4, .slice A0 l0.length c0] 24)) hb1)
      have D1 := Aside0.mk (below_step (below_alloc (Below.refl w.heap.size w) _) hb1)
      obtain ⟨⟨c40, c41, c42, c43, c44, c45⟩, f4⟩ := six_cells K1.out
      clear hb1
      go_upto_region 14 with (fail)
      simp only [hn]
      clear hn hwa hlen
      go_region_held3 (fun w' => w'.cell? ⟨w.heap.size, 0, none⟩ = some (.int .i64 23)) (first | exact c40 | (refine (Below.cell HD2.out ?_).trans c40; exact blk_lt K1.out)) (first | (refine (awake_calls _).mono ?_; rintro e w2 ⟨rfl, hb2⟩; have HD2 := Aside0.mk hb2; clear hb2))
      go_wp2
      rw [HT.out]
      refine ⟨rfl, ?_⟩
      have D0 := below_step (pw_below_drewN D1.out _) HD2.out
      with_reducible (repeat (first | exact D0 | apply below_drew1 | apply pw_below_drewN))
    · go_enter Try.func5, Try.ntmps5
      go_wp2_with fail
      refine (ask_Put.calls 5000 _ a1 a2 a3 a4 A0 c0 l0 S true _ HR0.out.2 HR0.out.1 HP.out).mono ?_
      rintro e w1 ⟨rfl, hb1⟩
      have K1 := Aside0.mk (blk_below (blk_new w (.cells #[.int .i64 _, .int .i64 a1, .int .i64 a2, .int .i64 a3, .int .i64 a4, .slice A0 l0.length c0] 24)) hb1)
      have D1 := Aside0.mk (below_step (below_alloc (Below.refl w.heap.size w) _) hb1)
      obtain ⟨⟨c40, c41, c42, c43, c44, c45⟩, f4⟩ := six_cells K1.out
      clear hb1
      go_upto_region 14 with (fail)
      clear hwa hlen
      go_region_held3 (fun w' => w'.cell? ⟨w.heap.size, 0, none⟩ = some (.int .i64 a0)) (first | exact c40 | (refine (Below.cell HD2.out ?_).trans c40; exact blk_lt K1.out)) (first | (refine (awake_calls _).mono ?_; rintro e w2 ⟨rfl, hb2⟩; have HD2 := Aside0.mk hb2; clear hb2))
      go_wp2
      rw [HT.out]
      refine ⟨rfl, ?_⟩
      have D0 := below_step (pw_below_drewN D1.out _) HD2.out
      with_reducible (repeat (first | exact D0 | apply below_drew1 | apply pw_below_drewN))
  · have HP := Aside0.mk hp
    clear hr hp
    by_cases hlen : (l0.length : Int) > 3000
    all_goals
      go_enter Try.func5, Try.ntmps5
      go_wp2_with fail
      refine (ask_Put.calls 5000 a0 a1 a2 a3 a4 A0 c0 l0 _ _ _ HR0.out.2 HR0.out.1 HP.out).mono ?_
      rintro e w1 ⟨rfl, hb1⟩
      have K1 := Aside0.mk (blk_below (blk_new w (.cells #[.int .i64 a0, .int .i64 a1, .int .i64 a2, .int .i64 a3, .int .i64 a4, .slice A0 l0.length c0] 24)) hb1)
      have D1 := Aside0.mk (below_step (below_alloc (Below.refl w.heap.size w) _) hb1)
      obtain ⟨⟨c40, c41, c42, c43, c44, c45⟩, f4⟩ := six_cells K1.out
      clear hb1
      go_wp2_with fail
      refine (awake_calls _).mono ?_
      rintro e w2 ⟨rfl, hb2⟩
      have D2 := Aside0.mk (below_step D1.out hb2)
      clear hb2
      go_wp2
      rw [HT.out]
      exact ⟨rfl, D2.out⟩
end Go.Proofs.Ytinoabkfekomcaa.AskAskSizes
