/- ask.Get and the layer's examples, walked by hand (over the functions as printed for the law AskSizes). -/
import Derived.Test.YtinoabkfekomcaaAskReadAskSizes
import Derived.Test.YtinoabkfekomcaaAskUnAskSizes
namespace Go.Proofs.Ytinoabkfekomcaa.AskAskSizes
open Go Go.RowKit Go.Proofs.Ytinoabkfekomcaa.PAskSizes Go.Proofs.YtinoabkfekomcaaW.PrintWords Go.Proofs.YtinoabkfekomcaaW.PrintLast Go.Proofs.Ytinoabkfekomcaa.Base Go.Proofs.Ytinoabkfekomcaa.RepAskSizes Go.Proofs.Ytinoabkfekomcaa.CoilAskSizes
set_option maxHeartbeats 8000000
set_option maxRecDepth 100000
abbrev Req := Int × Int × Int × Int × List Int × Bool
noncomputable def readP (fc : Int) (s : ByteArray) : Req :=
  if fc = 22 then (if s.size < 6 then (0, 0, 0, 0, [], false) else (0, 0, w16 s 0, 1, [w16 s 2, w16 s 4], ((s.size : Int) == 6)))
  else if fc = 23 then (if s.size < 8 then (0, 0, 0, 0, [], false) else (w16 s 0, w16 s 2, w16 s 4, w16 s 6, (tailP (s.extract 8 s.size) false (w16 s 6)).1, (tailP (s.extract 8 s.size) false (w16 s 6)).2))
  else if s.size < 4 then (0, 0, 0, 0, [], false)
  else if fc ≤ 4 then (w16 s 0, w16 s 2, 0, 0, [], ((s.size : Int) == 4))
  else if fc = 5 then (0, 0, w16 s 0, 1, [w16 s 2 / 65280], ((s.size : Int) == 4 && w16 s 2 % 65280 == 0))
  else if fc = 6 then (0, 0, w16 s 0, 1, [w16 s 2], ((s.size : Int) == 4))
  else (0, 0, w16 s 0, w16 s 2, (tailP (s.extract 4 s.size) (fc == 15) (w16 s 2)).1, (tailP (s.extract 4 s.size) (fc == 15) (w16 s 2)).2)
def Knows (fc : Int) : Prop := fc = 1 ∨ fc = 2 ∨ fc = 3 ∨ fc = 4 ∨ fc = 5 ∨ fc = 6 ∨ fc = 15 ∨ fc = 16 ∨ fc = 22 ∨ fc = 23
theorem num_no {s : ByteArray} {n : Nat} (h : s.size < 2 * n) : numP s n = ([], false) := by unfold numP; rw [if_pos h]
theorem read_calls (fc : Int) (s : ByteArray) (hfc : Knows fc) (hs : s.size ≤ 4000) (w : World) :
    Calls Try.prog 52 #[.int .i64 fc, .string s] w (Told w fc (readP fc s).1 (readP fc s).2.1 (readP fc s).2.2.1 (readP fc s).2.2.2.1 (readP fc s).2.2.2.2.1 (readP fc s).2.2.2.2.2) := by
  have ez : ∀ n : Nat, (s.extract n s.size).size ≤ 4000 := fun n => by rw [ByteArray.size_extract]; omega
  have n2 := numbers_eq s 2 (by omega) hs 50000 (by omega)
  have n3 := numbers_eq s 3 (by omega) hs 50000 (by omega)
  have n4 := numbers_eq s 4 (by omega) hs 50000 (by omega)
  have r2 := w16_rg s 2
  by_cases h22 : fc = 22
  · subst h22
    unfold readP
    rw [if_pos rfl]
    by_cases h : s.size < 6
    · rw [if_pos h]
      rw [num_no (by omega)] at n3
      exact readN22 50000 s [] w n3 _ rfl
    · rw [if_neg h]
      rw [num3 (by omega)] at n3
      exact readC22 50000 22 s _ _ _ w rfl n3 _ rfl
  by_cases h23 : fc = 23
  · subst h23
    unfold readP
    rw [if_neg (by decide), if_pos rfl]
    by_cases h : s.size < 8
    · rw [if_pos h]
      rw [num_no (by omega)] at n4
      exact readN23 50000 s [] w n4 _ rfl
    · rw [if_neg h]
      rw [num4 (by omega)] at n4
      have r6 := w16_rg s 6
      exact readD 50000 23 s _ _ _ _ w rfl n4 _ _ (tail_eq _ _ _ (ez 8) r6.2 _ (by omega)) (by omega) _ rfl
  unfold readP
  rw [if_neg h22, if_neg h23]
  by_cases h : s.size < 4
  · rw [if_pos h]
    rw [num_no (by omega)] at n2
    have hin : inTwo 22 23 fc = false := by rcases hfc with rfl | rfl | rfl | rfl | rfl | rfl | rfl | rfl | rfl | rfl <;> first | rfl | contradiction
    exact readN 50000 fc s [] w hin n2 _ rfl
  rw [if_neg h]
  rw [num2 (by omega)] at n2
  by_cases h4 : fc ≤ 4
  · rw [if_pos h4]
    exact readA 50000 fc s _ _ w (by unfold Knows at hfc; omega) n2 _ rfl
  rw [if_neg h4]
  by_cases h5 : fc = 5
  · rw [if_pos h5]
    exact readB 50000 fc s _ _ w h5 n2 r2.1 r2.2 _ rfl
  rw [if_neg h5]
  by_cases h6 : fc = 6
  · rw [if_pos h6]
    exact readC6 50000 fc s _ _ w h6 n2 _ rfl
  rw [if_neg h6]
  exact readE 50000 fc s _ _ w (by unfold Knows at hfc; omega) n2 _ _ (tail_eq _ _ _ (ez 4) r2.2 _ (by omega)) (by omega) _ rfl
def knownP (a : Int) : Bool := (ofP a).2.2.2.2
theorem known_eq (a : Int) (k : Nat) (hk : 2 ≤ k) : ask_Known.f k a = some (knownP a) := by
  unfold ask_Known.f knownP
  rw [of_eq _ _ hk, Option.bind_some]
theorem knows {a : Int} (h : knownP a = true) : Knows a := by
  unfold knownP ofP at h
  unfold Knows
  repeat (split at h; · omega)
  cases h
def endsP (a1 a2 a3 a4 : Int) : Bool := decide (wrap64 (a1 + a2) ≤ 65536) && decide (wrap64 (a3 + a4) ≤ 65536)
theorem ends_eq (a0 a1 a2 a3 a4 : Int) (l : List Int) : ask_ends.f a0 a1 a2 a3 a4 l = some (endsP a1 a2 a3 a4) := by
  unfold ask_ends.f endsP
  by_cases h : wrap64 (a1 + a2) ≤ 65536
  · rw [if_pos h, decide_eq_true h]; rfl
  · rw [if_neg h, decide_eq_false h]; rfl
/-- A request and what it's worth: 0: right, 2: no such function, 3: beyond the last address, 4: not formed. -/
abbrev Got := Int × Int × Int × Int × Int × List Int × Int
noncomputable def getP (s : ByteArray) : Got :=
  if s.size = 0 ∨ knownP (bt s 0) = false then (0, 0, 0, 0, 0, [], 2)
  else if (readP (bt s 0) (s.extract 1 s.size)).2.2.2.2.2 = false ∨ formedP (bt s 0) (readP (bt s 0) (s.extract 1 s.size)).1 (readP (bt s 0) (s.extract 1 s.size)).2.1 (readP (bt s 0) (s.extract 1 s.size)).2.2.1 (readP (bt s 0) (s.extract 1 s.size)).2.2.2.1 (readP (bt s 0) (s.extract 1 s.size)).2.2.2.2.1 = false then (0, 0, 0, 0, 0, [], 4)
  else if endsP (readP (bt s 0) (s.extract 1 s.size)).1 (readP (bt s 0) (s.extract 1 s.size)).2.1 (readP (bt s 0) (s.extract 1 s.size)).2.2.1 (readP (bt s 0) (s.extract 1 s.size)).2.2.2.1 = false then (0, 0, 0, 0, 0, [], 3)
  else (bt s 0, (readP (bt s 0) (s.extract 1 s.size)).1, (readP (bt s 0) (s.extract 1 s.size)).2.1, (readP (bt s 0) (s.extract 1 s.size)).2.2.1, (readP (bt s 0) (s.extract 1 s.size)).2.2.2.1, (readP (bt s 0) (s.extract 1 s.size)).2.2.2.2.1, 0)
def GTold (w : World) (g : Got) (e : Ending) (w' : World) : Prop :=
  (∃ v, e = .returned (.tuple #[.agg #[.int .i64 g.1, .int .i64 g.2.1, .int .i64 g.2.2.1, .int .i64 g.2.2.2.1, .int .i64 g.2.2.2.2.1, v], .int .i64 g.2.2.2.2.2.2]) ∧ Rdr w' w.heap.size v g.2.2.2.2.2.1) ∧ Below w.heap.size w w'
theorem read_told (fc : Int) (s : ByteArray) (hfc : Knows fc) (hs : s.size ≤ 4000) : ∀ W : World, Calls Try.prog 52 #[.int .i64 fc, .string s] W fun e w' =>
    ∃ A c, (e = .returned (.tuple #[.agg #[.int .i64 fc, .int .i64 (readP fc s).1, .int .i64 (readP fc s).2.1, .int .i64 (readP fc s).2.2.1, .int .i64 (readP fc s).2.2.2.1, .slice A (readP fc s).2.2.2.2.1.length c], .bool (readP fc s).2.2.2.2.2]) ∧ (readP fc s).2.2.2.2.1.length ≤ c ∧ Kd.C (Kd.int .i64) w' A (readP fc s).2.2.2.2.1.length (readP fc s).2.2.2.2.1 ∧ ∀ ad, A = some ad → W.heap.size ≤ ad.block) ∧ Below W.heap.size W w' := by
  intro W
  refine (read_calls fc s hfc hs W).mono ?_
  rintro e w' ⟨⟨v, he, ⟨A, c, rfl, h1, h2, h3⟩⟩, hb⟩
  exact ⟨A, c, ⟨he, h1, h2, h3⟩, hb⟩
theorem c_opt {w : World} {A : Option Addr} {n : Nat} {l : List Int} (h : Kd.C (Kd.int .i64) w A n l) {g i : Nat} (hne : ∀ ad, A = some ad → ad.block ≠ g) (u : Value) : Kd.C (Kd.int .i64) (w.setCell ⟨g, i, none⟩ u) A n l := by
  cases A with
  | none => exact ⟨h.1, h.2.1, fun hn => by obtain ⟨ad, e, _⟩ := h.2.2 hn; cases e⟩
  | some ad => exact c_set h (hne ad rfl) u
theorem get_calls (s : ByteArray) (hs : s.size ≤ 4000) (w : World) : Calls Try.prog 17 #[.string s] w (GTold w (getP s)) := by
  obtain ⟨T, hT⟩ : ∃ T, T = GTold w (getP s) := ⟨_, rfl⟩
  have HT := Aside0.mk hT
  rw [← hT]
  clear hT
  by_cases h0 : s.size = 0
  · have e0 : s = ⟨#[]⟩ := by
      apply ByteArray.ext
      exact Array.eq_empty_of_size_eq_zero h0
    have HG := Aside0.mk (show getP s = (0, 0, 0, 0, 0, [], 2) by unfold getP; rw [if_pos (.inl h0)])
    subst e0
    clear h0 hs
    go_enter Try.func17, Try.ntmps17
    go_wp2
    refine bodyPost_ret (results_ct rfl _ _ w.heap.size 24 Z6 (0, 0) _ rfl (blk_new w _) Try.underlying24 rfl (by kernel_rfl)) rfl ?_
    rw [HT.out, HG.out]
    exact ⟨⟨_, rfl, rdr_nil _ _⟩, below_alloc (Below.refl _ _) _⟩
  · have hne : ¬ s.toList = [] := by
      intro e
      have h : s = ⟨#[]⟩ := of_toList (by rw [e]; decide +kernel)
      rw [h] at h0
      exact h0 rfl
    have hie : s.toList.isEmpty = false := by
      cases h : s.toList with
      | nil => exact absurd h hne
      | cons a t => rfl
    have hpos : (0 : Int) < (s.size : Int) := by omega
    have hone : (1 : Int) ≤ (s.size : Int) := by omega
    have hp : 0 < s.size := by omega
    obtain ⟨b, hb⟩ : ∃ b, b = bt s 0 := ⟨_, rfl⟩
    have hb0 : ((s[0]'hp).toNat : Int) = b := by rw [hb]; exact bt_at s 0 hp
    have hr := bt_range s 0
    rw [← hb] at hr
    have hwb : wrap64 b = b := w64 (by omega) (by omega)
    have hw1 : IntKind.i64.wrap 1 = 1 := by decide
    have hwb' : IntKind.i64.wrap b = b := by rw [IntKind.wrap_i64]; omega
    have HS := Aside0.mk (And.intro h0 (And.intro hs hb))
    clear h0 hs hb hr
    cases hk : knownP b
    · have HG := Aside0.mk (show getP s = (0, 0, 0, 0, 0, [], 2) by unfold getP; rw [if_pos (.inr (by rw [← HS.out.2.2]; exact hk))])
      go_enter Try.func17, Try.ntmps17
      go_wp2_with fail
      refine (ask_Known.calls 50 b _ _ (known_eq b 50 (by omega))).mono ?_
      rw [hk]
      rintro e w1 ⟨rfl, hw1'⟩
      have K2 := Aside0.mk (blk_below (blk_new w (.cells Z6 24)) hw1')
      have B1 := Aside0.mk (below_step (below_alloc (Below.refl w.heap.size w) _) hw1')
      obtain ⟨⟨c20, c21, c22, c23, c24, c25⟩, f2⟩ := six_cells K2.out
      clear hw1'
      go_wp2
      refine bodyPost_ret (results_ct rfl _ _ w.heap.size 24 _ (0, 0) _ rfl (put6 K2.out) Try.underlying24 rfl (by kernel_rfl)) rfl ?_
      rw [HT.out, HG.out]
      refine ⟨⟨_, rfl, rdr_nil _ _⟩, ?_⟩
      have e4 : w.heap.size ≤ w.heap.size := Nat.le_refl _
      have D0 := B1.out
      with_reducible (repeat (first | exact D0 | apply below_drew1 | refine below_cell ?_ (by assumption) _))
    · go_enter Try.func17, Try.ntmps17
      go_wp2_with fail
      refine (ask_Known.calls 50 b _ _ (known_eq b 50 (by omega))).mono ?_
      rw [hk]
      rintro e w1 ⟨rfl, hw1'⟩
      have K2 := Aside0.mk (blk_below (blk_new w (.cells Z6 24)) hw1')
      have B1 := Aside0.mk (below_step (below_alloc (Below.refl w.heap.size w) _) hw1')
      have HC := Aside0.mk (read_told b (s.extract 1 s.size) (knows hk) (by rw [ByteArray.size_extract]; have := HS.out; omega))
      obtain ⟨r, hr⟩ : ∃ r, r = readP b (s.extract 1 s.size) := ⟨_, rfl⟩
      rw [← hr] at HC
      obtain ⟨r1, r2, r3, r4, l, ok⟩ := r
      have HR := Aside0.mk hr
      clear hw1' hr
      go_upto_region 3 with (fail)
      go_cut [4, 5] from 16 to 24 (fun s4 s5 wr => ∃ (g : Nat) (A2 : Option Addr) (k2 : Nat), s4 = .pointer (some ⟨g, 0, none⟩) ∧ s5 = .bool ok ∧ Aside0 (wr.heap[g]? = some (.cells #[.int .i64 b, .int .i64 r1, .int .i64 r2, .int .i64 r3, .int .i64 r4, .slice A2 l.length k2] 24 (0, 0))) ∧ Aside0 (l.length ≤ k2 ∧ Kd.C (Kd.int .i64) wr A2 l.length l ∧ ∀ ad, A2 = some ad → w1.heap.size ≤ ad.block) ∧ Aside0 (Below w1.heap.size w1 wr) ∧ Aside0 (w1.heap.size ≤ g))
      case first =>
        go_region_with (refine (HC.out _).mono ?_; rintro e w2 ⟨A2, k2, ⟨rfl, hl2, hC2, hn2⟩, hb2⟩; have HR2 := Aside0.mk (And.intro hl2 (And.intro hC2 hn2)); have HB2 := Aside0.mk hb2; (try (have J4 := Aside0.mk (blk_below (blk_drewN (blk_new w1 (.cells Z6 24)) _) hb2); obtain ⟨⟨d40, d41, d42, d43, d44, d45⟩, h4⟩ := six_cells J4.out)); clear hl2 hC2 hb2 hn2)
        all_goals go_wp2
        · go_meet
          case rel =>
            exact ⟨w2.heap.size, A2, k2, rfl, rfl, ⟨blk_new w2 _⟩, ⟨HR2.out.1, Kd.C_below HR2.out.2.1 (below_alloc (Below.refl _ _) _), HR2.out.2.2⟩, ⟨below_step (below_drew1 (Below.refl w1.heap.size w1)) (below_alloc HB2.out _)⟩, ⟨by have h := HB2.out.size; simpa using h⟩⟩
        all_goals go_meet
        all_goals (case rel =>
            have hlt : ∀ ad, A2 = some ad → ad.block ≠ w1.heap.size := fun ad e => by
              have h := HR2.out.2.2 ad e
              simp at h
              omega
            have hC := HR2.out.2.1
            have D0 := below_step (below_drew1 (below_alloc (Below.refl w1.heap.size w1) (.cells Z6 24))) HB2.out
            refine ⟨w1.heap.size, A2, k2, rfl, rfl, ⟨put6 J4.out⟩, ⟨HR2.out.1, ?_, fun ad e => ?_⟩, ⟨?_⟩, ⟨Nat.le_refl _⟩⟩
            · with_reducible (repeat (first | exact hC | apply c_drew | refine c_opt ?_ hlt _))
            · have h := HR2.out.2.2 ad e
              simp at h
              omega
            · have e4 : w1.heap.size ≤ w1.heap.size := Nat.le_refl _
              with_reducible (repeat (first | exact D0 | apply below_drew1 | refine below_cell ?_ (by assumption) _)))
      case rest =>
        obtain ⟨g, A2, k2, rfl, rfl, KG, CG, BG, GG⟩ := hcut
        have K2c := Aside0.mk (blk_below K2.out BG.out)
        have hgw : w.heap.size ≠ g := by have := GG.out; have := blk_lt K2.out; omega
        obtain ⟨⟨c20, c21, c22, c23, c24, c25⟩, f2⟩ := six_cells K2c.out
        obtain ⟨⟨c40, c41, c42, c43, c44, c45⟩, f4⟩ := six_cells KG.out
        have DW := Aside0.mk (below_step B1.out BG.out)
        have GP := Aside0.mk (show getP s = if ok = false ∨ formedP b r1 r2 r3 r4 l = false then (0, 0, 0, 0, 0, [], 4) else if endsP r1 r2 r3 r4 = false then (0, 0, 0, 0, 0, [], 3) else (b, r1, r2, r3, r4, l, 0) by
          have hn : ¬ (s.size = 0 ∨ knownP (bt s 0) = false) := by
            rw [← HS.out.2.2, hk]
            intro h
            cases h with
            | inl h => exact HS.out.1 h
            | inr h => cases h
          unfold getP
          rw [if_neg hn, ← HS.out.2.2, ← HR.out])
        clear hone hp hb0 hwb hwb' hw1
        cases hok : ok
        · go_wp2
          refine bodyPost_ret (results_ct rfl _ _ w.heap.size 24 _ (0, 0) _ rfl (put6 K2c.out) Try.underlying24 rfl (by kernel_rfl)) rfl ?_
          rw [HT.out, GP.out, if_pos (.inl hok)]
          refine ⟨⟨_, rfl, rdr_nil _ _⟩, ?_⟩
          have e4 : w.heap.size ≤ w.heap.size := Nat.le_refl _
          have D0 := DW.out
          with_reducible (repeat (first | exact D0 | apply below_drew1 | refine below_cell ?_ (by assumption) _))
        · go_wp2_with fail
          refine (ask_formed.calls 50 b r1 r2 r3 r4 A2 k2 l _ _ CG.out.2.1 CG.out.1 (formed_eq b r1 r2 r3 r4 l 50 (by omega))).mono ?_
          rintro e w4 ⟨rfl, hw4⟩
          have K24 := Aside0.mk (blk_below K2c.out hw4)
          have KG4 := Aside0.mk (blk_below KG.out hw4)
          have DW4 := Aside0.mk (below_step DW.out hw4)
          have CG4 := Aside0.mk (Kd.C_below CG.out.2.1 hw4)
          clear hw4 c20 c21 c22 c23 c24 c25 f2 c40 c41 c42 c43 c44 c45 f4
          obtain ⟨⟨c20, c21, c22, c23, c24, c25⟩, f2⟩ := six_cells K24.out
          obtain ⟨⟨c40, c41, c42, c43, c44, c45⟩, f4⟩ := six_cells KG4.out
          cases hf : formedP b r1 r2 r3 r4 l
          · go_wp2
            refine bodyPost_ret (results_ct rfl _ _ w.heap.size 24 _ (0, 0) _ rfl (put6 K24.out) Try.underlying24 rfl (by kernel_rfl)) rfl ?_
            rw [HT.out, GP.out, if_pos (.inr hf)]
            refine ⟨⟨_, rfl, rdr_nil _ _⟩, ?_⟩
            have e4 : w.heap.size ≤ w.heap.size := Nat.le_refl _
            have D0 := DW4.out
            with_reducible (repeat (first | exact D0 | apply below_drew1 | refine below_cell ?_ (by assumption) _))
          · have HF := Aside0.mk hf
            go_wp2_with fail
            refine (ask_ends.calls b r1 r2 r3 r4 A2 k2 l _ _ CG4.out CG.out.1 (ends_eq b r1 r2 r3 r4 l)).mono ?_
            rintro e w5 ⟨rfl, hw5⟩
            have K25 := Aside0.mk (blk_below K24.out hw5)
            have KG5 := Aside0.mk (blk_below KG4.out hw5)
            have DW5 := Aside0.mk (below_step DW4.out hw5)
            have CG5 := Aside0.mk (Kd.C_below CG4.out hw5)
            clear hw5 c20 c21 c22 c23 c24 c25 f2 c40 c41 c42 c43 c44 c45 f4
            obtain ⟨⟨c20, c21, c22, c23, c24, c25⟩, f2⟩ := six_cells K25.out
            obtain ⟨⟨c40, c41, c42, c43, c44, c45⟩, f4⟩ := six_cells KG5.out
            have hno : ¬ (ok = false ∨ formedP b r1 r2 r3 r4 l = false) := by
              rw [hok, HF.out]; intro h; rcases h with h | h <;> cases h
            have HNO := Aside0.mk hno
            clear hno
            cases he : endsP r1 r2 r3 r4
            · go_wp2
              refine bodyPost_ret (results_ct rfl _ _ w.heap.size 24 _ (0, 0) _ rfl (put6 K25.out) Try.underlying24 rfl (by kernel_rfl)) rfl ?_
              rw [HT.out, GP.out, if_neg HNO.out, if_pos he]
              refine ⟨⟨_, rfl, rdr_nil _ _⟩, ?_⟩
              have e4 : w.heap.size ≤ w.heap.size := Nat.le_refl _
              have D0 := DW5.out
              with_reducible (repeat (first | exact D0 | apply below_drew1 | refine below_cell ?_ (by assumption) _))
            · have HE := Aside0.mk (show ¬ endsP r1 r2 r3 r4 = false by rw [he]; decide)
              go_wp2
              refine bodyPost_ret (results_ct rfl _ _ w.heap.size 24 _ (0, 0) _ rfl (put6 K25.out) Try.underlying24 rfl (by kernel_rfl)) rfl ?_
              rw [HT.out, GP.out, if_neg HNO.out, if_neg HE.out]
              refine ⟨⟨_, rfl, ⟨A2, k2, rfl, CG.out.1, ?_, fun ad e => ?_⟩⟩, ?_⟩
              · have hlt : ∀ ad, A2 = some ad → ad.block ≠ w.heap.size := fun ad e => by
                  have h := CG.out.2.2 ad e
                  have h2 := blk_lt K2.out
                  omega
                have hC := CG5.out
                with_reducible (repeat (first | exact hC | apply c_drew | refine c_opt ?_ hlt _))
              · have h := CG.out.2.2 ad e
                have h2 := B1.out.size
                omega
              have e4 : w.heap.size ≤ w.heap.size := Nat.le_refl _
              have D0 := DW5.out
              with_reducible (repeat (first | exact D0 | apply below_drew1 | refine below_cell ?_ (by assumption) _))
end Go.Proofs.Ytinoabkfekomcaa.AskAskSizes
