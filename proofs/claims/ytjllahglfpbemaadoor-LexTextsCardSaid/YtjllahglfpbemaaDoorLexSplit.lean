/- lex.Split, walked by hand. -/
import Derived.Test.YtjllahglfpbemaaDoorLexNext
import Derived.WalkMore
namespace Go.Proofs.YtjllahglfpbemaaDoor.PGuardTells
open Go Go.RowKit Go.Proofs.YtjllahglfpbemaaDoorW.PrintWords Go.Proofs.YtjllahglfpbemaaDoorW.PrintLast Go.Proofs.YtjllahglfpbemaaDoorW.PrintMore
set_option maxHeartbeats 4000000
set_option maxRecDepth 100000
set_option linter.unusedVariables false
set_option linter.unusedSimpArgs false
theorem byte_ne {c d : UInt8} (h : ¬ c = d) : ((c.toNat : Int) == ((d.toNat : Nat) : Int)) = false := by
  rw [beq_eq_false_iff_ne]
  intro h2
  exact h (UInt8.toNat_inj.1 (by omega))
theorem at_drop {s : ByteArray} {k : Nat} {c : UInt8} {t : List UInt8} (h : s.data.toList.drop k = c :: t) : ∃ hk : k < s.size, s[k]'hk = c ∧ s.size = k + (t.length + 1) := by
  have hlen := congrArg List.length h
  rw [List.length_drop, List.length_cons, ← size_list] at hlen
  have hk : k < s.size := by omega
  refine ⟨hk, ?_, by omega⟩
  have hk2 : k < s.data.toList.length := by rw [← size_list]; exact hk
  rw [List.drop_eq_getElem_cons hk2] at h
  have h2 := (List.cons.inj h).1
  rw [← h2, Array.getElem_toList]
  rfl
theorem text_eq {s : ByteArray} {k n : Nat} {l : List UInt8} (h : s.data.toList.drop k = l) : strOf (l.take n) = s.extract k (k + n) := by
  apply ext_list
  rw [strOf_list, extract_list, List.drop_take, show k + n - k = n by omega, h]
theorem lead_no {c : UInt8} {t : List UInt8} (h : ¬ ten.contains c = true) : lead (c :: t) = 0 := by unfold lead; rw [List.takeWhile_cons, if_neg h]; rfl
theorem letters_no {c : UInt8} {t : List UInt8} (h : ¬ abc.contains c = true) : letters (c :: t) = 0 := by unfold letters; rw [List.takeWhile_cons, if_neg h]; rfl
theorem next_some (w0 : World) (B p : Nat) (s : ByteArray) (k : Nat) (line : Int) (xs : List S28) (w : World) (h : ST w0 w B p s k line xs) (c : UInt8) (t : List UInt8) (hct : s.data.toList.drop k = c :: t) (hs : s.size ≤ 4096) (hl0 : 0 ≤ line) (hl1 : line ≤ 5000) (hl : xs.length ≤ 4096) :
    (∀ x, stepC c t = some x → Calls Tryd.prog 33 #[.pointer (some ⟨p, 0, none⟩)] w fun e w' => e = .returned (.bool true) ∧ ST w0 w' B p s (k + x.2.1) (line + x.2.2) (xs ++ tokOf (c :: t) line x)) ∧
    (stepC c t = none → Calls Tryd.prog 33 #[.pointer (some ⟨p, 0, none⟩)] w fun e w' => e = .returned (.bool false) ∧ ST w0 w' B p s k line xs) := by
  obtain ⟨hk, hc, hsz⟩ := at_drop hct
  have hlet : letters (c :: t) ≤ t.length + 1 := letters_le (c :: t)
  have hlead : lead (c :: t) ≤ t.length + 1 := lead_le (c :: t)
  unfold stepC
  by_cases h10 : c = 10
  · rw [if_pos h10]
    refine ⟨fun x hx => ?_, fun hx => by cases hx⟩
    cases hx
    have := next_skip w0 B p s (k + 1) (line + 1) xs w (skip_lf w0 B p s k line xs w h hk hs hl0 hl1 (by rw [hc, h10]; rfl))
    simpa [tokOf] using this
  rw [if_neg h10]
  by_cases hb : c = 32 ∨ c = 9 ∨ c = 13
  · rw [if_pos hb]
    refine ⟨fun x hx => ?_, fun hx => by cases hx⟩
    cases hx
    have := next_skip w0 B p s (k + 1) line xs w (skip_blank w0 B p s k line xs w h hk hs hl0 hl1 (by rw [hc]; rcases hb with rfl | rfl | rfl; exact .inl rfl; exact .inr (.inl rfl); exact .inr (.inr rfl)))
    simpa [tokOf] using this
  rw [if_neg hb]
  by_cases h35 : c = 35
  · rw [if_pos h35]
    refine ⟨fun x hx => ?_, fun hx => by cases hx⟩
    cases hx
    have := next_skip w0 B p s _ line xs w (skip_rem w0 B p s k line xs w h hk hs (by rw [hc, h35]; rfl))
    rw [hct, List.takeWhile_cons, if_pos (by rw [h35]; rfl), List.length_cons, Nat.add_comm _ 1] at this
    simpa [tokOf] using this
  rw [if_neg h35]
  have hno := skip_no w0 B p s k line xs w h hk hs hl0 hl1 (by rw [hc]; exact byte_ne h10) (by rw [hc]; exact byte_ne (fun e => hb (.inl e))) (by rw [hc]; exact byte_ne (fun e => hb (.inr (.inl e)))) (by rw [hc]; exact byte_ne (fun e => hb (.inr (.inr e)))) (by rw [hc]; exact byte_ne h35)
  by_cases habc : abc.contains c = true
  · rw [if_pos habc]
    refine ⟨fun x hx => ?_, fun hx => by cases hx⟩
    cases hx
    have := next_word w0 B p s k (letters (c :: t)) line xs w hno (by rw [hct]) (by rw [letters_cons habc]; omega) (by omega) hs hl
    simpa [tokOf, text_eq hct] using this
  rw [if_neg habc]
  by_cases hten : ten.contains c = true
  · rw [if_pos hten]
    have hlet0 := letters_no (t := t) habc
    cases hr : readF (List.take (lead (c :: t)) (c :: t)) with
    | none =>
      refine ⟨(fun x hx => by cases hx), fun _ => ?_⟩
      exact next_bad w0 B p s k (lead (c :: t)) line xs w hno (by rw [hct]; exact hlet0) (by rw [hct]) (by rw [lead_cons hten]; omega) (by rw [hct]; exact hr) (by omega) hs hl
    | some v =>
      refine ⟨fun x hx => ?_, fun hx => by cases hx⟩
      cases hx
      have := next_num w0 B p s k (lead (c :: t)) line xs w hno (by rw [hct]; exact hlet0) (by rw [hct]) (by rw [lead_cons hten]; omega) v (by rw [hct]; exact hr) (by omega) hs hl
      simpa [tokOf, text_eq hct] using this
  rw [if_neg hten]
  have hlet0 := letters_no (t := t) habc
  have hlead0 := lead_no (t := t) hten
  by_cases hm : c = 40 ∨ c = 41 ∨ c = 44 ∨ c = 59
  · rw [if_pos hm]
    refine ⟨fun x hx => ?_, fun hx => by cases hx⟩
    cases hx
    have := next_mark w0 B p s k line xs w hno (by rw [hct]; exact hlet0) (by rw [hct]; exact hlead0) hk (by rw [hc]; rcases hm with rfl | rfl | rfl | rfl; exact .inl rfl; exact .inr (.inl rfl); exact .inr (.inr (.inl rfl)); exact .inr (.inr (.inr rfl))) hs hl
    rw [← text_eq (n := 1) hct] at this
    simpa [tokOf] using this
  rw [if_neg hm]
  by_cases h45 : c = 45
  · rw [if_pos h45]
    refine ⟨fun x hx => ?_, fun hx => by cases hx⟩
    cases hx
    have := next_minus w0 B p s k line xs w hno (by rw [hct]; exact hlet0) (by rw [hct]; exact hlead0) hk (by rw [hc, h45]; rfl) hs hl
    rw [← text_eq (n := 1) hct] at this
    simpa [tokOf] using this
  rw [if_neg h45]
  refine ⟨(fun x hx => by cases hx), fun _ => ?_⟩
  exact next_none w0 B p s k line xs w hno (by rw [hct]; exact hlet0) (by rw [hct]; exact hlead0) hk (by rw [hc]; exact byte_ne (fun e => hm (.inl e))) (by rw [hc]; exact byte_ne (fun e => hm (.inr (.inl e)))) (by rw [hc]; exact byte_ne (fun e => hm (.inr (.inr (.inl e))))) (by rw [hc]; exact byte_ne (fun e => hm (.inr (.inr (.inr e))))) (by rw [hc]; exact byte_ne h45) hs hl
def SplitTold (r : List S28 × Int × Int) (w : World) (e : Ending) (w' : World) : Prop := ∃ v, e = .returned (.tuple #[v, .int .i64 r.2.1, .int .i64 r.2.2]) ∧ Kd.R k28 28 w' w.heap.size (fun _ => True) v r.1 ∧ Below w.heap.size w w'
theorem split_big (s : ByteArray) (w : World) (hs : (4096 : Int) < (s.size : Int)) : Calls Tryd.prog 12 #[.string s] w fun e w' => SplitTold ([], 0, 9) w e w' := by
  obtain ⟨T, hT⟩ : ∃ T : Ending → World → Prop, T = fun e w' => SplitTold ([], 0, 9) w e w' := ⟨_, rfl⟩
  have HT := Aside0.mk hT
  rw [← hT]
  clear hT
  go_enter Tryd.func12, Tryd.ntmps12
  go_wp2_with fail
  go_step3
  go_wp2_with fail
  rw [Exit.noGoto_ret]
  rw [HT.out]
  go_ret3
  exact ⟨_, rfl, Kd.R_nil _ _ _ _ _, Below.refl _ _⟩
theorem split_in (s : ByteArray) (w : World) (hs : s.size ≤ 4096) : Calls Tryd.prog 12 #[.string s] w fun e w' => SplitTold (outF (lexF s.data.toList 1)) w e w' := by
  obtain ⟨T, hT⟩ : ∃ T : Ending → World → Prop, T = fun e w' => SplitTold (outF (lexF s.data.toList 1)) w e w' := ⟨_, rfl⟩
  have HT := Aside0.mk hT
  rw [← hT]
  clear hT
  have hbig : ¬ (4096 : Int) < (s.size : Int) := by omega
  have H0 := Aside0.mk (show ST w (w.alloc (.cells #[.string s, .int .i64 0, .int .i64 1, .slice none 0 0] 52)) w.heap.size w.heap.size s 0 1 [] from ⟨Nat.le_refl _, ⟨_, blk_new w _, Kd.R_nil _ _ _ _ _⟩, below_alloc (Below.refl _ _) _⟩)
  go_enter Tryd.func12, Tryd.ntmps12
  go_wp2_with fail
  go_step3
  go_wp2_with fail
  go_step3
  go_wp2_with fail
  generalize w.alloc (.cells #[.string s, .int .i64 0, .int .i64 1, .slice none 0 0] 52) = w1 at H0 ⊢
  obtain ⟨p, hp⟩ : ∃ p, p = w.heap.size := ⟨_, rfl⟩
  rw [← hp] at H0 ⊢
  have HP := Aside0.mk hp
  clear hp
  go_loopg [] s.size (fun gg wr => ∃ (k : Nat) (line : Int) (xs : List S28), k ≤ s.size ∧ s.size - k ≤ gg ∧ 0 ≤ line ∧ line ≤ (k : Int) + 1 ∧ xs.length ≤ k ∧ Aside0 (ST w wr p p s k line xs) ∧ Aside0 (lexF s.data.toList 1 = (lexF (s.data.toList.drop k) line).map (xs ++ ·)))
  case atStart => exact ⟨0, 1, [], Nat.zero_le _, by omega, by omega, by omega, Nat.le_refl _, H0, ⟨(exc_map_id _ _ (fun _ => rfl)).symm⟩⟩
  case round =>
    obtain ⟨k, line, xs, hk, hgg, hl0, hl1, hxl, HS, HL⟩ := hrel
    obtain ⟨v, hrv, hRv⟩ := HS.out.rd
    obtain ⟨⟨c0, c1, c2, c3⟩, f1, f2, f3⟩ := rd_cells hrv
    have HRV := Aside0.mk hRv
    clear hrv hRv
    by_cases hlt : k < s.size
    · have hltz : (k : Int) < (s.size : Int) := by omega
      obtain ⟨c, t, hct⟩ : ∃ c t, s.data.toList.drop k = c :: t := by
        have hk2 : k < s.data.toList.length := by rw [← size_list]; exact hlt
        exact ⟨_, _, List.drop_eq_getElem_cons hk2⟩
      have hlen : k + (t.length + 1) ≤ s.size := by have := (at_drop hct).2.2; omega
      have HN := Aside0.mk (next_some w p p s k line xs wr HS.out c t hct hs hl0 (by omega) (by omega))
      have HC := Aside0.mk hct
      clear hct
      cases hst : stepC c t with
      | none =>
        have HST := Aside0.mk hst
        have CN := Aside0.mk (HN.out.2 hst)
        clear hst HN
        go_wp2_with fail
        refine CN.out.mono ?_
        rintro e w2 ⟨rfl, h2⟩
        have H2 := Aside0.mk h2
        clear h2 c0 c1 c2 c3 f1 f2 f3 HRV v
        obtain ⟨v, ⟨c0, c1, c2, c3⟩, f1, f2, f3⟩ := H2.out.cells
        go_wp2_with fail
        go_quiet (fail)
        go_wp2_with fail
        have HE := Aside0.mk (show lexF s.data.toList 1 = .error line from by rw [HL.out, HC.out, lexF_none HST.out]; rfl)
        clear c0 c1 c2 c3 f1 f2 f3
        rw [Exit.noGoto_ret]
        rw [HT.out, HE.out]
        go_ret3
        exact ⟨_, rfl, Kd.R_nil _ _ _ _ _, by rw [← HP.out]; exact (H2.out.drew _).below⟩
      | some x =>
        have HST := Aside0.mk hst
        have CN := Aside0.mk (HN.out.1 x hst)
        have hp1 := (step_pos hst).1
        have hp2 := (step_pos hst).2
        have hdl : 0 ≤ x.2.2 ∧ x.2.2 ≤ x.2.1 := by
          have h1 := step_lfs hst
          have h2 : lfs ((c :: t).take x.2.1) ≤ x.2.1 := Nat.le_trans List.countP_le_length (by rw [List.length_take]; omega)
          omega
        have htl : (tokOf (c :: t) line x).length ≤ x.2.1 := by
          obtain ⟨o, n, d⟩ := x
          cases o with
          | none => exact Nat.zero_le _
          | some q => exact hp1
        clear hst HN
        go_wp2_with fail
        refine CN.out.mono ?_
        rintro e w2 ⟨rfl, h2⟩
        have H2 := Aside0.mk h2
        clear h2 c0 c1 c2 c3 f1 f2 f3 HRV v
        go_wp2_with fail
        have HL2 := Aside0.mk (show lexF s.data.toList 1 = (lexF (s.data.toList.drop (k + x.2.1)) (line + x.2.2)).map ((xs ++ tokOf (c :: t) line x) ++ ·) from by
          rw [HL.out, HC.out, lexF_some HST.out, exc_map_map, ← HC.out, List.drop_drop]
          congr 1
          funext r
          simp [List.append_assoc])
        go_roundg (s.size - (k + x.2.1))
        case measure => omega
        case rel => exact ⟨k + x.2.1, line + x.2.2, xs ++ tokOf (c :: t) line x, by omega, Nat.le_refl _, by omega, by omega, by rw [List.length_append]; omega, H2, HL2⟩
    · have hke : k = s.size := by omega
      subst hke
      have hltz : ¬ ((s.size : Int) < (s.size : Int)) := by omega
      go_wp2_with fail
      have HE := Aside0.mk (show lexF s.data.toList 1 = .ok xs from by
        rw [HL.out, show s.data.toList.drop s.size = [] from List.drop_eq_nil_of_le (by rw [← size_list]; exact Nat.le_refl _), lexF_nil]
        simp [Except.map])
      clear c0 c1 c2 c3 f1 f2 f3
      rw [HT.out, HE.out]
      go_ret3
      exact ⟨_, rfl, Kd.R_mono (by rw [HP.out] at HRV; exact HRV.out) (fun _ _ => trivial), by rw [← HP.out]; exact HS.out.below⟩
/-- lex.Split, whatever the text. -/
theorem split_calls (s : ByteArray) (w : World) : Calls Tryd.prog 12 #[.string s] w fun e w' => SplitTold (splitF s) w e w' := by
  unfold splitF
  by_cases h : (s.size : Int) > 4096
  · rw [if_pos h]; exact split_big s w h
  · rw [if_neg h]; exact split_in s w (by omega)
end Go.Proofs.YtjllahglfpbemaaDoor.PGuardTells
