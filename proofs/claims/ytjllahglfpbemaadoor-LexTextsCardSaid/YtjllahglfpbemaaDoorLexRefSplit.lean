/- The document's Split, walked by hand. -/
import Derived.Test.YtjllahglfpbemaaDoorLexRefPure
import Derived.Test.YtjllahglfpbemaaDoorLexSplit
namespace Go.Proofs.YtjllahglfpbemaaDoor.PGuardTells
open Go Go.RowKit Go.Proofs.YtjllahglfpbemaaDoorW.PrintWords Go.Proofs.YtjllahglfpbemaaDoorW.PrintLast Go.Proofs.YtjllahglfpbemaaDoorW.PrintMore
set_option maxHeartbeats 4000000
set_option maxRecDepth 100000
set_option linter.unusedVariables false
set_option linter.unusedSimpArgs false
theorem step_dl {c : UInt8} {t : List UInt8} {x : Option (Int × Int) × Nat × Int} (h : stepC c t = some x) : (c = 10 ∧ x = (none, 1, 1)) ∨ (c ≠ 10 ∧ x.2.2 = 0) := by
  unfold stepC at h
  split at h
  · rename_i hc; cases h; exact .inl ⟨hc, rfl⟩
  rename_i h10
  refine .inr ⟨h10, ?_⟩
  split at h
  · cases h; rfl
  split at h
  · cases h; rfl
  split at h
  · cases h; rfl
  split at h
  · obtain ⟨v, _, rfl⟩ := Option.map_eq_some_iff.1 h; rfl
  split at h
  · cases h; rfl
  split at h
  · cases h; rfl
  · cases h
theorem rsplit_in (s : ByteArray) (w : World) (hs : s.size ≤ 1000) : Calls Tryd.prog 14 #[.string s] w fun e w' => SplitTold (outF (lexF s.data.toList 1)) w e w' := by
  obtain ⟨T, hT⟩ : ∃ T : Ending → World → Prop, T = fun e w' => SplitTold (outF (lexF s.data.toList 1)) w e w' := ⟨_, rfl⟩
  have HT := Aside0.mk hT
  rw [← hT]
  clear hT
  have hbig : ¬ (4096 : Int) < (s.size : Int) := by omega
  go_enter Tryd.func14, Tryd.ntmps14
  go_wp2_with fail
  go_loopg [0, 5, 6] s.size (fun gg s0 s5 s6 wr => ∃ (u : ByteArray) (v : Value) (line : Int) (xs : List S28), s0 = .string u ∧ s5 = v ∧ s6 = .int .i64 line ∧ u.size ≤ gg ∧ u.size ≤ 1000 ∧ 0 ≤ line ∧ line ≤ 1001 - (u.size : Int) ∧ xs.length + u.size ≤ 1000 ∧ Aside0 (Kd.R k28 28 wr w.heap.size (fun _ => True) v xs) ∧ Aside0 (Below w.heap.size w wr) ∧ Aside0 (lexF s.data.toList 1 = (lexF u.data.toList line).map (xs ++ ·)))
  case atStart => exact ⟨s, _, 1, [], rfl, rfl, rfl, Nat.le_refl _, hs, by omega, by omega, by simpa using hs, ⟨Kd.R_nil _ _ _ _ _⟩, ⟨Below.refl _ _⟩, ⟨(exc_map_id _ _ (fun _ => rfl)).symm⟩⟩
  case round =>
    obtain ⟨u, v, line, xs, rfl, rfl, rfl, hgg, hu, hl0, hl1, hxl, HV, HB, HL⟩ := hrel
    obtain ⟨A2, c2, rfl, hc2, _⟩ := Kd.R_reads HV.out
    by_cases hlt : 0 < u.size
    · have hltz : (0 : Int) < (u.size : Int) := by omega
      obtain ⟨c, t, hct⟩ : ∃ c t, u.data.toList = c :: t := by
        cases hq : u.data.toList with
        | nil => have h0 := size_list u; rw [hq, List.length_nil] at h0; omega
        | cons c t => exact ⟨c, t, rfl⟩
      have hlen : u.size = t.length + 1 := by rw [size_list, hct]; rfl
      have hlen1 : t.length + 1 ≤ u.size := by omega
      have hu0 : ((u[0]'hlt).toNat : Int) = (c.toNat : Int) := by
        have := (at_drop (s := u) (k := 0) (c := c) (t := t) (by rw [List.drop_zero]; exact hct)).2.1
        rw [this]
      obtain ⟨r, hr, hone⟩ := one_eq u (by rw [← size_list]; omega) c t hct
      obtain ⟨r1, r2, r3, r4, r5, r6⟩ := r
      have C1 := Aside0.mk (fun W => gatewardenref10_one.calls 2000 u r1 r2 r3 r4 r5 r6 W hr)
      have HC := Aside0.mk hct
      clear hct hr hlen
      cases hst : stepC c t with
      | none =>
        rw [hst] at hone
        obtain rfl : r6 = false := hone
        have HST := Aside0.mk hst
        clear hst
        go_wp2_with fail
        refine (C1.out _).mono ?_
        rintro e w2 ⟨rfl, hb⟩
        have HB2 := Aside0.mk (below_then HB.out HB.out.size hb)
        clear hb HV
        go_wp2_with fail
        rw [HT.out, show lexF s.data.toList 1 = .error line from by rw [HL.out, HC.out, lexF_none HST.out]; rfl]
        go_ret3
        exact ⟨_, rfl, Kd.R_nil _ _ _ _ _, HB2.out.alloc HB2.out.size _⟩
      | some x =>
        rw [hst] at hone
        have HST := Aside0.mk hst
        have hp1 := (step_pos hst).1
        have hp2 := (step_pos hst).2
        have hdl := step_dl hst
        clear hst
        have HL2 := Aside0.mk (show lexF s.data.toList 1 = (lexF ((c :: t).drop x.2.1) (line + x.2.2)).map ((xs ++ tokOf (c :: t) line x) ++ ·) from by
          rw [HL.out, HC.out, lexF_some HST.out, exc_map_map]
          congr 1
          funext r
          simp [List.append_assoc])
        have HE := Aside0.mk (show (u.extract x.2.1 u.size).data.toList = (c :: t).drop x.2.1 from by rw [extract_end, HC.out])
        have HES := Aside0.mk (show (u.extract x.2.1 u.size).size + x.2.1 = u.size from by rw [size_list, extract_end, List.length_drop, ← size_list]; omega)
        have SE := slice_end u x.2.1 (by omega)
        clear HL
        obtain ⟨o, n, d⟩ := x
        dsimp only at hp1 hp2 hdl HL2 HE HES SE
        obtain ⟨u2, hu2⟩ : ∃ u2, u2 = u.extract n u.size := ⟨_, rfl⟩
        rw [← hu2] at HE HES SE
        have HU2 := Aside0.mk hu2
        clear hu2
        rw [← HE.out] at HL2
        cases o with
        | none =>
          simp only [oneF] at hone
          obtain ⟨rfl, rfl, rfl, rfl, rfl, rfl⟩ : r1 = 0 ∧ r2 = ⟨#[]⟩ ∧ r3 = 0 ∧ r4 = 0 ∧ r5 = (n : Int) ∧ r6 = true := by simpa using hone
          clear hone
          rcases hdl with ⟨rfl, h2⟩ | ⟨hne, hd0⟩
          · obtain ⟨rfl, rfl⟩ : n = 1 ∧ d = 1 := by simpa using h2
            clear h2
            have hu1 : ((u[0]'hlt).toNat : Int) = 10 := hu0
            clear hu0
            go_wp2_with fail
            refine (C1.out _).mono ?_
            rintro e w2 ⟨rfl, hb⟩
            have HB2 := Aside0.mk (below_then HB.out HB.out.size hb)
            have HV2 := Aside0.mk (Kd.R_below HV.out hb)
            clear hb HV HB
            go_wp2_with fail
            go_roundg u2.size
            case measure => have := HES.out; omega
            case rel => exact ⟨u2, _, line + 1, xs, by rw [HU2.out], rfl, rfl, Nat.le_refl _, by have := HES.out; omega, by omega, by have := HES.out; omega, by have := HES.out; omega, ⟨Kd.R_alloc HV2.out _⟩, ⟨HB2.out.alloc HB2.out.size _⟩, ⟨by have h := HL2.out; simp only [tokOf, List.append_nil] at h; exact h⟩⟩
          · subst hd0
            have hu1 : (((u[0]'hlt).toNat : Int) == 10) = false := by rw [hu0]; exact byte_ne hne
            clear hu0
            go_wp2_with fail
            refine (C1.out _).mono ?_
            rintro e w2 ⟨rfl, hb⟩
            have HB2 := Aside0.mk (below_then HB.out HB.out.size hb)
            have HV2 := Aside0.mk (Kd.R_below HV.out hb)
            clear hb HV HB
            go_wp2_with fail
            go_roundg u2.size
            case measure => have := HES.out; omega
            case rel => exact ⟨u2, _, line, xs, rfl, rfl, rfl, Nat.le_refl _, by have := HES.out; omega, by omega, by have := HES.out; omega, by have := HES.out; omega, ⟨Kd.R_alloc HV2.out _⟩, ⟨HB2.out.alloc HB2.out.size _⟩, ⟨by have h := HL2.out; simp only [tokOf, List.append_nil, Int.add_zero] at h; exact h⟩⟩
        | some q =>
          obtain ⟨kd, num⟩ := q
          simp only [oneF] at hone
          obtain ⟨hone, hkd⟩ := hone
          obtain ⟨rfl, rfl, rfl, rfl, rfl, rfl⟩ : r1 = kd ∧ r2 = strOf ((c :: t).take n) ∧ r3 = num ∧ r4 = 0 ∧ r5 = (n : Int) ∧ r6 = true := by simpa using hone
          clear hone
          have hk0 : (r1 == 0) = false := beq_eq_false_iff_ne.2 hkd
          obtain ⟨hne, hd0⟩ : c ≠ 10 ∧ d = 0 := by
            rcases hdl with ⟨_, h2⟩ | h2
            · simp at h2
            · exact h2
          subst hd0
          have hu1 : (((u[0]'hlt).toNat : Int) == 10) = false := by rw [hu0]; exact byte_ne hne
          clear hu0 hdl hkd
          simp only [tokOf, Int.add_zero] at HL2
          generalize strOf ((c :: t).take n) = tx at C1 HL2
          go_wp2_with fail
          refine (C1.out _).mono ?_
          rintro e w2 ⟨rfl, hb⟩
          have HB2 := Aside0.mk (below_alloc (below_then HB.out HB.out.size hb) (.cells #[.int .i64 r1, .string tx, .int .i64 r3, .int .i64 line] 28))
          have HV2 := Aside0.mk (Kd.R_alloc (Kd.R_below HV.out hb) (.cells #[.int .i64 r1, .string tx, .int .i64 r3, .int .i64 line] 28))
          clear hb HV HB
          go_wp2_with ((with_reducible refine gate_builtin (b := .append) (xs := #[.tmp 30, .tmp 32]) rfl ?_); at_builtin; go_loud (refine Kd.R_append k28 (w0 := w) w.heap.size rfl (.tmp 30) (.tmp 32) 23 28 (.agg #[(.int .i64 0), (.string ⟨#[]⟩), (.int .i64 0), (.int .i64 0)]) 40 rfl Tryd.underlying23 info28 rfl (by decide) (by decide) _ xs (⟨r1, tx, r3, line⟩ : S28) [.int .i64 r1, .string tx, .int .i64 r3, .int .i64 line] (fun _ => True) (fun _ => False) rfl (by show Value.slice _ 1 1 = _; simp) (k28_mkM _ _ _ _) (fun _ hk => hk.elim) (fun _ _ => trivial) HV2.out HB2.out HB2.out.size (by omega) ?_); intro v2 w3 hR2 hB3 hg2 _; have HR2 := Aside0.mk hR2; have HB3 := Aside0.mk hB3; clear hR2 hB3 hg2)
          go_roundg u2.size
          case measure => have := HES.out; omega
          case rel => exact ⟨u2, v2, line, xs ++ [⟨r1, tx, r3, line⟩], rfl, rfl, rfl, Nat.le_refl _, by have := HES.out; omega, by omega, by have := HES.out; omega, by have := HES.out; rw [List.length_append, List.length_singleton]; omega, HR2, HB3, HL2⟩
    · have hz : u.data.toList = [] := List.length_eq_zero_iff.1 (by rw [← size_list]; omega)
      have hltz : ¬ (0 : Int) < (u.size : Int) := by omega
      have HE := Aside0.mk (show lexF s.data.toList 1 = .ok xs from by
        rw [HL.out, hz, lexF_nil]
        simp [Except.map])
      clear hz HL
      go_wp2_with fail
      rw [HT.out, HE.out]
      go_ret3
      exact ⟨_, rfl, HV.out, HB.out⟩
end Go.Proofs.YtjllahglfpbemaaDoor.PGuardTells
