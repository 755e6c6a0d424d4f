/- What the document's reading of a request is, beside what ask.Get tells (plainly). -/
import Derived.Test.YtinoabkfekomcaaAskRef
namespace Go.Proofs.Ytinoabkfekomcaa.AskAskSizes
open Go Go.RowKit Go.Proofs.Ytinoabkfekomcaa.PAskSizes Go.Proofs.YtinoabkfekomcaaW.PrintWords Go.Proofs.YtinoabkfekomcaaW.PrintLast Go.Proofs.Ytinoabkfekomcaa.Base Go.Proofs.Ytinoabkfekomcaa.RepAskSizes Go.Proofs.Ytinoabkfekomcaa.CoilAskSizes Go.Proofs.Ytinoabkfekomcaa.Coil
set_option maxRecDepth 100000
set_option linter.unusedVariables false
/-- What the reference reads, beside what is read. -/
def Alike (q r : Req) : Prop := q = r ∨ (q.2.2.2.2.2 = false ∧ r.2.2.2.2.2 = false)
theorem rread_eq (s : ByteArray) (h1 : 1 ≤ s.size) (hs : s.size ≤ 300) (hk : Knows (bt s 0)) (m : Nat) (hm : 5000 ≤ m) : ∃ q : Req, gatewardenref06_read.f (m + 6) s = some (bt s 0, q) ∧ Alike q (readP (bt s 0) (s.extract 1 s.size)) := by
  have hz := ext_size s 1
  have a1 := rat_eq s 1 (by omega)
  have a3 := rat_eq s 3 (by omega)
  have a5 := rat_eq s 5 (by omega)
  have a7 := rat_eq s 7 (by omega)
  have x0 : w16 (s.extract 1 s.size) 0 = w16 s 1 := w16_ext s 1 0
  have x2 : w16 (s.extract 1 s.size) 2 = w16 s 3 := w16_ext s 1 2
  have x4 : w16 (s.extract 1 s.size) 4 = w16 s 5 := w16_ext s 1 4
  have x6 : w16 (s.extract 1 s.size) 6 = w16 s 7 := w16_ext s 1 6
  have g3 := w16_rg s 3
  have g7 := w16_rg s 7
  have y4 : (s.extract 1 s.size).extract 4 (s.extract 1 s.size).size = s.extract 5 s.size := ext_ext s 1 4
  have y8 : (s.extract 1 s.size).extract 8 (s.extract 1 s.size).size = s.extract 9 s.size := ext_ext s 1 8
  have hb := bt_range s 0
  have hw : wrap64 (bt s 0) = bt s 0 := w64 (by omega) (by omega)
  unfold gatewardenref06_read.f readP
  rw [if_pos (show (0 : Int) < (s.size : Int) by omega), hw, x0, x2, x4, x6, y4, y8]
  clear x0 x2 x4 x6 y4 y8
  generalize w16 s 1 = u1 at a1 ⊢
  generalize w16 s 3 = u3 at a3 g3 ⊢
  generalize w16 s 5 = u5 at a5 ⊢
  generalize w16 s 7 = u7 at a7 g7 ⊢
  generalize bt s 0 = fc at hk hw hb
  have easy : fc = 1 ∨ fc = 2 ∨ fc = 3 ∨ fc = 4 → ∃ q : Req, ((gatewardenref06_at.f s 1).bind fun t310 => ((gatewardenref06_at.f s 3).bind fun t311 => (gatewardenref06_read.j3 (m + 5) fc ((s.size : Int) == 5) fc t310 t311 0 0 ([] : List Int)))) = some (fc, q) ∧
      Alike q (if (s.extract 1 s.size).size < 4 then (0, 0, 0, 0, [], false) else (u1, u3, 0, 0, [], (((s.extract 1 s.size).size : Int) == 4))) := by
    intro hfc
    have e1 : gatewardenref06_at.f s 1 = _ := a1
    have e3 : gatewardenref06_at.f s 3 = _ := a3
    rw [e1, e3, Option.bind_some, Option.bind_some]
    simp only [gatewardenref06_read.j3, gatewardenref06_read.j4]
    rw [if_neg (by omega), if_neg (by decide), if_neg (by omega)]
    refine ⟨_, rfl, ?_⟩
    by_cases h : s.size = 5
    · left
      rw [if_pos (by omega), if_pos (by omega), if_neg (by omega), hz, h]; rfl
    · right
      refine ⟨by simp; omega, ?_⟩
      split
      · rfl
      · show (((s.extract 1 s.size).size : Int) == 4) = false
        rw [beq_eq_false_iff_ne]; omega
  rcases hk with rfl | rfl | rfl | rfl | rfl | rfl | rfl | rfl | rfl | rfl
  · rw [if_pos (by decide)]
    simp only [gatewardenref06_read.j0]
    rw [if_pos (by decide), if_neg (by decide), if_neg (by decide), if_pos (show (1 : Int) ≤ 4 by decide)]
    exact easy (.inl rfl)
  · rw [if_neg (by decide), if_pos (by decide)]
    simp only [gatewardenref06_read.j0]
    rw [if_pos (by decide), if_neg (by decide), if_neg (by decide), if_pos (show (2 : Int) ≤ 4 by decide)]
    exact easy (.inr (.inl rfl))
  · rw [if_neg (by decide), if_neg (by decide), if_pos (by decide)]
    simp only [gatewardenref06_read.j0]
    rw [if_pos (by decide), if_neg (by decide), if_neg (by decide), if_pos (show (3 : Int) ≤ 4 by decide)]
    exact easy (.inr (.inr (.inl rfl)))
  · rw [if_neg (by decide), if_neg (by decide), if_neg (by decide)]
    simp only [gatewardenref06_read.j0]
    rw [if_pos (by decide), if_neg (by decide), if_neg (by decide), if_pos (show (4 : Int) ≤ 4 by decide)]
    exact easy (.inr (.inr (.inr rfl)))
  all_goals
    have e1 : gatewardenref06_at.f s 1 = _ := a1
    have e3 : gatewardenref06_at.f s 3 = _ := a3
    have e5 : gatewardenref06_at.f s 5 = _ := a5
    have e7 : gatewardenref06_at.f s 7 = _ := a7
    have j3p : ∀ (k : Nat) (fc : Int) (b : Bool) (x1 x2 x3 x4 x5 : Int) (l : List Int), fc ≠ 5 → gatewardenref06_read.j3 (k + 2) fc b x1 x2 x3 x4 x5 l = some (x1, x2, x3, x4, x5, l, b) := by
      intro k fc b x1 x2 x3 x4 x5 l h
      simp only [gatewardenref06_read.j3, gatewardenref06_read.j4]
      rw [if_neg h, if_neg (by decide), if_neg h]
    have x5 : (if 5 + 1 < s.size then u5 else (-1 : Int)) = if 6 < s.size then u5 else (-1 : Int) := rfl
    rw [if_neg (by decide), if_neg (by decide), if_neg (by decide)]
    simp only [gatewardenref06_read.j0]
    rw [if_neg (by decide)]
    clear a1 a3 a5 a7 easy
  · rw [if_pos trivial]
    simp only [gatewardenref06_read.j1]
    rw [if_pos (show ((5 : Int) == 5) = true by decide), e1, Option.bind_some, e3, Option.bind_some]
    simp only [gatewardenref06_read.j3, gatewardenref06_read.j4]
    have hr : ∀ v : Int, rd [v] 0 = v := fun v => rfl
    have hl1 : ∀ v : Int, (([v] : List Int).length : Int) = 1 := fun v => rfl
    rw [if_pos trivial, hl1, hr, if_pos (show (0 : Int) < 1 by decide)]
    rw [if_neg (show ¬ (5 : Int) = 22 by decide), if_neg (show ¬ (5 : Int) = 23 by decide), if_neg (show ¬ (5 : Int) ≤ 4 by decide)]
    by_cases h5 : 5 ≤ s.size
    · rw [if_pos (show 3 + 1 < s.size by omega), if_pos (show 1 + 1 < s.size by omega), if_neg (show ¬ (s.extract 1 s.size).size < 4 by omega), if_pos trivial]
      have ez : (((s.extract 1 s.size).size : Int) == 4) = ((s.size : Int) == 5) := by
        by_cases h : s.size = 5
        · rw [hz, h]; rfl
        · rw [beq_eq_false_iff_ne.2 (by omega), beq_eq_false_iff_ne.2 (by omega)]
      rw [ez]
      by_cases hv1 : u3 = 65280
      · subst hv1
        rw [if_pos (by decide), if_pos (show (0 : Int) < 1 by decide)]
        refine ⟨_, rfl, .inl ?_⟩
        rw [show ((65280 : Int) % 65280 == 0) = true from rfl, Bool.and_true]; rfl
      · rw [if_neg (by simpa using hv1), if_pos trivial, if_pos (show (0 : Int) < 1 by decide)]
        by_cases hv0 : u3 = 0
        · subst hv0
          rw [if_pos rfl]
          refine ⟨_, rfl, .inl ?_⟩
          rw [show ((0 : Int) % 65280 == 0) = true from rfl, Bool.and_true]; rfl
        · rw [if_neg hv0]
          refine ⟨_, rfl, .inr ⟨rfl, ?_⟩⟩
          show (((s.size : Int) == 5) && (u3 % 65280 == 0)) = false
          rw [beq_eq_false_iff_ne.2 (show u3 % 65280 ≠ 0 by omega), Bool.and_false]
    · rw [if_neg (show ¬ 3 + 1 < s.size by omega), if_neg (by decide), if_pos trivial, if_pos (show (0 : Int) < 1 by decide), if_neg (by decide), if_pos (show (s.extract 1 s.size).size < 4 by omega)]
      exact ⟨_, rfl, .inr ⟨rfl, rfl⟩⟩
  · rw [if_neg (by decide)]
    simp only [gatewardenref06_read.j1]
    rw [if_pos (by decide), e1, Option.bind_some, e3, Option.bind_some, j3p _ _ _ _ _ _ _ _ _ (by decide)]
    refine ⟨_, rfl, ?_⟩
    by_cases h : s.size = 5
    · left
      rw [if_pos (by omega), if_pos (by omega), if_neg (by decide), if_neg (by decide), if_neg (by omega), if_neg (by decide), if_neg (by decide), if_pos trivial, hz, h]; rfl
    · right
      refine ⟨by simp; omega, ?_⟩
      rw [if_neg (by decide), if_neg (by decide)]
      split
      · rfl
      · show (((s.extract 1 s.size).size : Int) == 4) = false
        rw [beq_eq_false_iff_ne]; omega
  · rw [if_neg (by decide)]
    simp only [gatewardenref06_read.j1]
    rw [if_neg (by decide), if_neg (by decide), if_pos trivial]
    simp only [gatewardenref06_read.j2]
    rw [if_pos (by decide), e1, Option.bind_some, e3, Option.bind_some]
    by_cases h : 5 ≤ s.size
    · have hv := values_eq s 5 15 u3 hs (by decide) g3 (m + 3) (by omega)
      rw [if_pos (show 1 + 1 < s.size by omega), if_pos (show 3 + 1 < s.size by omega), show (5 : Int) = ((5 : Nat) : Int) from rfl, hv, Option.bind_some, j3p _ _ _ _ _ _ _ _ _ (by decide)]
      refine ⟨_, rfl, .inl ?_⟩
      rw [if_neg (by decide), if_neg (by decide), if_neg (by omega), if_neg (by decide), if_neg (by decide), if_neg (by decide)]
    · have hv := values_no s 5 15 (if 3 + 1 < s.size then u3 else -1) (by omega) (m + 2)
      rw [show (5 : Int) = ((5 : Nat) : Int) from rfl, hv, Option.bind_some, j3p _ _ _ _ _ _ _ _ _ (by decide)]
      refine ⟨_, rfl, .inr ⟨rfl, ?_⟩⟩
      rw [if_neg (by decide), if_neg (by decide), if_pos (by omega)]
  · rw [if_neg (by decide)]
    simp only [gatewardenref06_read.j1]
    rw [if_neg (by decide), if_neg (by decide), if_neg (by decide)]
    simp only [gatewardenref06_read.j2]
    rw [if_pos (by decide), e1, Option.bind_some, e3, Option.bind_some]
    by_cases h : 5 ≤ s.size
    · have hv := values_eq s 5 16 u3 hs (by decide) g3 (m + 3) (by omega)
      rw [if_pos (show 1 + 1 < s.size by omega), if_pos (show 3 + 1 < s.size by omega), show (5 : Int) = ((5 : Nat) : Int) from rfl, hv, Option.bind_some, j3p _ _ _ _ _ _ _ _ _ (by decide)]
      refine ⟨_, rfl, .inl ?_⟩
      rw [if_neg (by decide), if_neg (by decide), if_neg (by omega), if_neg (by decide), if_neg (by decide), if_neg (by decide)]
    · have hv := values_no s 5 16 (if 3 + 1 < s.size then u3 else -1) (by omega) (m + 2)
      rw [show (5 : Int) = ((5 : Nat) : Int) from rfl, hv, Option.bind_some, j3p _ _ _ _ _ _ _ _ _ (by decide)]
      refine ⟨_, rfl, .inr ⟨rfl, ?_⟩⟩
      rw [if_neg (by decide), if_neg (by decide), if_pos (by omega)]
  · rw [if_neg (by decide)]
    simp only [gatewardenref06_read.j1]
    rw [if_neg (by decide), if_pos trivial, e1, Option.bind_some, e3, Option.bind_some, e5, Option.bind_some, j3p _ _ _ _ _ _ _ _ _ (by decide)]
    refine ⟨_, rfl, ?_⟩
    by_cases h : s.size = 7
    · left
      rw [if_pos (by omega), if_pos (by omega), if_pos (by omega), if_pos trivial, if_neg (by omega), hz, h]; rfl
    · right
      refine ⟨by simp; omega, ?_⟩
      rw [if_pos trivial]
      split
      · rfl
      · show (((s.extract 1 s.size).size : Int) == 6) = false
        rw [beq_eq_false_iff_ne]; omega
  · rw [if_neg (by decide)]
    simp only [gatewardenref06_read.j1]
    rw [if_neg (by decide), if_neg (by decide), if_neg (by decide)]
    simp only [gatewardenref06_read.j2]
    rw [if_neg (by decide), e1, Option.bind_some, e3, Option.bind_some, e5, Option.bind_some, e7, Option.bind_some]
    by_cases h : 9 ≤ s.size
    · have hv := values_eq s 9 23 u7 hs (by decide) g7 (m + 3) (by omega)
      rw [if_pos (show 1 + 1 < s.size by omega), if_pos (show 3 + 1 < s.size by omega), if_pos (show 5 + 1 < s.size by omega), if_pos (show 7 + 1 < s.size by omega), show (9 : Int) = ((9 : Nat) : Int) from rfl, hv, Option.bind_some, j3p _ _ _ _ _ _ _ _ _ (by decide)]
      refine ⟨_, rfl, .inl ?_⟩
      rw [if_neg (by decide), if_pos trivial, if_neg (by omega)]
      rfl
    · have hv := values_no s 9 23 (if 7 + 1 < s.size then u7 else -1) (by omega) (m + 2)
      rw [show (9 : Int) = ((9 : Nat) : Int) from rfl, hv, Option.bind_some, j3p _ _ _ _ _ _ _ _ _ (by decide)]
      refine ⟨_, rfl, .inr ⟨rfl, ?_⟩⟩
      rw [if_neg (by decide), if_pos trivial, if_pos (by omega)]
theorem tail_len (s : ByteArray) (bits : Bool) (many : Int) (hs : s.size ≤ 300) (hm : 0 ≤ many ∧ many ≤ 65535) : (tailP s bits many).1.length ≤ 65535 := by
  have hz := ext_size s 1
  unfold tailP
  split
  · decide
  split
  · unfold CoilAskSizes.get
    split
    · rw [bitsOf_length]; omega
    · decide
  · unfold getAll
    split
    · decide
    · rename_i hh
      have := (un_rg ((s.extract 1 s.size).size / 2) (bytesOf (s.extract 1 s.size)) (by rw [bytesOf_length]; omega) (bytes_bound _)).2
      show (un (bytesOf (s.extract 1 s.size))).length ≤ 65535
      omega
theorem read_len (fc : Int) (s : ByteArray) (hs : s.size ≤ 300) : (readP fc s).2.2.2.2.1.length ≤ 65535 := by
  have g2 := w16_rg s 2
  have g6 := w16_rg s 6
  have z4 := ext_size s 4
  have z8 := ext_size s 8
  unfold readP
  split
  · split
    · decide
    · show [w16 s 2, w16 s 4].length ≤ 65535
      simp
  split
  · split
    · decide
    · exact tail_len _ _ _ (by omega) g6
  split
  · decide
  split
  · exact Nat.zero_le _
  split
  · show [w16 s 2 / 65280].length ≤ 65535
    simp
  split
  · show [w16 s 2].length ≤ 65535
    simp
  · exact tail_len _ _ _ (by omega) g2
theorem refGet_eq (s : ByteArray) (hs : s.size ≤ 300) : gatewardenref06_Get.f 80000 s = some (getP s) := by
  unfold gatewardenref06_Get.f getP
  by_cases h0 : s.size = 0
  · rw [if_pos (by omega), if_pos (.inl h0)]
    simp only [gatewardenref06_Get.j0]
    rw [if_pos trivial]
  have hb := bt_range s 0
  have hz := ext_size s 1
  have hw : wrap64 (bt s 0) = bt s 0 := w64 (by omega) (by omega)
  rw [if_neg (by omega), if_pos (by omega), hw, refKnown_eq, Option.bind_some]
  simp only [gatewardenref06_Get.j0]
  by_cases hk : knownP (bt s 0) = false
  · rw [if_pos (show s.size = 0 ∨ knownP (bt s 0) = false from .inr hk), if_pos (by show (!knownP (bt s 0)) = true; rw [hk]; rfl)]
  rw [if_neg (show ¬ (s.size = 0 ∨ knownP (bt s 0) = false) from fun h => h.elim h0 hk)]
  replace hk : knownP (bt s 0) = true := by simpa using hk
  have hk' : ¬ (!(ofP (bt s 0)).2.2.2.2) = true := by
    show ¬ (!knownP (bt s 0)) = true
    rw [hk]; decide
  rw [if_neg hk']
  obtain ⟨q, hq, ha⟩ := rread_eq s (by omega) hs (knows hk) 79993 (by decide)
  rw [hq, Option.bind_some]
  have hl := read_len (bt s 0) (s.extract 1 s.size) (by omega)
  rcases ha with rfl | ⟨ha, hb'⟩
  · generalize readP (bt s 0) (s.extract 1 s.size) = r at hl ⊢
    obtain ⟨r1, r2, r3, r4, r5, r6⟩ := r
    cases r6
    · show (if (false : Bool) = true then _ else _) = some (if false = false ∨ _ then _ else _)
      rw [if_neg (show ¬ (false : Bool) = true by decide), if_pos (show false = false ∨ _ from .inl rfl)]
      simp only [gatewardenref06_Get.j1]
      rw [if_pos trivial]
    · have hl : r5.length ≤ 65535 := hl
      have hF := refFormed_eq (bt s 0) r1 r2 r3 r4 r5 (by omega) 79999 (by omega)
      have hR := refRight_eq (bt s 0) r1 r2 r3 r4 r5 (by omega) 79998 (by omega)
      show (if (true : Bool) = true then ((gatewardenref06_Formed.f 79999 (bt s 0) r1 r2 r3 r4 r5).bind _) else _) = _
      rw [if_pos rfl, hF, Option.bind_some]
      show gatewardenref06_Get.j1 79999 (!formedP (bt s 0) r1 r2 r3 r4 r5) (bt s 0) r1 r2 r3 r4 r5 = some (if true = false ∨ formedP (bt s 0) r1 r2 r3 r4 r5 = false then _ else if endsP r1 r2 r3 r4 = false then _ else _)
      simp only [gatewardenref06_Get.j1]
      rw [hR, Option.bind_some]
      unfold rightP
      cases hf : formedP (bt s 0) r1 r2 r3 r4 r5
      · rfl
      · show (if (true && endsP r1 r2 r3 r4) = true then _ else _) = _
        cases endsP r1 r2 r3 r4
        · rfl
        · rfl
  · have e : (if (readP (bt s 0) (s.extract 1 s.size)).2.2.2.2.2 = false ∨ formedP (bt s 0) (readP (bt s 0) (s.extract 1 s.size)).1 (readP (bt s 0) (s.extract 1 s.size)).2.1 (readP (bt s 0) (s.extract 1 s.size)).2.2.1 (readP (bt s 0) (s.extract 1 s.size)).2.2.2.1 (readP (bt s 0) (s.extract 1 s.size)).2.2.2.2.1 = false then ((0, 0, 0, 0, 0, [], 4) : Got)
      else if endsP (readP (bt s 0) (s.extract 1 s.size)).1 (readP (bt s 0) (s.extract 1 s.size)).2.1 (readP (bt s 0) (s.extract 1 s.size)).2.2.1 (readP (bt s 0) (s.extract 1 s.size)).2.2.2.1 = false then (0, 0, 0, 0, 0, [], 3)
      else (bt s 0, (readP (bt s 0) (s.extract 1 s.size)).1, (readP (bt s 0) (s.extract 1 s.size)).2.1, (readP (bt s 0) (s.extract 1 s.size)).2.2.1, (readP (bt s 0) (s.extract 1 s.size)).2.2.2.1, (readP (bt s 0) (s.extract 1 s.size)).2.2.2.2.1, 0)) = (0, 0, 0, 0, 0, [], 4) := if_pos (.inl hb')
    rw [e]
    have ha' : ¬ (bt s 0, q).2.2.2.2.2.2 = true := by show ¬ q.2.2.2.2.2 = true; rw [ha]; decide
    rw [if_neg ha']
    simp only [gatewardenref06_Get.j1]
    rw [if_pos trivial]
end Go.Proofs.Ytinoabkfekomcaa.AskAskSizes
