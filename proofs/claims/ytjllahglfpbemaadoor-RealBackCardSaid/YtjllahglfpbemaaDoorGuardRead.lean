/- guard: read, Get, walked by hand over the shelf's contracts. -/
import Derived.Test.YtjllahglfpbemaaDoorGuard
import Derived.Tactics
import Derived.Tactics2
import Derived.Defers
import Derived.Recover
import Derived.Laws.Pointers
import Derived.WalkLawsBesides
import Derived.Lib.LaidTab
import Derived.Lib.AtoiErrMem
import Derived.Lib.AppendIntMem
namespace Go.Proofs.YtjllahglfpbemaaDoor.PGuardTells
open Go Go.RowKit Go.Proofs.YtjllahglfpbemaaDoorW.PrintWords Go.Proofs.YtjllahglfpbemaaDoorW.PrintLast Go.Proofs.YtjllahglfpbemaaDoorW.PrintMore
set_option maxHeartbeats 2000000
set_option maxRecDepth 100000
set_option linter.unusedVariables false
set_option linter.unusedSimpArgs false
/-- From a place on: the number, if it is one. -/
def rd : List UInt8 → Int → Option Int
  | [], n => some n
  | c :: l, n => if 48 ≤ c.toNat ∧ c.toNat ≤ 57 ∧ 10 * n + (c.toNat : Int) - 48 ≤ 9007199254740992 then rd l (10 * n + (c.toNat : Int) - 48) else none
/-- What guard.read comes to: none where it ends by its panic. -/
def readF (l : List UInt8) : Option Int := if l = [] ∨ l.head? = some 48 ∧ l ≠ [48] then none else rd l 0
def wrongs : List PanicEntry := [{ v := .iface 71 (.agg #[]), recovered := false }]
def readE : Option Int → Ending
  | some n => .returned (.int .i64 n)
  | none => .panicked wrongs
theorem rd_step {l : List UInt8} {k : Nat} (h : k < l.length) (n : Int) : rd (l.drop k) n = if 48 ≤ l[k].toNat ∧ l[k].toNat ≤ 57 ∧ 10 * n + (l[k].toNat : Int) - 48 ≤ 9007199254740992 then rd (l.drop (k + 1)) (10 * n + (l[k].toNat : Int) - 48) else none := by
  rw [List.drop_eq_getElem_cons h, rd]
theorem guard_read_calls (s : ByteArray) (w : World) (hm : s.size ≤ 1000000) : Calls Tryd.prog 52 #[.string s] w fun e w' => e = readE (readF s.data.toList) ∧ Below w.heap.size w w' := by
  obtain ⟨T, hT⟩ : ∃ T : Ending → World → Prop, T = fun e w' => e = readE (readF s.data.toList) ∧ Below w.heap.size w w' := ⟨_, rfl⟩
  have HT := Aside0.mk hT
  rw [← hT]
  clear hT
  have hsz : s.size = s.data.toList.length := by rw [Array.length_toList]; rfl
  have htl : s.toList = s.data.toList := Lib.toList_data s
  by_cases hs : s.size = 0
  · have HR := Aside0.mk (show readF s.data.toList = none from if_pos (Or.inl (List.length_eq_zero_iff.1 (hsz ▸ hs))))
    have hte : s.toList.isEmpty = true := by rw [htl, List.isEmpty_iff]; exact List.length_eq_zero_iff.1 (hsz ▸ hs)
    clear hsz htl
    go_enter Tryd.func52, Tryd.ntmps52
    go_wp2_with (go_at_call 62; refine (must_false _).mono ?_; rintro e w' ⟨rfl, rfl⟩)
    rw [HT.out, HR.out]
    exact ⟨rfl, rfl, Below.refl _ _⟩
  have hlt : 0 < s.size := by omega
  have hte : s.toList.isEmpty = false := by
    rw [htl]
    cases h : s.data.toList with
    | nil => exfalso; have h2 := congrArg List.length h; rw [← hsz, List.length_nil] at h2; omega
    | cons _ _ => rfl
  have hne : s.data.toList ≠ [] := by intro h; have h2 := congrArg List.length h; rw [← hsz, List.length_nil] at h2; omega
  have hhd : s.data.toList.head? = some s[0] := by
    cases h : s.data.toList with
    | nil => exact absurd h hne
    | cons c l => simp [ByteArray.getElem_eq_getElem_data, ← Array.getElem_toList, h]
  by_cases h48 : s[0] = 48
  · have h48' : (s[0].toNat : Int) = 48 := by rw [h48]; rfl
    by_cases h1 : s.data.toList = [48]
    · have hte1 : (s.toList == [48]) = true := by rw [htl, h1]; rfl
      have HR := Aside0.mk (show readF s.data.toList = rd s.data.toList 0 from if_neg (by rintro (h | h); exact hne h; exact h.2 h1))
      clear h1 h48
      have hconv := fun wx => Lib.run_convert_string_bytes (P := Tryd.prog) wx 9 69 5 s Tryd.underlying9 Tryd.underlying69 Tryd.underlying5
      have HSZ := Aside0.mk hsz
      clear hsz htl hne hhd
      go_enter Tryd.func52, Tryd.ntmps52
      go_wp2_with (go_at_call 62; refine (must_true _).mono ?_; rintro e w' ⟨rfl, rfl⟩)
      have HB := Aside0.mk (Lib.bytesWorld_below w' 5 s)
      have HCL := Aside0.mk (fun j hj => Lib.bytesWorld_cell w' 5 s j hj)
      obtain ⟨b, hb⟩ : ∃ b, b = w'.heap.size := ⟨_, rfl⟩
      obtain ⟨cp, hcp⟩ : ∃ cp, cp = grownCap w' s.size 0 5 := ⟨_, rfl⟩
      rw [← hb] at HCL
      rw [← hb, ← hcp]
      clear hb hcp hconv
      generalize Lib.bytesWorld w' 5 s = w1 at HB HCL ⊢
      clear hte h48'
      try clear hte1
      try clear h48''
      go_loopg [3, 21] s.size (fun gg s3 s21 wr => ∃ (k : Nat) (n : Int), k ≤ s.size ∧ s.size - k ≤ gg ∧ s3 = .int .i64 n ∧ s21 = .int .i64 (k : Int) ∧ Aside0 (0 ≤ n ∧ n ≤ 9007199254740992) ∧ Aside0 (rd (s.data.toList.drop k) n = rd s.data.toList 0) ∧ wr = w1)
      case atStart => exact ⟨0, 0, Nat.zero_le _, by omega, rfl, rfl, ⟨by decide⟩, ⟨rfl⟩, rfl⟩
      case round =>
        obtain ⟨k, n, hk, hgg, rfl, rfl, HNB, HRD, rfl⟩ := hrel
        by_cases hlt2 : k < s.size
        · have hltz : (k : Int) < (s.size : Int) := by omega
          obtain ⟨c, hc⟩ : ∃ c, c = s.data.toList[k]'(by rw [← HSZ.out]; exact hlt2) := ⟨_, rfl⟩
          have HST := Aside0.mk (rd_step (l := s.data.toList) (by rw [← HSZ.out]; exact hlt2) n)
          have q0 : wr.cell? ⟨b, k, none⟩ = some (.int .u8 (c.toNat : Int)) := by
            rw [HCL.out k hlt2, hc, List.getD_eq_getElem?_getD, List.getElem?_eq_getElem (by rw [← HSZ.out]; exact hlt2)]
            rfl
          rw [← hc] at HST
          clear hc
          have hcl := c.toNat_lt
          generalize c.toNat = cn at HST q0 hcl
          have hn := HNB.out
          by_cases a1 : 48 ≤ cn
          · have d1 : decide (48 ≤ cn) = true := decide_eq_true a1
            have d1' : decide ((cn : Int) ≥ 48) = true := decide_eq_true (by omega)
            have d1'' : decide (48 ≤ (cn : Int)) = true := d1'
            by_cases a2 : cn ≤ 57
            · have d2 : decide (cn ≤ 57) = true := decide_eq_true a2
              have d2' : decide ((cn : Int) ≤ 57) = true := decide_eq_true (by omega)
              have hu : IntKind.u8.wrap ((cn : Int) - 48) = (cn : Int) - 48 := by rw [IntKind.wrap_u8]; omega
              have hi : IntKind.i64.wrap ((cn : Int) - 48) = (cn : Int) - 48 := by rw [IntKind.wrap_i64]; omega
              have h10 : wrap64 (10 * n) = 10 * n := by unfold wrap64; omega
              have hsum : wrap64 (10 * n + ((cn : Int) - 48)) = 10 * n + (cn : Int) - 48 := by unfold wrap64; omega
              by_cases a3 : 10 * n + (cn : Int) - 48 ≤ 9007199254740992
              · have d3 : decide (10 * n + (cn : Int) - 48 ≤ 9007199254740992) = true := decide_eq_true a3
                have HS2 := Aside0.mk (HST.out.trans (if_pos ⟨a1, a2, a3⟩))
                have HNN := Aside0.mk (show 0 ≤ 10 * n + (cn : Int) - 48 ∧ 10 * n + (cn : Int) - 48 ≤ 9007199254740992 from ⟨by omega, a3⟩)
                clear a1 a2 a3 hn
                go_wp2_with (go_at_call 62; refine (must_true _).mono ?_; rintro e w' ⟨rfl, rfl⟩)
                go_roundg (s.size - (k + 1))
                case measure => omega
                case rel => exact ⟨k + 1, _, by omega, Nat.le_refl _, rfl, by go_num, HNN, ⟨HS2.out.symm.trans HRD.out⟩, rfl⟩
              · have d3 : decide (10 * n + (cn : Int) - 48 ≤ 9007199254740992) = false := decide_eq_false a3
                have HS2 := Aside0.mk (HST.out.trans (if_neg (fun h => a3 h.2.2)))
                clear a1 a2 a3 hn
                go_wp2_with (go_at_call 62; first | (refine (must_true _).mono ?_; rintro e w' ⟨rfl, rfl⟩) | (refine (must_false _).mono ?_; rintro e w' ⟨rfl, rfl⟩))
                rw [HT.out, HR.out, ← HRD.out, HS2.out]
                exact ⟨rfl, rfl, HB.out⟩
            · have d2 : decide (cn ≤ 57) = false := decide_eq_false a2
              have d2' : decide ((cn : Int) ≤ 57) = false := decide_eq_false (by omega)
              have HS2 := Aside0.mk (HST.out.trans (if_neg (fun h => a2 h.2.1)))
              clear a1 a2 hn
              go_wp2_with (go_at_call 62; first | (refine (must_true _).mono ?_; rintro e w' ⟨rfl, rfl⟩) | (refine (must_false _).mono ?_; rintro e w' ⟨rfl, rfl⟩))
              rw [HT.out, HR.out, ← HRD.out, HS2.out]
              exact ⟨rfl, rfl, HB.out⟩
          · have d1 : decide (48 ≤ cn) = false := decide_eq_false a1
            have d1' : decide ((cn : Int) ≥ 48) = false := decide_eq_false (by omega)
            have d1'' : decide (48 ≤ (cn : Int)) = false := d1'
            have HS2 := Aside0.mk (HST.out.trans (if_neg (fun h => a1 h.1)))
            clear a1 hn
            go_wp2_with (go_at_call 62; first | (refine (must_true _).mono ?_; rintro e w' ⟨rfl, rfl⟩) | (refine (must_false _).mono ?_; rintro e w' ⟨rfl, rfl⟩))
            rw [HT.out, HR.out, ← HRD.out, HS2.out]
            exact ⟨rfl, rfl, HB.out⟩
        · have hkl : k = s.size := by omega
          subst hkl
          have hltz : ¬ ((s.size : Int) < (s.size : Int)) := by omega
          have HE := Aside0.mk (show rd s.data.toList 0 = some n from by rw [← HRD.out, HSZ.out, List.drop_length]; rfl)
          go_wp2_with fail
          rw [HT.out, HR.out, HE.out]
          exact ⟨rfl, HB.out⟩
    · have hte1 : (s.toList == [48]) = false := by rw [htl]; exact beq_eq_false_iff_ne.2 h1
      have HR := Aside0.mk (show readF s.data.toList = none from if_pos (Or.inr ⟨by rw [hhd, h48], h1⟩))
      clear h1 h48
      clear hsz htl hne hhd
      go_enter Tryd.func52, Tryd.ntmps52
      go_wp2_with (go_at_call 62; refine (must_false _).mono ?_; rintro e w' ⟨rfl, rfl⟩)
      rw [HT.out, HR.out]
      exact ⟨rfl, rfl, Below.refl _ _⟩
  · have h48' : ((s[0].toNat : Int) != 48) = true := by
      rw [bne_iff_ne]
      intro h
      exact h48 (UInt8.toNat_inj.1 (by have : (48 : UInt8).toNat = 48 := rfl; omega))
    have h48'' : ¬ ((s[0].toNat : Int) = 48) := bne_iff_ne.1 h48'
    have HR := Aside0.mk (show readF s.data.toList = rd s.data.toList 0 from if_neg (by rintro (h | h); exact hne h; exact h48 (by rw [hhd] at h; exact Option.some.inj h.1)))
    clear h48
    have hconv := fun wx => Lib.run_convert_string_bytes (P := Tryd.prog) wx 9 69 5 s Tryd.underlying9 Tryd.underlying69 Tryd.underlying5
    have HSZ := Aside0.mk hsz
    clear hsz htl hne hhd
    go_enter Tryd.func52, Tryd.ntmps52
    go_wp2_with (go_at_call 62; refine (must_true _).mono ?_; rintro e w' ⟨rfl, rfl⟩)
    have HB := Aside0.mk (Lib.bytesWorld_below w' 5 s)
    have HCL := Aside0.mk (fun j hj => Lib.bytesWorld_cell w' 5 s j hj)
    obtain ⟨b, hb⟩ : ∃ b, b = w'.heap.size := ⟨_, rfl⟩
    obtain ⟨cp, hcp⟩ : ∃ cp, cp = grownCap w' s.size 0 5 := ⟨_, rfl⟩
    rw [← hb] at HCL
    rw [← hb, ← hcp]
    clear hb hcp hconv
    generalize Lib.bytesWorld w' 5 s = w1 at HB HCL ⊢
    clear hte h48'
    try clear hte1
    try clear h48''
    go_loopg [3, 21] s.size (fun gg s3 s21 wr => ∃ (k : Nat) (n : Int), k ≤ s.size ∧ s.size - k ≤ gg ∧ s3 = .int .i64 n ∧ s21 = .int .i64 (k : Int) ∧ Aside0 (0 ≤ n ∧ n ≤ 9007199254740992) ∧ Aside0 (rd (s.data.toList.drop k) n = rd s.data.toList 0) ∧ wr = w1)
    case atStart => exact ⟨0, 0, Nat.zero_le _, by omega, rfl, rfl, ⟨by decide⟩, ⟨rfl⟩, rfl⟩
    case round =>
      obtain ⟨k, n, hk, hgg, rfl, rfl, HNB, HRD, rfl⟩ := hrel
      by_cases hlt2 : k < s.size
      · have hltz : (k : Int) < (s.size : Int) := by omega
        obtain ⟨c, hc⟩ : ∃ c, c = s.data.toList[k]'(by rw [← HSZ.out]; exact hlt2) := ⟨_, rfl⟩
        have HST := Aside0.mk (rd_step (l := s.data.toList) (by rw [← HSZ.out]; exact hlt2) n)
        have q0 : wr.cell? ⟨b, k, none⟩ = some (.int .u8 (c.toNat : Int)) := by
          rw [HCL.out k hlt2, hc, List.getD_eq_getElem?_getD, List.getElem?_eq_getElem (by rw [← HSZ.out]; exact hlt2)]
          rfl
        rw [← hc] at HST
        clear hc
        have hcl := c.toNat_lt
        generalize c.toNat = cn at HST q0 hcl
        have hn := HNB.out
        by_cases a1 : 48 ≤ cn
        · have d1 : decide (48 ≤ cn) = true := decide_eq_true a1
          have d1' : decide ((cn : Int) ≥ 48) = true := decide_eq_true (by omega)
          have d1'' : decide (48 ≤ (cn : Int)) = true := d1'
          by_cases a2 : cn ≤ 57
          · have d2 : decide (cn ≤ 57) = true := decide_eq_true a2
            have d2' : decide ((cn : Int) ≤ 57) = true := decide_eq_true (by omega)
            have hu : IntKind.u8.wrap ((cn : Int) - 48) = (cn : Int) - 48 := by rw [IntKind.wrap_u8]; omega
            have hi : IntKind.i64.wrap ((cn : Int) - 48) = (cn : Int) - 48 := by rw [IntKind.wrap_i64]; omega
            have h10 : wrap64 (10 * n) = 10 * n := by unfold wrap64; omega
            have hsum : wrap64 (10 * n + ((cn : Int) - 48)) = 10 * n + (cn : Int) - 48 := by unfold wrap64; omega
            by_cases a3 : 10 * n + (cn : Int) - 48 ≤ 9007199254740992
            · have d3 : decide (10 * n + (cn : Int) - 48 ≤ 9007199254740992) = true := decide_eq_true a3
              have HS2 := Aside0.mk (HST.out.trans (if_pos ⟨a1, a2, a3⟩))
              have HNN := Aside0.mk (show 0 ≤ 10 * n + (cn : Int) - 48 ∧ 10 * n + (cn : Int) - 48 ≤ 9007199254740992 from ⟨by omega, a3⟩)
              clear a1 a2 a3 hn
              go_wp2_with (go_at_call 62; refine (must_true _).mono ?_; rintro e w' ⟨rfl, rfl⟩)
              go_roundg (s.size - (k + 1))
              case measure => omega
              case rel => exact ⟨k + 1, _, by omega, Nat.le_refl _, rfl, by go_num, HNN, ⟨HS2.out.symm.trans HRD.out⟩, rfl⟩
            · have d3 : decide (10 * n + (cn : Int) - 48 ≤ 9007199254740992) = false := decide_eq_false a3
              have HS2 := Aside0.mk (HST.out.trans (if_neg (fun h => a3 h.2.2)))
              clear a1 a2 a3 hn
              go_wp2_with (go_at_call 62; first | (refine (must_true _).mono ?_; rintro e w' ⟨rfl, rfl⟩) | (refine (must_false _).mono ?_; rintro e w' ⟨rfl, rfl⟩))
              rw [HT.out, HR.out, ← HRD.out, HS2.out]
              exact ⟨rfl, rfl, HB.out⟩
          · have d2 : decide (cn ≤ 57) = false := decide_eq_false a2
            have d2' : decide ((cn : Int) ≤ 57) = false := decide_eq_false (by omega)
            have HS2 := Aside0.mk (HST.out.trans (if_neg (fun h => a2 h.2.1)))
            clear a1 a2 hn
            go_wp2_with (go_at_call 62; first | (refine (must_true _).mono ?_; rintro e w' ⟨rfl, rfl⟩) | (refine (must_false _).mono ?_; rintro e w' ⟨rfl, rfl⟩))
            rw [HT.out, HR.out, ← HRD.out, HS2.out]
            exact ⟨rfl, rfl, HB.out⟩
        · have d1 : decide (48 ≤ cn) = false := decide_eq_false a1
          have d1' : decide ((cn : Int) ≥ 48) = false := decide_eq_false (by omega)
          have d1'' : decide (48 ≤ (cn : Int)) = false := d1'
          have HS2 := Aside0.mk (HST.out.trans (if_neg (fun h => a1 h.1)))
          clear a1 hn
          go_wp2_with (go_at_call 62; first | (refine (must_true _).mono ?_; rintro e w' ⟨rfl, rfl⟩) | (refine (must_false _).mono ?_; rintro e w' ⟨rfl, rfl⟩))
          rw [HT.out, HR.out, ← HRD.out, HS2.out]
          exact ⟨rfl, rfl, HB.out⟩
      · have hkl : k = s.size := by omega
        subst hkl
        have hltz : ¬ ((s.size : Int) < (s.size : Int)) := by omega
        have HE := Aside0.mk (show rd s.data.toList 0 = some n from by rw [← HRD.out, HSZ.out, List.drop_length]; rfl)
        go_wp2_with fail
        rw [HT.out, HR.out, HE.out]
        exact ⟨rfl, HB.out⟩
end Go.Proofs.YtjllahglfpbemaaDoor.PGuardTells
