/- Texts of this claim, put together (wip/pack.py): KindBoth, PAskSizesm0. -/
import Derived.Test.YtinoabkfekomcaaK20
import Derived.Test.YtinoabkfekomcaaK21
import Derived.Test.YtinoabkfekomcaaK22
import Derived.Test.YtinoabkfekomcaaK1
namespace Go.Proofs.Ytinoabkfekomcaa.AskAskSizes
open Go Go.RowKit Go.Proofs.Ytinoabkfekomcaa.PAskSizes Go.Proofs.YtinoabkfekomcaaW.PrintWords Go.Proofs.YtinoabkfekomcaaW.PrintLast Go.Proofs.Ytinoabkfekomcaa.Base Go.Proofs.Ytinoabkfekomcaa.RepAskSizes Go.Proofs.Ytinoabkfekomcaa.CoilAskSizes Go.Proofs.Ytinoabkfekomcaa.Coil
set_option linter.unusedVariables false
theorem refCode_eq (a : Int) : gatewardenref07_Code.f a = some (codeP a) := by
  unfold gatewardenref07_Code.f codeP
  by_cases h1 : 1 ≤ a
  · rw [if_pos h1, decide_eq_true h1]
    by_cases h2 : a ≤ 6
    · rw [if_pos h2, decide_eq_true h2]; rfl
    · rw [if_neg h2, decide_eq_false h2]
      by_cases h8 : a = 8
      · subst h8; rfl
      by_cases h10 : a = 10
      · subst h10; rfl
      rw [if_neg h8, if_neg h10, beq_eq_false_iff_ne.2 h8, beq_eq_false_iff_ne.2 h10]; rfl
  · rw [if_neg h1, decide_eq_false h1]
    by_cases h8 : a = 8
    · omega
    by_cases h10 : a = 10
    · omega
    rw [if_neg h8, if_neg h10, beq_eq_false_iff_ne.2 h8, beq_eq_false_iff_ne.2 h10]; rfl
theorem or128 {a0 a1 a2 a3 a4 : Int} {l : List Int} (ht : Rt a0 a1 a2 a3 a4 l) : Go.bits .or .i64 a0 128 = a0 + 128 := by
  rcases ht with ⟨h0, _⟩ | ⟨h0, _⟩ | ⟨rfl, _⟩ | ⟨rfl, _⟩ | ⟨rfl, _⟩ | ⟨rfl, _⟩ | ⟨rfl, _⟩ | ⟨rfl, _⟩
  · rcases h0 with rfl | rfl <;> decide
  · rcases h0 with rfl | rfl <;> decide
  all_goals decide
theorem kind_both (a0 a1 a2 a3 a4 : Int) (l : List Int) (s : ByteArray) (hl : l.length ≤ 3000) (hs : s.size ≤ 300) : ∃ t, reply_Kind.f 8000 a0 a1 a2 a3 a4 l s = some t ∧ gatewardenref07_Kind.f 8000 a0 a1 a2 a3 a4 l s = some t := by
  unfold reply_Kind.f gatewardenref07_Kind.f
  rw [data_eq _ _ _ _ _ _ _ hs _ (by decide), refData_eq _ _ _ _ _ _ _ hl hs 7995 (by decide), Option.bind_some, Option.bind_some, right_eq _ _ _ _ _ _ _ (by decide), refRight_eq _ _ _ _ _ _ (by omega) _ (by omega), Option.bind_some, Option.bind_some]
  have nf : ¬ (false = true) := by decide
  cases (dataP a0 a1 a2 a3 a4 l s).2
  · rw [if_neg nf, if_neg nf]
    by_cases hr : rightP a0 a1 a2 a3 a4 l = true
    · rw [if_pos hr, if_pos hr]
      have ht := rt_of hr
      have hb := rt_of_len ht
      by_cases h2 : (s.size : Int) = 2
      · have g0 := bt_range s 0
        have g1 := bt_range s 1
        rw [if_pos h2, if_pos h2, if_pos (show (1 : Int) < (s.size : Int) by omega), if_pos (show (0 : Int) < (s.size : Int) by omega), or128 ht, w64 (n := bt s 0) (by omega) (by omega), w64 (n := bt s 1) (by omega) (by omega), w64 (n := a0 + 128) (by omega) (by omega), code_eq, Option.bind_some]
        have p0 : (0 : Int) < (s.size : Int) := by omega
        have p1 : (1 : Int) < (s.size : Int) := by omega
        by_cases h3 : bt s 0 = a0 + 128
        · rw [if_pos p0, if_pos h3, if_pos h3, if_pos p1, refCode_eq, Option.bind_some]
          cases codeP (bt s 1)
          · exact ⟨0, rfl, rfl⟩
          · exact ⟨2, rfl, rfl⟩
        · rw [if_pos p0, if_neg h3, if_neg h3]
          refine ⟨0, ?_, rfl⟩
          split
          · rfl
          · rfl
      · rw [if_neg h2, if_neg h2]
        exact ⟨0, rfl, rfl⟩
    · rw [if_neg hr, if_neg hr]
      exact ⟨0, rfl, rfl⟩
  · exact ⟨1, rfl, rfl⟩
theorem data_len (a0 a1 a2 a3 a4 : Int) (l : List Int) (s : ByteArray) (hs : s.size ≤ 300) : (dataP a0 a1 a2 a3 a4 l s).1.length ≤ 3000 := (data_wf a0 a1 a2 a3 a4 l s hs).2
end Go.Proofs.Ytinoabkfekomcaa.AskAskSizes
namespace Go.Proofs.Ytinoabkfekomcaa.PAskSizes
open Go.RowKit Go.Proofs.YtinoabkfekomcaaW.PrintWords Go.Proofs.YtinoabkfekomcaaW.PrintLast Go.Proofs.YtinoabkfekomcaaW.PrintMore
attribute [local go_sem] max2_int min2_int max_two min_two max_three min_three max_four min_four   -- for this text's walks alone
set_option linter.unusedVariables false
set_option linter.unusedSimpArgs false

/-! #### struct type 56 -/
structure S56 where
 f0 : Int
 f1 : Int
 f2 : Int
 f3 : Int
 f4 : Int
 f5 : S24
 f6 : Int
def z56 : S56 := ⟨(0 : Int), (0 : Int), (0 : Int), (0 : Int), (0 : Int), z24, (0 : Int)⟩
def k56 : Kd S56 := Kd.iso (Kd.pair (Kd.int .i64) (Kd.pair (Kd.int .i64) (Kd.pair (Kd.int .i64) (Kd.pair (Kd.int .i64) (Kd.pair (Kd.int .i64) (Kd.pair k24 (Kd.int .i64))))))) (fun x : S56 => (x.f0, x.f1, x.f2, x.f3, x.f4, x.f5, x.f6))
theorem k56_open {w : World} {x : S56} {cs : List Value} (h : k56.K w x cs) : ∃ A10 c10, cs = [.int .i64 x.f0, .int .i64 x.f1, .int .i64 x.f2, .int .i64 x.f3, .int .i64 x.f4, .int .i64 x.f5.f0, .int .i64 x.f5.f1, .int .i64 x.f5.f2, .int .i64 x.f5.f3, .int .i64 x.f5.f4, .slice A10 x.f5.f5.length c10, .int .i64 x.f6] ∧ x.f5.f5.length ≤ c10 ∧ (Kd.int .i64).C w A10 x.f5.f5.length x.f5.f5 := by
 obtain ⟨_, _, rfl, rfl, ⟨_, _, rfl, rfl, ⟨_, _, rfl, rfl, ⟨_, _, rfl, rfl, ⟨_, _, rfl, rfl, ⟨_, _, rfl, s5, rfl⟩⟩⟩⟩⟩⟩ := h
 obtain ⟨A10, c10, rfl, l10, g10⟩ := k24_open s5
 exact ⟨A10, c10, rfl, l10, g10⟩
theorem k56_openM {w : World} {base : Nat} {ok : Nat → Prop} {x : S56} {cs : List Value} (h : k56.M w base ok x cs) : ∃ v10, cs = [.int .i64 x.f0, .int .i64 x.f1, .int .i64 x.f2, .int .i64 x.f3, .int .i64 x.f4, .int .i64 x.f5.f0, .int .i64 x.f5.f1, .int .i64 x.f5.f2, .int .i64 x.f5.f3, .int .i64 x.f5.f4, v10, .int .i64 x.f6] ∧ (Kd.int .i64).R 3 w base ok v10 x.f5.f5 := by
 obtain ⟨_, _, rfl, rfl, ⟨_, _, rfl, rfl, ⟨_, _, rfl, rfl, ⟨_, _, rfl, rfl, ⟨_, _, rfl, rfl, ⟨_, _, rfl, s5, rfl⟩⟩⟩⟩⟩⟩ := h
 obtain ⟨v10, rfl, g10⟩ := k24_openM s5
 exact ⟨v10, rfl, g10⟩
theorem k56_mk (w : World) (x : S56) {A10 : Option Addr} {c10 : Nat} (l10 : x.f5.f5.length ≤ c10) (g10 : (Kd.int .i64).C w A10 x.f5.f5.length x.f5.f5) : k56.K w x [.int .i64 x.f0, .int .i64 x.f1, .int .i64 x.f2, .int .i64 x.f3, .int .i64 x.f4, .int .i64 x.f5.f0, .int .i64 x.f5.f1, .int .i64 x.f5.f2, .int .i64 x.f5.f3, .int .i64 x.f5.f4, .slice A10 x.f5.f5.length c10, .int .i64 x.f6] := ⟨[.int .i64 x.f0], [.int .i64 x.f1, .int .i64 x.f2, .int .i64 x.f3, .int .i64 x.f4, .int .i64 x.f5.f0, .int .i64 x.f5.f1, .int .i64 x.f5.f2, .int .i64 x.f5.f3, .int .i64 x.f5.f4, .slice A10 x.f5.f5.length c10, .int .i64 x.f6], rfl, rfl, ⟨[.int .i64 x.f1], [.int .i64 x.f2, .int .i64 x.f3, .int .i64 x.f4, .int .i64 x.f5.f0, .int .i64 x.f5.f1, .int .i64 x.f5.f2, .int .i64 x.f5.f3, .int .i64 x.f5.f4, .slice A10 x.f5.f5.length c10, .int .i64 x.f6], rfl, rfl, ⟨[.int .i64 x.f2], [.int .i64 x.f3, .int .i64 x.f4, .int .i64 x.f5.f0, .int .i64 x.f5.f1, .int .i64 x.f5.f2, .int .i64 x.f5.f3, .int .i64 x.f5.f4, .slice A10 x.f5.f5.length c10, .int .i64 x.f6], rfl, rfl, ⟨[.int .i64 x.f3], [.int .i64 x.f4, .int .i64 x.f5.f0, .int .i64 x.f5.f1, .int .i64 x.f5.f2, .int .i64 x.f5.f3, .int .i64 x.f5.f4, .slice A10 x.f5.f5.length c10, .int .i64 x.f6], rfl, rfl, ⟨[.int .i64 x.f4], [.int .i64 x.f5.f0, .int .i64 x.f5.f1, .int .i64 x.f5.f2, .int .i64 x.f5.f3, .int .i64 x.f5.f4, .slice A10 x.f5.f5.length c10, .int .i64 x.f6], rfl, rfl, ⟨[.int .i64 x.f5.f0, .int .i64 x.f5.f1, .int .i64 x.f5.f2, .int .i64 x.f5.f3, .int .i64 x.f5.f4, .slice A10 x.f5.f5.length c10], [.int .i64 x.f6], rfl, (k24_mk w x.f5 l10 g10), rfl⟩⟩⟩⟩⟩⟩
theorem k56_mkM (w : World) (base : Nat) (ok : Nat → Prop) (x : S56) {v10 : Value} (g10 : (Kd.int .i64).R 3 w base ok v10 x.f5.f5) : k56.M w base ok x [.int .i64 x.f0, .int .i64 x.f1, .int .i64 x.f2, .int .i64 x.f3, .int .i64 x.f4, .int .i64 x.f5.f0, .int .i64 x.f5.f1, .int .i64 x.f5.f2, .int .i64 x.f5.f3, .int .i64 x.f5.f4, v10, .int .i64 x.f6] := ⟨[.int .i64 x.f0], [.int .i64 x.f1, .int .i64 x.f2, .int .i64 x.f3, .int .i64 x.f4, .int .i64 x.f5.f0, .int .i64 x.f5.f1, .int .i64 x.f5.f2, .int .i64 x.f5.f3, .int .i64 x.f5.f4, v10, .int .i64 x.f6], rfl, rfl, ⟨[.int .i64 x.f1], [.int .i64 x.f2, .int .i64 x.f3, .int .i64 x.f4, .int .i64 x.f5.f0, .int .i64 x.f5.f1, .int .i64 x.f5.f2, .int .i64 x.f5.f3, .int .i64 x.f5.f4, v10, .int .i64 x.f6], rfl, rfl, ⟨[.int .i64 x.f2], [.int .i64 x.f3, .int .i64 x.f4, .int .i64 x.f5.f0, .int .i64 x.f5.f1, .int .i64 x.f5.f2, .int .i64 x.f5.f3, .int .i64 x.f5.f4, v10, .int .i64 x.f6], rfl, rfl, ⟨[.int .i64 x.f3], [.int .i64 x.f4, .int .i64 x.f5.f0, .int .i64 x.f5.f1, .int .i64 x.f5.f2, .int .i64 x.f5.f3, .int .i64 x.f5.f4, v10, .int .i64 x.f6], rfl, rfl, ⟨[.int .i64 x.f4], [.int .i64 x.f5.f0, .int .i64 x.f5.f1, .int .i64 x.f5.f2, .int .i64 x.f5.f3, .int .i64 x.f5.f4, v10, .int .i64 x.f6], rfl, rfl, ⟨[.int .i64 x.f5.f0, .int .i64 x.f5.f1, .int .i64 x.f5.f2, .int .i64 x.f5.f3, .int .i64 x.f5.f4, v10], [.int .i64 x.f6], rfl, (k24_mkM w base ok x.f5 g10), rfl⟩⟩⟩⟩⟩⟩
def rd_T56 (xs : List S56) (i : Int) : S56 := xs.getD i.toNat z56
theorem at_T56 {w : World} {A : Option Addr} {n : Nat} {xs : List S56} (h : Kd.C k56 w A n xs) (i : Int) (h0 : 0 ≤ i) (h1 : i < n) : ∃ ad A10 c10, A = some ad ∧ w.cell? (ad.add (i.toNat * 12)) = some (.int .i64 (rd_T56 xs i).f0) ∧ w.cell? ⟨(ad.add (i.toNat * 12)).block, (ad.add (i.toNat * 12)).off + 1, none⟩ = some (.int .i64 (rd_T56 xs i).f1) ∧ w.cell? ⟨(ad.add (i.toNat * 12)).block, (ad.add (i.toNat * 12)).off + 2, none⟩ = some (.int .i64 (rd_T56 xs i).f2) ∧ w.cell? ⟨(ad.add (i.toNat * 12)).block, (ad.add (i.toNat * 12)).off + 3, none⟩ = some (.int .i64 (rd_T56 xs i).f3) ∧ w.cell? ⟨(ad.add (i.toNat * 12)).block, (ad.add (i.toNat * 12)).off + 4, none⟩ = some (.int .i64 (rd_T56 xs i).f4) ∧ w.cell? ⟨(ad.add (i.toNat * 12)).block, (ad.add (i.toNat * 12)).off + 5, none⟩ = some (.int .i64 (rd_T56 xs i).f5.f0) ∧ w.cell? ⟨(ad.add (i.toNat * 12)).block, (ad.add (i.toNat * 12)).off + 6, none⟩ = some (.int .i64 (rd_T56 xs i).f5.f1) ∧ w.cell? ⟨(ad.add (i.toNat * 12)).block, (ad.add (i.toNat * 12)).off + 7, none⟩ = some (.int .i64 (rd_T56 xs i).f5.f2) ∧ w.cell? ⟨(ad.add (i.toNat * 12)).block, (ad.add (i.toNat * 12)).off + 8, none⟩ = some (.int .i64 (rd_T56 xs i).f5.f3) ∧ w.cell? ⟨(ad.add (i.toNat * 12)).block, (ad.add (i.toNat * 12)).off + 9, none⟩ = some (.int .i64 (rd_T56 xs i).f5.f4) ∧ w.cell? ⟨(ad.add (i.toNat * 12)).block, (ad.add (i.toNat * 12)).off + 10, none⟩ = some (.slice A10 (rd_T56 xs i).f5.f5.length c10) ∧ w.cell? ⟨(ad.add (i.toNat * 12)).block, (ad.add (i.toNat * 12)).off + 11, none⟩ = some (.int .i64 (rd_T56 xs i).f6) ∧ (rd_T56 xs i).f5.f5.length ≤ c10 ∧ (Kd.int .i64).C w A10 (rd_T56 xs i).f5.f5.length (rd_T56 xs i).f5.f5 := by
 obtain ⟨ad, c, e, _, hK, hc0⟩ := Kd.C_get h z56 i h0 h1
 have hc : ∀ j u, c[j]? = some u → w.cell? (ad.add (i.toNat * 12 + j)) = some u := hc0
 obtain ⟨A10, c10, rfl, l10, g10⟩ := k56_open hK
 exact ⟨ad, A10, c10, e, hc 0 _ rfl, by rw [← add_field _ _ 1 (by omega)]; exact hc 1 _ rfl, by rw [← add_field _ _ 2 (by omega)]; exact hc 2 _ rfl, by rw [← add_field _ _ 3 (by omega)]; exact hc 3 _ rfl, by rw [← add_field _ _ 4 (by omega)]; exact hc 4 _ rfl, by rw [← add_field _ _ 5 (by omega)]; exact hc 5 _ rfl, by rw [← add_field _ _ 6 (by omega)]; exact hc 6 _ rfl, by rw [← add_field _ _ 7 (by omega)]; exact hc 7 _ rfl, by rw [← add_field _ _ 8 (by omega)]; exact hc 8 _ rfl, by rw [← add_field _ _ 9 (by omega)]; exact hc 9 _ rfl, by rw [← add_field _ _ 10 (by omega)]; exact hc 10 _ rfl, by rw [← add_field _ _ 11 (by omega)]; exact hc 11 _ rfl, l10, g10⟩
end Go.Proofs.Ytinoabkfekomcaa.PAskSizes
