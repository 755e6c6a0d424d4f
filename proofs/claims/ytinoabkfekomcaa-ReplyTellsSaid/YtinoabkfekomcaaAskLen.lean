/- How many bytes a right request has (plainly, over the functions as printed for the law AskSizes). -/
import Derived.Test.YtinoabkfekomcaaAskUnAskSizes
namespace Go.Proofs.Ytinoabkfekomcaa.AskAskSizes
open Go Go.RowKit Go.Proofs.Ytinoabkfekomcaa.PAskSizes Go.Proofs.YtinoabkfekomcaaW.PrintWords Go.Proofs.YtinoabkfekomcaaW.PrintLast Go.Proofs.Ytinoabkfekomcaa.Base Go.Proofs.Ytinoabkfekomcaa.RepAskSizes Go.Proofs.Ytinoabkfekomcaa.CoilAskSizes Go.Proofs.Ytinoabkfekomcaa.Coil
set_option maxRecDepth 100000
set_option linter.unusedVariables false
/-- How many bytes a right request has. -/
def lenP (a0 a4 : Int) : Int := if a0 = 15 then 6 + (a4 + 7) / 8 else if a0 = 16 then 6 + 2 * a4 else if a0 = 22 then 7 else if a0 = 23 then 10 + 2 * a4 else 5
theorem right_size {a0 a1 a2 a3 a4 : Int} {l : List Int} (h : Rt a0 a1 a2 a3 a4 l) :
    ((strOfNums (putL a0 a1 a2 a3 a4 l)).size : Int) = lenP a0 a4 ∧ bt (strOfNums (putL a0 a1 a2 a3 a4 l)) 0 = a0 ∧ 0 < (strOfNums (putL a0 a1 a2 a3 a4 l)).size ∧ 1 ≤ a0 ∧ a0 ≤ 23 ∧ 0 ≤ a4 ∧ a4 ≤ 1968 ∧ (a0 = 16 ∨ a0 = 23 → a4 ≤ 123) ∧ l.length ≤ 2000 := by
  rcases h with ⟨h0, h1, h2, hl, hg⟩ | ⟨h0, h1, h2, hl, hg⟩ | ⟨rfl, h1, h2, hl, hg⟩ | ⟨rfl, h1, h2, hl, hg⟩ | ⟨rfl, h1, h2, hl, hg⟩ | ⟨rfl, h1, h2, hl, hg⟩ | ⟨rfl, h1, h2, hl, hg⟩ | ⟨rfl, h1, h2, hl, hg⟩
  · have e : putL a0 a1 a2 a3 a4 l = [a0] ++ be [a1, a2] := by unfold putL; rw [if_pos (by omega)]
    rw [e]
    refine ⟨?_, bt_head' a0 _ (by omega) (by omega), by rw [strOfNums_size]; simp, by omega, by omega, by omega, by omega, by omega, by omega⟩
    unfold lenP
    rw [if_neg (by omega), if_neg (by omega), if_neg (by omega), if_neg (by omega), strOfNums_size]; rfl
  · have e : putL a0 a1 a2 a3 a4 l = [a0] ++ be [a1, a2] := by unfold putL; rw [if_pos (by omega)]
    rw [e]
    refine ⟨?_, bt_head' a0 _ (by omega) (by omega), by rw [strOfNums_size]; simp, by omega, by omega, by omega, by omega, by omega, by omega⟩
    unfold lenP
    rw [if_neg (by omega), if_neg (by omega), if_neg (by omega), if_neg (by omega), strOfNums_size]; rfl
  · exact ⟨by rw [strOfNums_size]; rfl, bt_head' 5 _ (by omega) (by omega), by rw [strOfNums_size]; exact Nat.succ_pos _, by omega, by omega, by omega, by omega, by omega, by omega⟩
  · exact ⟨by rw [strOfNums_size]; rfl, bt_head' 6 _ (by omega) (by omega), by rw [strOfNums_size]; exact Nat.succ_pos _, by omega, by omega, by omega, by omega, by omega, by omega⟩
  · refine ⟨?_, bt_head' 15 _ (by omega) (by omega), by rw [strOfNums_size]; exact Nat.succ_pos _, by omega, by omega, by omega, by omega, by omega, by omega⟩
    rw [strOfNums_size]; unfold putL lenP
    rw [if_neg (by decide), if_neg (by decide), if_neg (by decide), if_pos rfl, if_pos rfl]
    simp only [List.length_append, be_length, pack_length, List.length_cons, List.length_nil]
    omega
  · refine ⟨?_, bt_head' 16 _ (by omega) (by omega), by rw [strOfNums_size]; exact Nat.succ_pos _, by omega, by omega, by omega, by omega, by omega, by omega⟩
    rw [strOfNums_size]; unfold putL lenP
    rw [if_neg (by decide), if_neg (by decide), if_neg (by decide), if_neg (by decide), if_pos rfl, if_neg (by decide), if_pos rfl]
    simp only [List.length_append, be_length, List.length_cons, List.length_nil]
    omega
  · exact ⟨by rw [strOfNums_size]; rfl, bt_head' 22 _ (by omega) (by omega), by rw [strOfNums_size]; exact Nat.succ_pos _, by omega, by omega, by omega, by omega, by omega, by omega⟩
  · refine ⟨?_, bt_head' 23 _ (by omega) (by omega), by rw [strOfNums_size]; exact Nat.succ_pos _, by omega, by omega, by omega, by omega, by omega, by omega⟩
    rw [strOfNums_size]; unfold putL lenP
    rw [if_neg (by decide), if_neg (by decide), if_neg (by decide), if_neg (by decide), if_neg (by decide), if_neg (by decide), if_neg (by decide), if_neg (by decide), if_neg (by decide), if_pos rfl]
    simp only [List.length_append, be_length, List.length_cons, List.length_nil]
    omega
/-- Put, told: a right request's bytes, or none. -/
theorem put_told (a0 a1 a2 a3 a4 : Int) (l : List Int) : (rightP a0 a1 a2 a3 a4 l = true ∧ Rt a0 a1 a2 a3 a4 l ∧ ask_Put.f 5000 a0 a1 a2 a3 a4 l = some (strOfNums (putL a0 a1 a2 a3 a4 l), true)) ∨
    (rightP a0 a1 a2 a3 a4 l = false ∧ ask_Put.f 5000 a0 a1 a2 a3 a4 l = some ((⟨#[]⟩ : ByteArray), false)) := by
  cases hr : rightP a0 a1 a2 a3 a4 l
  · exact .inr ⟨rfl, put_wrong hr _ (by decide)⟩
  · exact .inl ⟨rfl, rt_of hr, put_right (rt_of hr) hr _ (by decide)⟩
end Go.Proofs.Ytinoabkfekomcaa.AskAskSizes
