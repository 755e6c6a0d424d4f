/- guard: must, Lead, Put, walked by hand over the shelf's contracts. -/
import Derived.Test.YtjllahglfpbemaaDoorPGuardTellsx3
import Derived.Test.YtjllahglfpbemaaDoorLib
import Derived.Tactics
import Derived.Tactics2
import Derived.Defers
import Derived.Recover
import Derived.Laws.Pointers
import Derived.WalkLawsBesides
import Derived.Lib.LaidTab
import Derived.Lib.AppendIntMem
namespace Go.Proofs.YtjllahglfpbemaaDoor.PGuardTells
open Go Go.RowKit Go.Proofs.YtjllahglfpbemaaDoorW.PrintWords Go.Proofs.YtjllahglfpbemaaDoorW.PrintLast Go.Proofs.YtjllahglfpbemaaDoorW.PrintMore
set_option maxHeartbeats 2000000
set_option maxRecDepth 100000
set_option linter.unusedVariables false
set_option linter.unusedSimpArgs false
theorem must_true (w : World) : Calls Tryd.prog 62 #[.bool true] w fun e w' => e = .returned (.tuple #[]) ∧ w' = w := by
  go_enter Tryd.func62, Tryd.ntmps62
  go_wp2
  go_end0
  exact ⟨rfl, rfl⟩
theorem must_false (w : World) : Calls Tryd.prog 62 #[.bool false] w fun e w' => e = .panicked [{ v := .iface 71 (.agg #[]), recovered := false }] ∧ w' = w := by
  go_enter Tryd.func62, Tryd.ntmps62
  go_wp2
  exact ⟨rfl, rfl, rfl⟩
abbrev ten : List UInt8 := [48, 49, 50, 51, 52, 53, 54, 55, 56, 57]
theorem guard_Lead_calls (s : ByteArray) (w : World) : Calls Tryd.prog 31 #[.string s] w fun e w' => e = .returned (.int .i64 (wrap64 ((s.size : Int) - ((Lib.trimLeftS s.data.toList ten).length : Int)))) ∧ Below w.heap.size w w' := by
  have hcon := Any.strings_TrimLeft_laid Tryd.trimR (by kernel_rfl) s ⟨#[48, 49, 50, 51, 52, 53, 54, 55, 56, 57]⟩ w (by decide) (ascii_of_all (by decide))
  change Calls Tryd.prog 53 _ _ (fun e w' => e = .returned (.string ⟨(Lib.trimLeftS s.data.toList ten).toArray⟩) ∧ Below w.heap.size w w') at hcon
  have hsz : (⟨(Lib.trimLeftS s.data.toList ten).toArray⟩ : ByteArray).size = (Lib.trimLeftS s.data.toList ten).length := by simp [ByteArray.size]
  rw [← hsz]
  generalize (⟨(Lib.trimLeftS s.data.toList ten).toArray⟩ : ByteArray) = r at hcon ⊢
  go_enter Tryd.func31, Tryd.ntmps31
  go_wp2_with (go_at_call 53; refine hcon.mono ?_; rintro e w' ⟨rfl, hB⟩)
  go_ret
  exact ⟨rfl, hB⟩
/-- A table of the library's that reads as it was laid, whatever the world. -/
def Tab (w : World) : Prop := Lib.TabIs Tryd.prog w "internal/strconv.uint64pow10" .u64 Lib.pow10Tab
theorem guard_Put_calls (n : Int) (w : World) (h0 : -9223372036854775808 ≤ n) (h1 : n ≤ 9223372036854775807) (ht : Tab w) :
    Calls Tryd.prog 27 #[.int .i64 n] w fun e w' => e = .returned (if n < 0 ∨ 9007199254740992 < n then .tuple #[.string ⟨#[]⟩, .bool false] else .tuple #[.string ⟨(Lib.itoa n).toArray⟩, .bool true]) ∧ Below w.heap.size w w' := by
  have hcon := Any.strconv_Itoa Tryd.itoaR n h0 h1 w ht
  change Calls Tryd.prog 49 _ _ _ at hcon
  generalize (⟨(Lib.itoa n).toArray⟩ : ByteArray) = r at hcon ⊢
  by_cases ha : n < 0
  · go_enter Tryd.func27, Tryd.ntmps27
    go_wp2_with fail
    go_ret2
    exact ⟨by first | rfl | (rw [if_pos (Or.inl ha)]; rfl), Below.refl _ _⟩
  by_cases hb : 9007199254740992 < n
  · go_enter Tryd.func27, Tryd.ntmps27
    go_wp2_with fail
    go_ret2
    exact ⟨by first | rfl | (rw [if_pos (Or.inr hb)]; rfl), Below.refl _ _⟩
  rw [if_neg (by omega)]
  go_enter Tryd.func27, Tryd.ntmps27
  go_wp2_with (go_at_call 49; refine hcon.mono ?_; rintro e w' ⟨rfl, k, os, rfl⟩)
  go_ret2
  exact ⟨rfl, Go.Lib.below_grow _ _ (Nat.le_refl _) _ _⟩
end Go.Proofs.YtjllahglfpbemaaDoor.PGuardTells
