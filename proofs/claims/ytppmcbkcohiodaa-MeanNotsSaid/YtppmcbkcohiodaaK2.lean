/- Texts of this claim, put together (wip/pack.py): HofG, RegD, RegV, HofW, Base. -/
import Derived.Test.YtppmcbkcohiodaaK0
import Derived.Test.YtppmcbkcohiodaaK1
import Derived.Tactics
import Derived.Tactics2
import Derived.WalkLawsBesides
import Derived.Test.YtppmcbkcohiodaaWMore
import Derived.Laws.BitsLemmas
import Derived.Laws.Bits64
namespace Go.Proofs.Ytppmcbkcohiodaa.PMeanTells
open Go Go.RowKit Go.Proofs.YtppmcbkcohiodaaW.PrintWords Go.Proofs.YtppmcbkcohiodaaW.PrintLast
set_option maxHeartbeats 2000000
set_option maxRecDepth 100000
set_option linter.unusedVariables false
set_option linter.unusedSimpArgs false
/-- The first place where a predicate holds, as far as it is told. -/
def idxO {α : Type} (p : α → Option Bool) : List α → Nat → Option Int
  | [], _ => some (-1)
  | x :: t, i => (p x).bind fun b => if b then some (i : Int) else idxO p t (i + 1)
/-- A predicate's call over gatewarden/api.Expr, in every world in which all that lay in w lies unturned. -/
def PredE (g : Nat) (lb : Array Value) (p : S26 → Option Bool) (w : World) : Prop :=
  ∀ (W : World) (x : S26) (A2 : Option Addr) (c2 : Nat) (A5 : Option Addr) (c5 : Nat) (b : Bool), Below w.heap.size w W → x.f2.length ≤ c2 → k55.C W A2 x.f2.length x.f2 → x.f5.length ≤ c5 → k26.C W A5 x.f5.length x.f5 → p x = some b → Calls Try.prog g (#[.agg #[.int .i64 x.f0, .int .i64 x.f1, .slice A2 x.f2.length c2, .float .f64 x.f3, .float .f64 x.f4, .slice A5 x.f5.length c5]] ++ lb) W fun e w' => e = .returned (.bool b) ∧ Below W.heap.size W w'
theorem IndexFuncE (A0 : Option Addr) (c0 : Nat) (l0 : List (S26)) (g : Nat) (lb : Array Value) (p : S26 → Option Bool) (r : Int) (w : World) (hr0 : Kd.C k26 w A0 l0.length l0) (hm : l0.length ≤ 1099511627776)
    (eg : ∀ args w, (callFunc g args).run Try.prog w = .ok (.enter g args) w) (hp : PredE g lb p w) (hi : idxO p l0 0 = some r) :
    Calls Try.prog 59 #[.slice A0 l0.length c0, .func (.func g) #[] lb] w fun e w' => e = .returned (.int .i64 r) ∧ Below w.heap.size w w' := by
  have HR0 := Aside0.mk hr0
  have HP := Aside0.mk hp
  have HI := Aside0.mk hi
  clear hr0 hp hi
  obtain ⟨T, hT⟩ : ∃ T : Ending → World → Prop, T = fun e w' => e = .returned (.int .i64 r) ∧ Below w.heap.size w w' := ⟨_, rfl⟩
  have HT := Aside0.mk hT
  rw [← hT]
  clear hT
  go_enter Try.func59, Try.ntmps59
  go_wp2
  go_loopg [5, 8] l0.length (fun gg s5 s8 wr => ∃ kk : Nat, kk ≤ l0.length ∧ l0.length - kk ≤ gg ∧ s8 = .int .i64 kk ∧ Aside0 (Below w.heap.size w wr) ∧ Aside0 (idxO p (l0.drop kk) kk = some r))
  case atStart => exact ⟨0, Nat.zero_le _, by omega, rfl, ⟨Below.refl _ _⟩, HI⟩
  case round =>
    obtain ⟨kk, hkk, hg, rfl, D, A⟩ := hrel
    by_cases hlt : kk < l0.length
    · have hltz : ((kk : Int) < (l0.length : Int)) := by omega
      obtain ⟨ad, A2, c2, A5, c5, hA, q0, q1, q2, q3, q4, q5, l2, g2, l5, g5⟩ := at_T26 (Kd.C_below HR0.out D.out) (kk : Int) (by omega) hltz
      subst hA
      rw [Int.toNat_natCast] at q0 q1 q2 q3 q4 q5
      obtain ⟨y, hy⟩ : ∃ y, y = rd_T26 l0 (kk : Int) := ⟨_, rfl⟩
      rw [← hy] at q0 q1 q2 q3 q4 q5 l2 g2 l5 g5
      have hd : l0.drop kk = y :: l0.drop (kk + 1) := by
        rw [hy]
        have : rd_T26 l0 (kk : Int) = l0[kk] := by simp [rd_T26, List.getD_eq_getElem?_getD, List.getElem?_eq_getElem hlt]
        rw [this]; exact List.drop_eq_getElem_cons hlt
      have hA2 := A.out
      rw [hd, idxO] at hA2
      obtain ⟨b, hb, hrest⟩ := Option.bind_eq_some_iff.1 hA2
      have HC := Aside0.mk (HP.out wr y A2 c2 A5 c5 b D.out l2 g2 l5 g5 hb)
      clear hd hy hA2 hb l2 g2 l5 g5
      cases b with
      | true =>
        rw [if_pos rfl] at hrest
        have HRr := Aside0.mk (Option.some.inj hrest)
        clear hrest
        go_wp2_with fail
        refine HC.out.mono ?_
        rintro e w1 ⟨rfl, hw⟩
        have HW := Aside0.mk (below_step D.out hw)
        clear hw
        go_wp2_with fail
        rw [HT.out, ← HRr.out]
        exact ⟨rfl, HW.out⟩
      | false =>
        rw [if_neg (by decide)] at hrest
        have HRr := Aside0.mk hrest
        clear hrest
        go_wp2_with fail
        refine HC.out.mono ?_
        rintro e w1 ⟨rfl, hw⟩
        have HW := Aside0.mk (below_step D.out hw)
        clear hw
        go_wp2_with fail
        go_roundg (l0.length - (kk + 1))
        case measure => omega
        case rel => exact ⟨kk + 1, by omega, by omega, by go_num, HW, HRr⟩
    · have hltz : ¬ ((kk : Int) < (l0.length : Int)) := by omega
      have hA2 := A.out
      rw [List.drop_of_length_le (by omega), idxO] at hA2
      have HRr := Aside0.mk (Option.some.inj hA2)
      clear hA2
      go_wp2_with fail
      rw [HT.out, ← HRr.out]
      exact ⟨rfl, D.out⟩
theorem ContainsFuncE (A0 : Option Addr) (c0 : Nat) (l0 : List (S26)) (g : Nat) (lb : Array Value) (p : S26 → Option Bool) (r : Int) (w : World) (hr0 : Kd.C k26 w A0 l0.length l0) (hm : l0.length ≤ 1099511627776)
    (eg : ∀ args w, (callFunc g args).run Try.prog w = .ok (.enter g args) w) (hp : PredE g lb p w) (hi : idxO p l0 0 = some r) :
    Calls Try.prog 33 #[.slice A0 l0.length c0, .func (.func g) #[] lb] w fun e w' => e = .returned (.bool (decide (0 ≤ r))) ∧ Below w.heap.size w w' := by
  have HC := Aside0.mk (IndexFuncE A0 c0 l0 g lb p r w hr0 hm eg hp hi)
  clear hr0 hp eg hi
  go_enter Try.func33, Try.ntmps33
  go_wp2_with fail
  refine HC.out.mono ?_
  rintro e w1 ⟨rfl, hw⟩
  have HW := Aside0.mk hw
  clear hw
  go_wp2_with fail
  go_ret
  exact ⟨rfl, HW.out⟩
/-- A predicate's call over int, in every world in which all that lay in w lies unturned. -/
def PredI (g : Nat) (lb : Array Value) (p : Int → Option Bool) (w : World) : Prop :=
  ∀ (W : World) (x : Int) (b : Bool), Below w.heap.size w W → p x = some b → Calls Try.prog g (#[.int .i64 x] ++ lb) W fun e w' => e = .returned (.bool b) ∧ Below W.heap.size W w'
theorem IndexFuncI (A0 : Option Addr) (c0 : Nat) (l0 : List (Int)) (g : Nat) (lb : Array Value) (p : Int → Option Bool) (r : Int) (w : World) (hr0 : Kd.C (Kd.int .i64) w A0 l0.length l0) (hm : l0.length ≤ 1099511627776)
    (eg : ∀ args w, (callFunc g args).run Try.prog w = .ok (.enter g args) w) (hp : PredI g lb p w) (hi : idxO p l0 0 = some r) :
    Calls Try.prog 73 #[.slice A0 l0.length c0, .func (.func g) #[] lb] w fun e w' => e = .returned (.int .i64 r) ∧ Below w.heap.size w w' := by
  have HR0 := Aside0.mk hr0
  have HP := Aside0.mk hp
  have HI := Aside0.mk hi
  clear hr0 hp hi
  obtain ⟨T, hT⟩ : ∃ T : Ending → World → Prop, T = fun e w' => e = .returned (.int .i64 r) ∧ Below w.heap.size w w' := ⟨_, rfl⟩
  have HT := Aside0.mk hT
  rw [← hT]
  clear hT
  go_enter Try.func73, Try.ntmps73
  go_wp2
  go_loopg [5, 8] l0.length (fun gg s5 s8 wr => ∃ kk : Nat, kk ≤ l0.length ∧ l0.length - kk ≤ gg ∧ s8 = .int .i64 kk ∧ Aside0 (Below w.heap.size w wr) ∧ Aside0 (idxO p (l0.drop kk) kk = some r))
  case atStart => exact ⟨0, Nat.zero_le _, by omega, rfl, ⟨Below.refl _ _⟩, HI⟩
  case round =>
    obtain ⟨kk, hkk, hg, rfl, D, A⟩ := hrel
    by_cases hlt : kk < l0.length
    · have hltz : ((kk : Int) < (l0.length : Int)) := by omega
      obtain ⟨ad, hA, q0⟩ := Kd.at_int (Kd.C_below HR0.out D.out) (kk : Int) (by omega) hltz
      subst hA
      rw [Int.toNat_natCast] at q0
      obtain ⟨y, hy⟩ : ∃ y, y = rd l0 (kk : Int) := ⟨_, rfl⟩
      rw [← hy] at q0
      have hd : l0.drop kk = y :: l0.drop (kk + 1) := by
        rw [hy]
        have : rd l0 (kk : Int) = l0[kk] := by simp [rd, List.getD_eq_getElem?_getD, List.getElem?_eq_getElem hlt]
        rw [this]; exact List.drop_eq_getElem_cons hlt
      have hA2 := A.out
      rw [hd, idxO] at hA2
      obtain ⟨b, hb, hrest⟩ := Option.bind_eq_some_iff.1 hA2
      have HC := Aside0.mk (HP.out wr y b D.out hb)
      clear hd hy hA2 hb
      cases b with
      | true =>
        rw [if_pos rfl] at hrest
        have HRr := Aside0.mk (Option.some.inj hrest)
        clear hrest
        go_wp2_with fail
        refine HC.out.mono ?_
        rintro e w1 ⟨rfl, hw⟩
        have HW := Aside0.mk (below_step D.out hw)
        clear hw
        go_wp2_with fail
        rw [HT.out, ← HRr.out]
        exact ⟨rfl, HW.out⟩
      | false =>
        rw [if_neg (by decide)] at hrest
        have HRr := Aside0.mk hrest
        clear hrest
        go_wp2_with fail
        refine HC.out.mono ?_
        rintro e w1 ⟨rfl, hw⟩
        have HW := Aside0.mk (below_step D.out hw)
        clear hw
        go_wp2_with fail
        go_roundg (l0.length - (kk + 1))
        case measure => omega
        case rel => exact ⟨kk + 1, by omega, by omega, by go_num, HW, HRr⟩
    · have hltz : ¬ ((kk : Int) < (l0.length : Int)) := by omega
      have hA2 := A.out
      rw [List.drop_of_length_le (by omega), idxO] at hA2
      have HRr := Aside0.mk (Option.some.inj hA2)
      clear hA2
      go_wp2_with fail
      rw [HT.out, ← HRr.out]
      exact ⟨rfl, D.out⟩
theorem ContainsFuncI (A0 : Option Addr) (c0 : Nat) (l0 : List (Int)) (g : Nat) (lb : Array Value) (p : Int → Option Bool) (r : Int) (w : World) (hr0 : Kd.C (Kd.int .i64) w A0 l0.length l0) (hm : l0.length ≤ 1099511627776)
    (eg : ∀ args w, (callFunc g args).run Try.prog w = .ok (.enter g args) w) (hp : PredI g lb p w) (hi : idxO p l0 0 = some r) :
    Calls Try.prog 53 #[.slice A0 l0.length c0, .func (.func g) #[] lb] w fun e w' => e = .returned (.bool (decide (0 ≤ r))) ∧ Below w.heap.size w w' := by
  have HC := Aside0.mk (IndexFuncI A0 c0 l0 g lb p r w hr0 hm eg hp hi)
  clear hr0 hp eg hi
  go_enter Try.func53, Try.ntmps53
  go_wp2_with fail
  refine HC.out.mono ?_
  rintro e w1 ⟨rfl, hw⟩
  have HW := Aside0.mk hw
  clear hw
  go_wp2_with fail
  go_ret
  exact ⟨rfl, HW.out⟩
/-- A predicate's call over float64, in every world in which all that lay in w lies unturned. -/
def PredF (g : Nat) (lb : Array Value) (p : Nat → Option Bool) (w : World) : Prop :=
  ∀ (W : World) (x : Nat) (b : Bool), Below w.heap.size w W → p x = some b → Calls Try.prog g (#[.float .f64 x] ++ lb) W fun e w' => e = .returned (.bool b) ∧ Below W.heap.size W w'
theorem IndexFuncF (A0 : Option Addr) (c0 : Nat) (l0 : List (Nat)) (g : Nat) (lb : Array Value) (p : Nat → Option Bool) (r : Int) (w : World) (hr0 : Kd.C Kd.flt w A0 l0.length l0) (hm : l0.length ≤ 1099511627776)
    (eg : ∀ args w, (callFunc g args).run Try.prog w = .ok (.enter g args) w) (hp : PredF g lb p w) (hi : idxO p l0 0 = some r) :
    Calls Try.prog 76 #[.slice A0 l0.length c0, .func (.func g) #[] lb] w fun e w' => e = .returned (.int .i64 r) ∧ Below w.heap.size w w' := by
  have HR0 := Aside0.mk hr0
  have HP := Aside0.mk hp
  have HI := Aside0.mk hi
  clear hr0 hp hi
  obtain ⟨T, hT⟩ : ∃ T : Ending → World → Prop, T = fun e w' => e = .returned (.int .i64 r) ∧ Below w.heap.size w w' := ⟨_, rfl⟩
  have HT := Aside0.mk hT
  rw [← hT]
  clear hT
  go_enter Try.func76, Try.ntmps76
  go_wp2
  go_loopg [5, 8] l0.length (fun gg s5 s8 wr => ∃ kk : Nat, kk ≤ l0.length ∧ l0.length - kk ≤ gg ∧ s8 = .int .i64 kk ∧ Aside0 (Below w.heap.size w wr) ∧ Aside0 (idxO p (l0.drop kk) kk = some r))
  case atStart => exact ⟨0, Nat.zero_le _, by omega, rfl, ⟨Below.refl _ _⟩, HI⟩
  case round =>
    obtain ⟨kk, hkk, hg, rfl, D, A⟩ := hrel
    by_cases hlt : kk < l0.length
    · have hltz : ((kk : Int) < (l0.length : Int)) := by omega
      obtain ⟨ad, hA, q0⟩ := Kd.at_flt (Kd.C_below HR0.out D.out) (kk : Int) (by omega) hltz
      subst hA
      rw [Int.toNat_natCast] at q0
      obtain ⟨y, hy⟩ : ∃ y, y = rdOf (0 : Nat) l0 (kk : Int) := ⟨_, rfl⟩
      rw [← hy] at q0
      have hd : l0.drop kk = y :: l0.drop (kk + 1) := by
        rw [hy]
        have : rdOf (0 : Nat) l0 (kk : Int) = l0[kk] := by simp [rdOf, List.getD_eq_getElem?_getD, List.getElem?_eq_getElem hlt]
        rw [this]; exact List.drop_eq_getElem_cons hlt
      have hA2 := A.out
      rw [hd, idxO] at hA2
      obtain ⟨b, hb, hrest⟩ := Option.bind_eq_some_iff.1 hA2
      have HC := Aside0.mk (HP.out wr y b D.out hb)
      clear hd hy hA2 hb
      cases b with
      | true =>
        rw [if_pos rfl] at hrest
        have HRr := Aside0.mk (Option.some.inj hrest)
        clear hrest
        go_wp2_with fail
        refine HC.out.mono ?_
        rintro e w1 ⟨rfl, hw⟩
        have HW := Aside0.mk (below_step D.out hw)
        clear hw
        go_wp2_with fail
        rw [HT.out, ← HRr.out]
        exact ⟨rfl, HW.out⟩
      | false =>
        rw [if_neg (by decide)] at hrest
        have HRr := Aside0.mk hrest
        clear hrest
        go_wp2_with fail
        refine HC.out.mono ?_
        rintro e w1 ⟨rfl, hw⟩
        have HW := Aside0.mk (below_step D.out hw)
        clear hw
        go_wp2_with fail
        go_roundg (l0.length - (kk + 1))
        case measure => omega
        case rel => exact ⟨kk + 1, by omega, by omega, by go_num, HW, HRr⟩
    · have hltz : ¬ ((kk : Int) < (l0.length : Int)) := by omega
      have hA2 := A.out
      rw [List.drop_of_length_le (by omega), idxO] at hA2
      have HRr := Aside0.mk (Option.some.inj hA2)
      clear hA2
      go_wp2_with fail
      rw [HT.out, ← HRr.out]
      exact ⟨rfl, D.out⟩
theorem ContainsFuncF (A0 : Option Addr) (c0 : Nat) (l0 : List (Nat)) (g : Nat) (lb : Array Value) (p : Nat → Option Bool) (r : Int) (w : World) (hr0 : Kd.C Kd.flt w A0 l0.length l0) (hm : l0.length ≤ 1099511627776)
    (eg : ∀ args w, (callFunc g args).run Try.prog w = .ok (.enter g args) w) (hp : PredF g lb p w) (hi : idxO p l0 0 = some r) :
    Calls Try.prog 56 #[.slice A0 l0.length c0, .func (.func g) #[] lb] w fun e w' => e = .returned (.bool (decide (0 ≤ r))) ∧ Below w.heap.size w w' := by
  have HC := Aside0.mk (IndexFuncF A0 c0 l0 g lb p r w hr0 hm eg hp hi)
  clear hr0 hp eg hi
  go_enter Try.func56, Try.ntmps56
  go_wp2_with fail
  refine HC.out.mono ?_
  rintro e w1 ⟨rfl, hw⟩
  have HW := Aside0.mk hw
  clear hw
  go_wp2_with fail
  go_ret
  exact ⟨rfl, HW.out⟩
/-- A predicate's call over gatewarden/api.Rule, in every world in which all that lay in w lies unturned. -/
def PredU (g : Nat) (lb : Array Value) (p : S39 → Option Bool) (w : World) : Prop :=
  ∀ (W : World) (x : S39) (A3 : Option Addr) (c3 : Nat) (A6 : Option Addr) (c6 : Nat) (b : Bool), Below w.heap.size w W → x.f1.f2.length ≤ c3 → k55.C W A3 x.f1.f2.length x.f1.f2 → x.f1.f5.length ≤ c6 → k26.C W A6 x.f1.f5.length x.f1.f5 → p x = some b → Calls Try.prog g (#[.agg #[.bool x.f0, .int .i64 x.f1.f0, .int .i64 x.f1.f1, .slice A3 x.f1.f2.length c3, .float .f64 x.f1.f3, .float .f64 x.f1.f4, .slice A6 x.f1.f5.length c6, .int .i64 x.f2.f0, .int .i64 x.f2.f1, .int .i64 x.f2.f2, .int .i64 x.f3]] ++ lb) W fun e w' => e = .returned (.bool b) ∧ Below W.heap.size W w'
theorem IndexFuncU (A0 : Option Addr) (c0 : Nat) (l0 : List (S39)) (g : Nat) (lb : Array Value) (p : S39 → Option Bool) (r : Int) (w : World) (hr0 : Kd.C k39 w A0 l0.length l0) (hm : l0.length ≤ 1099511627776)
    (eg : ∀ args w, (callFunc g args).run Try.prog w = .ok (.enter g args) w) (hp : PredU g lb p w) (hi : idxO p l0 0 = some r) :
    Calls Try.prog 36 #[.slice A0 l0.length c0, .func (.func g) #[] lb] w fun e w' => e = .returned (.int .i64 r) ∧ Below w.heap.size w w' := by
  have HR0 := Aside0.mk hr0
  have HP := Aside0.mk hp
  have HI := Aside0.mk hi
  clear hr0 hp hi
  obtain ⟨T, hT⟩ : ∃ T : Ending → World → Prop, T = fun e w' => e = .returned (.int .i64 r) ∧ Below w.heap.size w w' := ⟨_, rfl⟩
  have HT := Aside0.mk hT
  rw [← hT]
  clear hT
  go_enter Try.func36, Try.ntmps36
  go_wp2
  go_loopg [5, 8] l0.length (fun gg s5 s8 wr => ∃ kk : Nat, kk ≤ l0.length ∧ l0.length - kk ≤ gg ∧ s8 = .int .i64 kk ∧ Aside0 (Below w.heap.size w wr) ∧ Aside0 (idxO p (l0.drop kk) kk = some r))
  case atStart => exact ⟨0, Nat.zero_le _, by omega, rfl, ⟨Below.refl _ _⟩, HI⟩
  case round =>
    obtain ⟨kk, hkk, hg, rfl, D, A⟩ := hrel
    by_cases hlt : kk < l0.length
    · have hltz : ((kk : Int) < (l0.length : Int)) := by omega
      obtain ⟨ad, A3, c3, A6, c6, hA, q0, q1, q2, q3, q4, q5, q6, q7, q8, q9, q10, l3, g3, l6, g6⟩ := at_T39 (Kd.C_below HR0.out D.out) (kk : Int) (by omega) hltz
      subst hA
      rw [Int.toNat_natCast] at q0 q1 q2 q3 q4 q5 q6 q7 q8 q9 q10
      obtain ⟨y, hy⟩ : ∃ y, y = rd_T39 l0 (kk : Int) := ⟨_, rfl⟩
      rw [← hy] at q0 q1 q2 q3 q4 q5 q6 q7 q8 q9 q10 l3 g3 l6 g6
      have hd : l0.drop kk = y :: l0.drop (kk + 1) := by
        rw [hy]
        have : rd_T39 l0 (kk : Int) = l0[kk] := by simp [rd_T39, List.getD_eq_getElem?_getD, List.getElem?_eq_getElem hlt]
        rw [this]; exact List.drop_eq_getElem_cons hlt
      have hA2 := A.out
      rw [hd, idxO] at hA2
      obtain ⟨b, hb, hrest⟩ := Option.bind_eq_some_iff.1 hA2
      have HC := Aside0.mk (HP.out wr y A3 c3 A6 c6 b D.out l3 g3 l6 g6 hb)
      clear hd hy hA2 hb l3 g3 l6 g6
      cases b with
      | true =>
        rw [if_pos rfl] at hrest
        have HRr := Aside0.mk (Option.some.inj hrest)
        clear hrest
        go_wp2_with fail
        refine HC.out.mono ?_
        rintro e w1 ⟨rfl, hw⟩
        have HW := Aside0.mk (below_step D.out hw)
        clear hw
        go_wp2_with fail
        rw [HT.out, ← HRr.out]
        exact ⟨rfl, HW.out⟩
      | false =>
        rw [if_neg (by decide)] at hrest
        have HRr := Aside0.mk hrest
        clear hrest
        go_wp2_with fail
        refine HC.out.mono ?_
        rintro e w1 ⟨rfl, hw⟩
        have HW := Aside0.mk (below_step D.out hw)
        clear hw
        go_wp2_with fail
        go_roundg (l0.length - (kk + 1))
        case measure => omega
        case rel => exact ⟨kk + 1, by omega, by omega, by go_num, HW, HRr⟩
    · have hltz : ¬ ((kk : Int) < (l0.length : Int)) := by omega
      have hA2 := A.out
      rw [List.drop_of_length_le (by omega), idxO] at hA2
      have HRr := Aside0.mk (Option.some.inj hA2)
      clear hA2
      go_wp2_with fail
      rw [HT.out, ← HRr.out]
      exact ⟨rfl, D.out⟩
end Go.Proofs.Ytppmcbkcohiodaa.PMeanTells
namespace Go.Proofs.YtppmcbkcohiodaaW.PrintLast
open Go.RowKit Go.Proofs.YtppmcbkcohiodaaW.PrintWords
section
variable {P : Program} {ops : Array Oper} {Q : Exit → Act → World → Prop} {S : World → Prop} {o ds : List Nat} {n fuel k : Nat} {a : Act} {w w1 : World}
theorem regd_start (ds o : List Nat) (n : Nat) (S : World → Prop) {id : Nat} (hm : P.follows .mixedOrders = true) (hn : ops.size = n) (hS : S w.drew) (h : S w.drew → wpAnyLast P .any ops Q S ds n (dn o 0 n) a w.drew) : (Code.region id ops true).wp P Q a w :=
  start_ (dn o 0 n) hm hn (dn_zero o n) hS h
theorem regd_pure {i : Nat} {N : Tmp} {oi : Oper} {v : Value} (_ho : o[k]? = some i) (hi : ops[i]? = some oi) (hN : oi.dst = some N) (hc : anyT (rtab .any ops) (dn o k n).toList (dn o (k + 1) n).toList i = true)
    (hQ : ∀ c a w, Q (.panic c) (a.put oi.dst v) w → Q (.panic c) a w) (hw : Region.wanted oi (yielded ops a.tmps) = true) (hy : ∀ w, (execOp a.eval oi).run P w = .ok (.value v) w) {a' : Act} (ha : a.put (some N) v = a')
    (h : wpAnyLast P .any ops Q S ds fuel (dn o (k + 1) n) a' w) : wpAnyLast P .any ops Q S ds (fuel + 1) (dn o k n) a w :=
  pure_ (dn o (k + 1) n) hi hN (any_of rfl hc) hQ (Or.inl ⟨hw, hy⟩) ha h
theorem regd_skip {i : Nat} {N : Tmp} {oi : Oper} (_ho : o[k]? = some i) (hi : ops[i]? = some oi) (hN : oi.dst = some N) (hw : Region.wanted oi (yielded ops a.tmps) = false) (hc : anyT (rtab .any ops) (dn o k n).toList (dn o (k + 1) n).toList i = true)
    (hQ : ∀ c a w, Q (.panic c) (a.put oi.dst undef) w → Q (.panic c) a w) {a' : Act} (ha : a.put (some N) undef = a')
    (h : wpAnyLast P .any ops Q S ds fuel (dn o (k + 1) n) a' w) : wpAnyLast P .any ops Q S ds (fuel + 1) (dn o k n) a w :=
  pure_ (dn o (k + 1) n) hi hN (any_of rfl hc) hQ (Or.inr ⟨hw, rfl⟩) ha h
theorem regd_load {i : Nat} {N : Tmp} {oi : Oper} {v : Value} (_ho : o[k]? = some i) (hi : ops[i]? = some oi) (hN : oi.dst = some N) (hc : takeT (rtab .any ops) ds (dn o k n).toList (dn o (k + 1) n).toList i = true)
    (hQ : ∀ c a w, Q (.panic c) (a.put oi.dst v) w → Q (.panic c) a w) (hw : Region.wanted oi (yielded ops a.tmps) = true) (hy : ∀ w, S w → (execOp a.eval oi).run P w = .ok (.value v) w) (hS : S w) {a' : Act} (ha : a.put (some N) v = a')
    (h : S w → wpAnyLast P .any ops Q S ds fuel (dn o (k + 1) n) a' w) : wpAnyLast P .any ops Q S ds (fuel + 1) (dn o k n) a w :=
  take_ (dn o (k + 1) n) hi hN (take_of rfl hc) hQ (Or.inl ⟨hw, hy⟩) hS ha (h hS)
/-- The last store. -/
theorem regd_store {i : Nat} {oi : Oper} (_ho : o[k]? = some i) (hi : ops[i]? = some oi) (hN : oi.dst = none) (hc : (readyT (rtab .any ops).2 (dn o k n).toList == [i] && (dn o k n).toList.set i true == (dn o (k + 1) n).toList) = true) (hd : i ∈ ds)
    (hw : Region.wanted oi (yielded ops a.tmps) = true) (hrun : (execOp a.eval oi).run P w = .ok .skip w1) (h : wpAnyLast P .any ops Q S ds fuel (dn o (k + 1) n) a w1) : wpAnyLast P .any ops Q S ds (fuel + 1) (dn o k n) a w := by
  refine last_ (dn o (k + 1) n) hi hN (one_of rfl hc) hd (fun K hK => ?_)
  rw [if_pos hw]
  unfold Oper.wp
  rw [hrun, Oper.upon_skip, hN]
  exact hK _ _ h
/-- An operation alone, in the world at hand. -/
theorem regd_run {i : Nat} {N : Tmp} {oi : Oper} {v : Value} (_ho : o[k]? = some i) (hi : ops[i]? = some oi) (hN : oi.dst = some N) (hc : (readyT (rtab .any ops).2 (dn o k n).toList == [i] && (dn o k n).toList.set i true == (dn o (k + 1) n).toList) = true) (hd : i ∉ ds)
    (hw : Region.wanted oi (yielded ops a.tmps) = true) (hrun : (execOp a.eval oi).run P w = .ok (.value v) w1) (hS : S w1) (h : S w1 → ∀ a', a.put (some N) v = a' → wpAnyLast P .any ops Q S ds fuel (dn o (k + 1) n) a' w1) : wpAnyLast P .any ops Q S ds (fuel + 1) (dn o k n) a w :=
  one_ (dn o (k + 1) n) hi hN (one_of rfl hc) hd (fun _ hK => wp_value hN hw hrun (hK.out _ _ hS (fun hs => h hs _ rfl)))
/-- A store, alone, that keeps what the loads need. -/
theorem regd_keep {i : Nat} {oi : Oper} (_ho : o[k]? = some i) (hi : ops[i]? = some oi) (hN : oi.dst = none) (hc : (readyT (rtab .any ops).2 (dn o k n).toList == [i] && (dn o k n).toList.set i true == (dn o (k + 1) n).toList) = true) (hd : i ∉ ds)
    (hw : Region.wanted oi (yielded ops a.tmps) = true) (hrun : (execOp a.eval oi).run P w = .ok .skip w1) (hS : S w1) (h : S w1 → wpAnyLast P .any ops Q S ds fuel (dn o (k + 1) n) a w1) : wpAnyLast P .any ops Q S ds (fuel + 1) (dn o k n) a w := by
  refine one_ (dn o (k + 1) n) hi hN (one_of rfl hc) hd (fun K hK => ?_)
  rw [if_pos hw]
  unfold Oper.wp
  rw [hrun, Oper.upon_skip, hN]
  exact hK.out _ _ hS h
theorem regd_done (h0 : (readyT (rtab .any ops).2 (dn o n n).toList == []) = true) (h : Q .normal a w) : wpAnyLast P .any ops Q S ds fuel (dn o n n) a w :=
  done_ (done_of rfl h0) h
end
end Go.Proofs.YtppmcbkcohiodaaW.PrintLast
namespace Go.Proofs.YtppmcbkcohiodaaW.PrintLast
open Go.RowKit Go.Proofs.YtppmcbkcohiodaaW.PrintWords
section
variable {P : Program} {ops : Array Oper} {Q : Exit → Act → World → Prop} {S : World → Prop} {o : List Nat} {n fuel k : Nat} {a : Act} {w : World}
theorem goesv_ {oi : Oper} {N : Option Tmp} {K : Act → World → Prop} {f : FuncId} {fn : Func} {x : Operand} {as_ : Array Operand} {ts : Array TypeId} (lb : Array Value) (hf : P.funcs[f]? = some fn) (hname : (fn.name == "runtime.NumGoroutine") = false) (hb : fn.body.isSome = true) (args : Array Value)
    (hw : Region.wanted oi (yielded ops a.tmps) = true) (hN : oi.dst = N) (hop : oi.op = .call { callee := .value x, args := as_, argTypes := ts }) (hx : a.eval x = .func (.func f) #[] lb) (hargs : as_.map a.eval = args)
    (h : Calls P f (args ++ lb) w fun e w' => ∃ v, e = .returned v ∧ K (a.put N v) w') : if Region.wanted oi (yielded ops a.tmps) = true then Oper.wp P oi a w K Q else K (a.put N undef) w := by
  refine call_ f (args ++ lb) hw hN ?_ h
  have he := enters_ hf hname hb (args ++ lb) w
  unfold execOp
  simp [hop, resolve, Deferred.ofValue, invoke, hx, hargs, he]
/-- A call of a function value, by its function's contract. -/
theorem reg_callv {i : Nat} {N : Tmp} {oi : Oper} {f : FuncId} {fn : Func} {x : Operand} {ars : Array Operand} {ts : Array TypeId} (lb : Array Value) (_ho : o[k]? = some i) (hi : ops[i]? = some oi) (hN : oi.dst = some N) (hc : (readyT (rtab .any ops).2 (dn o k n).toList == [i] && (dn o k n).toList.set i true == (dn o (k + 1) n).toList) = true)
    (hw : Region.wanted oi (yielded ops a.tmps) = true) (hf : P.funcs[f]? = some fn) (hname : (fn.name == "runtime.NumGoroutine") = false) (hb : fn.body.isSome = true) (args : Array Value) (hop : oi.op = .call { callee := .value x, args := ars, argTypes := ts }) (hx : a.eval x = .func (.func f) #[] lb) (hargs : ars.map a.eval = args)
    (h : Calls P f (args ++ lb) w fun e w' => ∃ v, e = .returned v ∧ S w' ∧ (S w' → ∀ a', a.put (some N) v = a' → wpAnyLast P .any ops Q S [] fuel (dn o (k + 1) n) a' w')) : wpAnyLast P .any ops Q S [] (fuel + 1) (dn o k n) a w := by
  refine one_ (dn o (k + 1) n) hi hN (one_of rfl hc) (by simp) (fun K hK => goesv_ lb hf hname hb args hw hN hop hx hargs (h.mono fun e w' hh => ?_))
  obtain ⟨v, he, hS, hk⟩ := hh
  exact ⟨v, he, hK.out _ _ hS (fun h => hk h _ rfl)⟩
end
end Go.Proofs.YtppmcbkcohiodaaW.PrintLast
namespace Go.Proofs.Ytppmcbkcohiodaa.PMeanTells
open Go Go.RowKit Go.Proofs.YtppmcbkcohiodaaW.PrintWords Go.Proofs.YtppmcbkcohiodaaW.PrintLast
set_option maxHeartbeats 2000000
set_option maxRecDepth 100000
set_option linter.unusedVariables false
set_option linter.unusedSimpArgs false
/-- The first place where a predicate holds, by so many rounds. -/
def idxE (p : S26 → Option Bool) (l : List (S26)) : Nat → Int → Option Int
  | 0, _ => none
  | k + 1, i => if i < (l.length : Int) then (if 0 ≤ i then ((p (rd_T26 l i)).bind fun b => if b = true then some i else idxE p l k (wrap64 (i + 1))) else none) else some (-1)
theorem IndexFuncWE (A0 : Option Addr) (c0 : Nat) (l0 : List (S26)) (g : Nat) (lb : Array Value) (p : S26 → Option Bool) (r : Int) (n : Nat) (w : World) (hr0 : Kd.C k26 w A0 l0.length l0)
    (eg : ∀ args w, (callFunc g args).run Try.prog w = .ok (.enter g args) w) (hp : PredE g lb p w) (hi : idxE p l0 n 0 = some r) :
    Calls Try.prog 59 #[.slice A0 l0.length c0, .func (.func g) #[] lb] w fun e w' => e = .returned (.int .i64 r) ∧ Below w.heap.size w w' := by
  have HR0 := Aside0.mk hr0
  have HP := Aside0.mk hp
  have HI := Aside0.mk hi
  clear hr0 hp hi
  obtain ⟨T, hT⟩ : ∃ T : Ending → World → Prop, T = fun e w' => e = .returned (.int .i64 r) ∧ Below w.heap.size w w' := ⟨_, rfl⟩
  have HT := Aside0.mk hT
  rw [← hT]
  clear hT
  go_enter Try.func59, Try.ntmps59
  go_wp2
  go_loopg [5, 8] n (fun gg s5 s8 wr => ∃ kk : Int, s8 = .int .i64 kk ∧ Aside0 (Below w.heap.size w wr) ∧ Aside0 (idxE p l0 gg kk = some r))
  case atStart => exact ⟨0, rfl, ⟨Below.refl _ _⟩, HI⟩
  case round =>
    obtain ⟨kk, rfl, D, A⟩ := hrel
    cases gk with
    | zero => exact absurd A.out (by simp [idxE])
    | succ k1 =>
    have hA2 := A.out
    rw [idxE] at hA2
    by_cases hlt : kk < (l0.length : Int)
    · rw [if_pos hlt] at hA2
      by_cases h0 : 0 ≤ kk
      · rw [if_pos h0] at hA2
        obtain ⟨b, hb, hrest⟩ := Option.bind_eq_some_iff.1 hA2
        obtain ⟨ad, A2, c2, A5, c5, hA, q0, q1, q2, q3, q4, q5, l2, g2, l5, g5⟩ := at_T26 (Kd.C_below HR0.out D.out) kk h0 hlt
        subst hA
        obtain ⟨y, hy⟩ : ∃ y, y = rd_T26 l0 kk := ⟨_, rfl⟩
        rw [← hy] at q0 q1 q2 q3 q4 q5 l2 g2 l5 g5 hb
        have HC := Aside0.mk (HP.out wr y A2 c2 A5 c5 b D.out l2 g2 l5 g5 hb)
        clear hy hA2 hb l2 g2 l5 g5
        cases b with
        | true =>
          rw [if_pos rfl] at hrest
          have HRr := Aside0.mk (Option.some.inj hrest)
          clear hrest
          go_wp2_with fail
          refine HC.out.mono ?_
          rintro e w1 ⟨rfl, hw⟩
          have HW := Aside0.mk (below_step D.out hw)
          clear hw
          go_wp2_with fail
          rw [HT.out, ← HRr.out]
          exact ⟨rfl, HW.out⟩
        | false =>
          rw [if_neg (by decide)] at hrest
          have HRr := Aside0.mk hrest
          clear hrest
          go_wp2_with fail
          refine HC.out.mono ?_
          rintro e w1 ⟨rfl, hw⟩
          have HW := Aside0.mk (below_step D.out hw)
          clear hw
          go_wp2_with fail
          go_roundg k1
          case measure => omega
          case rel => exact ⟨wrap64 (kk + 1), rfl, HW, HRr⟩
      · rw [if_neg h0] at hA2
        exact absurd hA2 (by simp)
    · rw [if_neg hlt] at hA2
      have HRr := Aside0.mk (Option.some.inj hA2)
      clear hA2
      go_wp2_with fail
      rw [HT.out, ← HRr.out]
      exact ⟨rfl, D.out⟩
theorem ContainsFuncWE (A0 : Option Addr) (c0 : Nat) (l0 : List (S26)) (g : Nat) (lb : Array Value) (p : S26 → Option Bool) (r : Int) (n : Nat) (w : World) (hr0 : Kd.C k26 w A0 l0.length l0)
    (eg : ∀ args w, (callFunc g args).run Try.prog w = .ok (.enter g args) w) (hp : PredE g lb p w) (hi : idxE p l0 n 0 = some r) :
    Calls Try.prog 33 #[.slice A0 l0.length c0, .func (.func g) #[] lb] w fun e w' => e = .returned (.bool (decide (0 ≤ r))) ∧ Below w.heap.size w w' := by
  have HC := Aside0.mk (IndexFuncWE A0 c0 l0 g lb p r n w hr0 eg hp hi)
  clear hr0 hp eg hi
  go_enter Try.func33, Try.ntmps33
  go_wp2_with fail
  refine HC.out.mono ?_
  rintro e w1 ⟨rfl, hw⟩
  have HW := Aside0.mk hw
  clear hw
  go_wp2_with fail
  go_ret
  exact ⟨rfl, HW.out⟩
end Go.Proofs.Ytppmcbkcohiodaa.PMeanTells
namespace Go.Proofs.Ytppmcbkcohiodaa.Base
open Go.RowKit Go.Proofs.YtppmcbkcohiodaaW.PrintWords

theorem w64 {n : Int} (h0 : -9223372036854775808 ≤ n) (h1 : n ≤ 9223372036854775807) : wrap64 n = n := by
  unfold wrap64; omega
theorem u64w {n : Int} (h0 : 0 ≤ n) (h1 : n < 18446744073709551616) : IntKind.u64.wrap n = n := by
  rw [IntKind.wrap_u64]; omega
theorem wraps_i64 (n : Int) (h₀ : 0 ≤ n) (h₁ : n < 2 ^ 63) : IntKind.i64.wrap n = n := by
  rw [IntKind.wrap_i64]; omega
theorem and7 (x : Int) (h0 : 0 ≤ x) (h1 : x < 9223372036854775808) : Go.bits .and .i64 x 7 = x % 8 :=
  bits_mask .i64 63 (by decide) wraps_i64 3 (by decide) x h0 (by omega)
theorem and1 (x : Int) (h0 : 0 ≤ x) (h1 : x < 9223372036854775808) : Go.bits .and .i64 x 1 = x % 2 :=
  bits_mask .i64 63 (by decide) wraps_i64 1 (by decide) x h0 (by omega)
theorem bits_or_comm (k : IntKind) (x y : Int) : Go.bits .or k x y = Go.bits .or k y x := by
  unfold Go.bits; simp only [BitVec.or_comm]
theorem two_pow_le (m n : Nat) (h : m ≤ n) : (2 : Int) ^ m ≤ 2 ^ n := by
  have := Nat.pow_le_pow_right (n := 2) (by decide) h
  exact_mod_cast this
theorem two_pow_pos (m : Nat) : (0 : Int) < 2 ^ m := by
  have := Nat.two_pow_pos m
  exact_mod_cast this
/-- A bit set above all that is there. -/
theorem or_top (a : Int) (m : Nat) (hm : m < 8) (h0 : 0 ≤ a) (h1 : a < 2 ^ m) : Go.bits .or .u8 a (2 ^ m) = a + 2 ^ m := by
  have hp := two_pow_le m 7 (by omega)
  have hp2 : (2 : Int) ^ 7 < 2 ^ 8 := by decide
  rw [bits_or_comm, bits_join .u8 8 (by decide) wraps_u8 m (2 ^ m) a (Int.pow_nonneg (by decide)) (Int.emod_self) (by omega) h0 h1 (by omega)]
  omega
theorem shl_one (m : Nat) (hm : m < 8) : shl .u8 1 (m : Int) = 2 ^ m := by
  have hp := two_pow_le m 7 (by omega)
  have h0 : (0 : Int) ≤ 2 ^ m := Int.pow_nonneg (by decide)
  unfold shl
  have e : min (m : Int).toNat IntKind.u8.bits = m := by simp [IntKind.bits]; omega
  rw [e, IntKind.wrap_u8]
  omega
theorem shl_i64 (x : Int) (m : Nat) (hm : m < 8) (hx : x = 0 ∨ x = 1) : shl .i64 x (m : Int) = x * 2 ^ m := by
  have hp := two_pow_le m 7 (by omega)
  have h0 : (0 : Int) ≤ 2 ^ m := Int.pow_nonneg (by decide)
  unfold shl
  have e : min (m : Int).toNat IntKind.i64.bits = m := by simp [IntKind.bits]; omega
  rw [e, IntKind.wrap_i64]
  rcases hx with rfl | rfl <;> omega
theorem shr_eq (k : IntKind) (x : Int) (m : Nat) (hm : m < 8) : shr k x (m : Int) = x / 2 ^ m := by
  unfold shr
  have e : min (m : Int).toNat k.bits = m := by cases k <;> simp [IntKind.bits] <;> omega
  rw [e]
theorem tdiv8 {x : Int} (h : 0 ≤ x) : Int.tdiv x 8 = x / 8 := Int.tdiv_eq_ediv_of_nonneg h
theorem tmod8 {x : Int} (h : 0 ≤ x) : Int.tmod x 8 = x % 8 := Int.tmod_eq_emod_of_nonneg h
theorem wf64 {n : Int} (h : (Lit.int .i64 n).wf = true) : -9223372036854775808 ≤ n ∧ n ≤ 9223372036854775807 := by
  simpa [Lit.wf, IntKind.min, IntKind.max, IntKind.signed, IntKind.bits] using h
theorem wf8 {n : Int} (h : (Lit.int .u8 n).wf = true) : 0 ≤ n ∧ n ≤ 255 := by
  simpa [Lit.wf, IntKind.min, IntKind.max, IntKind.signed, IntKind.bits] using h
theorem wf16 {n : Int} (h : (Lit.int .u16 n).wf = true) : 0 ≤ n ∧ n ≤ 65535 := by
  simpa [Lit.wf, IntKind.min, IntKind.max, IntKind.signed, IntKind.bits] using h
theorem rd_nat (xs : List Int) (i : Nat) : rd xs (i : Int) = xs.getD i 0 := by simp [rd]
theorem bt_nat (s : ByteArray) (i : Nat) (h : i < s.size) : bt s (i : Int) = (s[i].toNat : Int) := by simp [bt, h]
theorem bt_strOfNums (xs : List Int) (i : Nat) (h : i < xs.length) (hb : ∀ x ∈ xs, 0 ≤ x ∧ x ≤ 255) : bt (strOfNums xs) (i : Int) = xs.getD i 0 := by
  have hs : i < (strOfNums xs).size := by rw [strOfNums_size]; exact h
  have hx := hb xs[i] (List.getElem_mem h)
  rw [bt_nat _ _ hs, List.getD_eq_getElem?_getD, List.getElem?_eq_getElem h]
  simp only [strOfNums, ByteArray.getElem_eq_getElem_data, List.getElem_toArray, List.getElem_map, Option.getD_some]
  rw [UInt8.toNat_ofNat']
  omega
end Go.Proofs.Ytppmcbkcohiodaa.Base
