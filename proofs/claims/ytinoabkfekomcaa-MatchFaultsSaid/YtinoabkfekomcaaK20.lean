/- Texts of this claim, put together (wip/pack.py): RefReply, Reg. -/
import Derived.Test.YtinoabkfekomcaaK15
import Derived.Test.YtinoabkfekomcaaK18
import Derived.Test.YtinoabkfekomcaaK19
import Derived.Test.YtinoabkfekomcaaWLast
import Derived.Test.YtinoabkfekomcaaWTab
namespace Go.Proofs.Ytinoabkfekomcaa.AskAskSizes
open Go Go.RowKit Go.Proofs.Ytinoabkfekomcaa.PAskSizes Go.Proofs.YtinoabkfekomcaaW.PrintWords Go.Proofs.YtinoabkfekomcaaW.PrintLast Go.Proofs.Ytinoabkfekomcaa.Base Go.Proofs.Ytinoabkfekomcaa.RepAskSizes Go.Proofs.Ytinoabkfekomcaa.CoilAskSizes Go.Proofs.Ytinoabkfekomcaa.Coil
set_option linter.unusedVariables false
theorem echoL_five (a0 a3 a4 : Int) (l : List Int) : 5 ≤ (echoL a0 a3 a4 l).length := by
  unfold echoL
  split
  · simp [be]
  split
  · simp [be]
  split
  · simp [be]
  · simp [be]
theorem put_echo {a0 a1 a2 a3 a4 : Int} {l : List Int} (h : Rt a0 a1 a2 a3 a4 l) (he : echoB a0 = true) :
    (a0 = 5 ∨ a0 = 6 ∨ a0 = 22 → putL a0 a1 a2 a3 a4 l = echoL a0 a3 a4 l) ∧ (a0 = 15 ∨ a0 = 16 → 5 ≤ (putL a0 a1 a2 a3 a4 l).length ∧ (putL a0 a1 a2 a3 a4 l).take 5 = echoL a0 a3 a4 l) ∧ (a0 = 5 ∨ a0 = 6 ∨ a0 = 22 ∨ a0 = 15 ∨ a0 = 16) := by
  refine ⟨?_, ?_, ?_⟩
  · rintro (rfl | rfl | rfl) <;> rfl
  · rintro (rfl | rfl)
    · exact ⟨by simp [putL, be], rfl⟩
    · exact ⟨by simp [putL, be], rfl⟩
  · unfold echoB at he
    simp at he
    omega
theorem refMake_eq (a0 a1 a2 a3 a4 : Int) (l l1 : List Int) (hl : l.length ≤ 3000) (hl1 : l1.length ≤ 5000) (hw : Wf l1) (k : Nat) (hk : 6000 ≤ k) : gatewardenref07_Make.f (k + 3) a0 a1 a2 a3 a4 l l1 = some (makeP a0 a1 a2 a3 a4 l l1) := by
  unfold gatewardenref07_Make.f makeP
  rw [refRight_eq _ _ _ _ _ _ (by omega) _ (by omega), Option.bind_some]
  by_cases hr : rightP a0 a1 a2 a3 a4 l = true
  · have ht := rt_of hr
    have hb := rt_of_len ht
    rw [if_pos hr]
    simp only [gatewardenref07_Make.j0]
    by_cases hn : (l1.length : Int) = a2
    · have hput : gatewardenref06_Put.f (k + 2) a0 a1 a2 a3 a4 l = some (strOfNums (putL a0 a1 a2 a3 a4 l), true) := at_rounds (gatewardenref06_Put.mono a0 a1 a2 a3 a4 l) (by omega) (rput_right ht hr)
      rw [if_pos (show rightP a0 a1 a2 a3 a4 l = true ∧ (l1.length : Int) = a2 from ⟨hr, hn⟩), if_neg (show ¬ ((l1.length : Int) != a2) = true by simpa using hn), hput, Option.bind_some]
      simp only [gatewardenref07_Make.j1]
      by_cases he : echoB a0 = true
      · rw [if_pos he]
        obtain ⟨e1, e2, e3⟩ := put_echo ht he
        rcases e3 with rfl | rfl | rfl | rfl | rfl
        · rw [if_pos rfl, if_pos (by decide), e1 (.inl rfl)]
        · rw [if_neg (by decide), if_pos rfl, if_pos (by decide), e1 (.inr (.inl rfl))]
        · rw [if_neg (by decide), if_neg (by decide), if_pos (by decide), e1 (.inr (.inr rfl))]
        · rw [if_neg (by decide), if_neg (by decide), if_neg (by decide), if_pos rfl, if_pos (by decide), if_pos (by rw [strOfNums_size]; have := (e2 (.inl rfl)).1; omega), extract_strOfNums, (e2 (.inl rfl)).2]
        · rw [if_neg (by decide), if_neg (by decide), if_neg (by decide), if_neg (by decide), if_pos rfl, if_pos (by decide), if_pos (by rw [strOfNums_size]; have := (e2 (.inr rfl)).1; omega), extract_strOfNums, (e2 (.inr rfl)).2]
      · have e5 : a0 ≠ 5 ∧ a0 ≠ 6 ∧ a0 ≠ 22 ∧ a0 ≠ 15 ∧ a0 ≠ 16 := by
          refine ⟨?_, ?_, ?_, ?_, ?_⟩ <;> (intro h; subst h; exact he rfl)
        have hs := packP_size a0 l1
        have hs2 : (packP a0 l1).1.size ≤ 255 := by
          by_cases h3 : a0 < 3
          · unfold packP put
            rw [if_pos h3]
            have e : (⟨#[]⟩ : ByteArray).size = 0 := rfl
            split <;> simp only [e, strOfNums_size, pack_length] <;> omega
          · omega
        have e22 : ¬ (a0 == 22) = true := by simpa using e5.2.2.1
        rw [if_neg he, if_neg e5.1, if_neg e5.2.1, if_neg e22, if_neg e5.2.2.2.1, if_neg e5.2.2.2.2, rputAll_eq _ (by omega) _ (by omega), Option.bind_some]
        by_cases h3 : a0 < 3
        · have hp : packP a0 l1 = put l1 := by unfold packP; rw [if_pos h3]
          rw [hp] at hs2 ⊢
          rw [if_pos (by omega), ref_put_eq _ (by omega) _ (by omega), Option.bind_some]
          by_cases hp : (put l1).2 = true
          · rw [if_pos hp, if_pos hp, Option.bind_some, if_pos (by rw [strOfNums_size]; simp; omega), Int.emod_eq_of_lt (by omega) (by omega), Int.emod_eq_of_lt (by omega) (by omega)]
          · rw [if_neg hp, if_neg hp]
        · have hp : packP a0 l1 = putAll l1 := by unfold packP; rw [if_neg h3]
          rw [hp] at hs2 ⊢
          rw [if_neg (by omega)]
          by_cases hp : (putAll l1).2 = true
          · rw [if_pos hp, if_pos hp, Option.bind_some, if_pos (by rw [strOfNums_size]; simp; omega), Int.emod_eq_of_lt (by omega) (by omega), Int.emod_eq_of_lt (by omega) (by omega)]
          · rw [if_neg hp, if_neg hp]
    · rw [if_neg (show ¬ (rightP a0 a1 a2 a3 a4 l = true ∧ (l1.length : Int) = a2) from fun h => hn h.2), if_pos (show ((l1.length : Int) != a2) = true by simpa using hn)]
  · rw [if_neg hr, if_neg (show ¬ (rightP a0 a1 a2 a3 a4 l = true ∧ (l1.length : Int) = a2) from fun h => hr h.1)]
    simp only [gatewardenref07_Make.j0]
    rw [if_pos trivial]
theorem data_form (a0 a1 a2 a3 a4 : Int) (l : List Int) (s : ByteArray) : dataP a0 a1 a2 a3 a4 l s = ([], false) ∨ (dataP a0 a1 a2 a3 a4 l s).2 = true := by
  cases h : (dataP a0 a1 a2 a3 a4 l s).2
  · left
    unfold dataP at h ⊢
    split
    · rename_i h1
      rw [if_pos h1] at h
      split
      · rename_i h2
        rw [if_pos h2] at h
        exact congrArg (Prod.mk []) h
      · rename_i h2
        rw [if_neg h2] at h
        split
        · rename_i h3
          rw [if_pos h3] at h
          split
          · rename_i h4
            rw [if_pos h4] at h
            cases h
          · rfl
        · rfl
    · rfl
  · exact .inr rfl
theorem data_unpack {a0 a1 a2 a3 a4 : Int} {l : List Int} {s : ByteArray} (he : echoB a0 = false) (h : (dataP a0 a1 a2 a3 a4 l s).2 = true) : 2 ≤ s.size ∧ (unpackP a0 a2 (s.extract 2 s.size)).2 = true ∧ dataP a0 a1 a2 a3 a4 l s = ((unpackP a0 a2 (s.extract 2 s.size)).1, true) := by
  unfold dataP at h ⊢
  rw [he] at h ⊢
  split
  · rename_i h1
    rw [if_pos h1, if_neg (by decide)] at h
    rw [if_neg (by decide)]
    split
    · rename_i h3
      rw [if_pos h3] at h
      split
      · rename_i h4
        exact ⟨h3.1, h4, rfl⟩
      · rename_i h4
        rw [if_neg h4] at h
        cases h
    · rename_i h3
      rw [if_neg h3] at h
      cases h
  · rename_i h1
    rw [if_neg h1] at h
    cases h
theorem to_eq {a b : ByteArray} : a.toList = b.toList ↔ a = b := by
  constructor
  · intro h
    exact of_toList (by rw [h]; simp)
  · rintro rfl; rfl
/-- What the document's Data does with data that are read. -/
theorem data_last {a0 a1 a2 a3 a4 : Int} {l : List Int} (s : ByteArray) (hl : l.length ≤ 3000) (hr : rightP a0 a1 a2 a3 a4 l = true) (hs : s.size ≤ 300) (l1 : List Int) (ok : Bool) (hl1 : l1.length ≤ 5000) (hw : Wf l1)
    (hu : (dataP a0 a1 a2 a3 a4 l s).2 = true → ok = true ∧ (dataP a0 a1 a2 a3 a4 l s).1 = l1) (k : Nat) (hk : 6000 ≤ k) :
    gatewardenref07_Data.j1 (k + 4) s l1 ok a0 a1 a2 a3 a4 l = some (dataP a0 a1 a2 a3 a4 l s) := by
  simp only [gatewardenref07_Data.j1]
  cases ok
  · rw [if_neg (by decide)]
    rcases data_form a0 a1 a2 a3 a4 l s with h | h
    · rw [h]
    · cases (hu h).1
  · rw [if_pos rfl, refMake_eq a0 a1 a2 a3 a4 l l1 hl hl1 hw k hk, Option.bind_some]
    by_cases hm : (makeP a0 a1 a2 a3 a4 l l1).2 = true
    · rw [if_pos hm]
      by_cases ht : (makeP a0 a1 a2 a3 a4 l l1).1 = s
      · rw [if_pos (to_eq.2 ht)]
        have h := (made hm).1
        rw [ht] at h
        rw [h]
      · rw [if_neg (fun h => ht (to_eq.1 h))]
        rcases data_form a0 a1 a2 a3 a4 l s with h | h
        · rw [h]
        · have h2 := told h
          rw [(hu h).2] at h2
          rw [h2] at ht
          exact absurd rfl ht
    · rw [if_neg hm]
      rcases data_form a0 a1 a2 a3 a4 l s with h | h
      · rw [h]
      · have h2 := told h
        rw [(hu h).2] at h2
        rw [h2] at hm
        exact absurd rfl hm
theorem wf_nil : Wf [] := fun v hv => by cases hv
theorem get_len (s : ByteArray) (n : Int) (hs : s.size ≤ 300) (hn : n ≤ 2000) : (get s n).1.length ≤ 5000 ∧ Wf (get s n).1 := by
  unfold CoilAskSizes.get
  split
  · refine ⟨by rw [bitsOf_length]; omega, fun v hv => ?_⟩
    have h := bitsOf_bits _ _ v hv
    rcases h with rfl | rfl <;> rfl
  · exact ⟨Nat.zero_le _, wf_nil⟩
theorem getAll_len (s : ByteArray) (hs : s.size ≤ 300) : (getAll s).1.length ≤ 5000 ∧ Wf (getAll s).1 := by
  unfold getAll
  split
  · exact ⟨Nat.zero_le _, wf_nil⟩
  · have h := un_rg (s.size / 2) (bytesOf s) (by rw [bytesOf_length]; omega) (bytes_bound _)
    exact ⟨by show (un (bytesOf s)).length ≤ 5000; omega, rg_wf h.1⟩
theorem refData_eq (a0 a1 a2 a3 a4 : Int) (l : List Int) (s : ByteArray) (hl : l.length ≤ 3000) (hs : s.size ≤ 300) (k : Nat) (hk : 6000 ≤ k) : gatewardenref07_Data.f (k + 5) a0 a1 a2 a3 a4 l s = some (dataP a0 a1 a2 a3 a4 l s) := by
  unfold gatewardenref07_Data.f
  rw [refRight_eq _ _ _ _ _ _ (by omega) _ (by omega), Option.bind_some]
  by_cases hr : rightP a0 a1 a2 a3 a4 l = true
  · have ht := rt_of hr
    have hb := rt_of_len ht
    have hk3 := rt_kinds ht
    rw [if_pos hr]
    simp only [gatewardenref07_Data.j0]
    by_cases h2 : s.size < 2
    · rw [if_pos (decide_eq_true (by omega))]
      rcases data_form a0 a1 a2 a3 a4 l s with h | h
      · rw [h]
      · exfalso
        cases he : echoB a0
        · have := (data_unpack he h).1
          omega
        · have h3 := told h
          have h4 := echoL_five a0 a3 a4 l
          unfold makeP at h3
          split at h3
          · try rw [if_pos he] at h3
            have h6 := congrArg (fun p : ByteArray × Bool => p.1.size) h3
            simp only [strOfNums_size] at h6
            omega
          · cases h3
    · rw [if_neg (by rw [decide_eq_true_eq]; omega)]
      by_cases ha : a2 > 0
      · have he : echoB a0 = false := by
          rcases hk3 with ⟨h, h'⟩ | ⟨h, -⟩ | ⟨h, -⟩
          · omega
          · exact h
          · exact h
        have hx : (s.extract 2 s.size).size ≤ 300 := by rw [ByteArray.size_extract]; omega
        rw [if_pos ha, if_pos (by omega), rgetAll_eq _ (by omega) _ (by omega), Option.bind_some]
        by_cases h3 : a0 < 3
        · have hg := get_len (s.extract 2 s.size) a2 hx (by omega)
          rw [if_pos (by omega), ref_get_eq _ _ (by omega) (by omega) _ (by omega), Option.bind_some]
          refine data_last s hl hr hs _ _ hg.1 hg.2 (fun h => ?_) k hk
          obtain ⟨-, h5, h6⟩ := data_unpack he h
          unfold unpackP at h5 h6
          rw [if_pos h3] at h5 h6
          exact ⟨h5, by rw [h6]⟩
        · have hg := getAll_len (s.extract 2 s.size) hx
          rw [if_neg (by omega)]
          refine data_last s hl hr hs _ _ hg.1 hg.2 (fun h => ?_) k hk
          obtain ⟨-, h5, h6⟩ := data_unpack he h
          unfold unpackP at h5 h6
          rw [if_neg h3] at h5 h6
          refine ⟨?_, by rw [h6]⟩
          simp only [Bool.and_eq_true] at h5
          exact h5.1
      · rw [if_neg ha]
        have he : echoB a0 = true := by
          rcases hk3 with ⟨h, h'⟩ | ⟨h, h'⟩ | ⟨h, h'⟩
          · exact h
          · omega
          · omega
        have hd : dataP a0 a1 a2 a3 a4 l s = ([], ((strOfNums (echoL a0 a3 a4 l)).toList == s.toList)) := by
          unfold dataP
          rw [if_pos hr, if_pos he]
        have hm : makeP a0 a1 a2 a3 a4 l [] = (strOfNums (echoL a0 a3 a4 l), true) := by
          unfold makeP
          rw [if_pos ⟨hr, by show ((0 : Nat) : Int) = a2; omega⟩, if_pos he]
        rw [refMake_eq a0 a1 a2 a3 a4 l [] hl (Nat.zero_le _) wf_nil (k + 1) (by omega), Option.bind_some, hm, hd]
        by_cases h : (strOfNums (echoL a0 a3 a4 l)).toList = s.toList
        · rw [if_pos rfl, if_pos h, h]; simp
        · rw [if_pos rfl, if_neg h, beq_eq_false_iff_ne.2 h]
  · rw [if_neg hr]
    simp only [gatewardenref07_Data.j0]
    rw [if_pos trivial]
    unfold dataP
    rw [if_neg hr]
end Go.Proofs.Ytinoabkfekomcaa.AskAskSizes
namespace Go.Proofs.YtinoabkfekomcaaW.PrintLast
open Go.RowKit Go.Proofs.YtinoabkfekomcaaW.PrintWords
/-- Of n operations, ordered so, the first k have come up. -/
def dn (o : List Nat) (k n : Nat) : Array Bool := ((o.take k).foldl (fun l i => l.set i true) (List.replicate n false)).toArray
theorem dn_zero (o : List Nat) (n : Nat) : Array.replicate n false = dn o 0 n := by simp [dn]
/-- A byte of a string, under a name. -/
theorem byte_at (s : ByteArray) (i : Nat) (h : i < s.size) : ∃ v : Int, bt s (i : Int) = v ∧ 0 ≤ v ∧ v ≤ 255 ∧ wrap64 v = v ∧ IntKind.i64.wrap v = v ∧ ((s[i]'h).toNat : Int) = v := by
  have hb := bt_range s (i : Int)
  refine ⟨_, rfl, hb.1, hb.2, ?_, ?_, bt_at s (i : Int) (by simpa using h)⟩
  · unfold wrap64; omega
  · rw [IntKind.wrap_i64]; omega
section
variable {P : Program} {ops : Array Oper} {Q : Exit → Act → World → Prop} {S : World → Prop} {o : List Nat} {n fuel k : Nat} {a : Act} {w : World}
theorem reg_start (o : List Nat) (n : Nat) (S : World → Prop) {id : Nat} (hm : P.follows .mixedOrders = true) (hn : ops.size = n) (hS : S w.drew) (h : S w.drew → wpAnyLast P .any ops Q S [] n (dn o 0 n) a w.drew) : (Code.region id ops true).wp P Q a w :=
  start_ (dn o 0 n) hm hn (dn_zero o n) hS h
/-- An operation that only reckons. -/
theorem reg_pure {i : Nat} {N : Tmp} {oi : Oper} {v : Value} (_ho : o[k]? = some i) (hi : ops[i]? = some oi) (hN : oi.dst = some N) (hc : anyT (rtab .any ops) (dn o k n).toList (dn o (k + 1) n).toList i = true)
    (hQ : ∀ c a w, Q (.panic c) (a.put oi.dst v) w → Q (.panic c) a w) (hw : Region.wanted oi (yielded ops a.tmps) = true) (hy : ∀ w, (execOp a.eval oi).run P w = .ok (.value v) w) {a' : Act} (ha : a.put (some N) v = a')
    (h : wpAnyLast P .any ops Q S [] fuel (dn o (k + 1) n) a' w) : wpAnyLast P .any ops Q S [] (fuel + 1) (dn o k n) a w :=
  pure_ (dn o (k + 1) n) hi hN (any_of rfl hc) hQ (Or.inl ⟨hw, hy⟩) ha h
/-- An operation whose guard is not met. -/
theorem reg_skip {i : Nat} {N : Tmp} {oi : Oper} (_ho : o[k]? = some i) (hi : ops[i]? = some oi) (hN : oi.dst = some N) (hw : Region.wanted oi (yielded ops a.tmps) = false) (hc : anyT (rtab .any ops) (dn o k n).toList (dn o (k + 1) n).toList i = true)
    (hQ : ∀ c a w, Q (.panic c) (a.put oi.dst undef) w → Q (.panic c) a w) {a' : Act} (ha : a.put (some N) undef = a')
    (h : wpAnyLast P .any ops Q S [] fuel (dn o (k + 1) n) a' w) : wpAnyLast P .any ops Q S [] (fuel + 1) (dn o k n) a w :=
  pure_ (dn o (k + 1) n) hi hN (any_of rfl hc) hQ (Or.inr ⟨hw, rfl⟩) ha h
/-- A load of what is held. -/
theorem reg_load {i : Nat} {N : Tmp} {oi : Oper} {v : Value} (_ho : o[k]? = some i) (hi : ops[i]? = some oi) (hN : oi.dst = some N) (hc : takeT (rtab .any ops) [] (dn o k n).toList (dn o (k + 1) n).toList i = true)
    (hQ : ∀ c a w, Q (.panic c) (a.put oi.dst v) w → Q (.panic c) a w) (hw : Region.wanted oi (yielded ops a.tmps) = true) (hy : ∀ w, S w → (execOp a.eval oi).run P w = .ok (.value v) w) (hS : S w) {a' : Act} (ha : a.put (some N) v = a')
    (h : S w → wpAnyLast P .any ops Q S [] fuel (dn o (k + 1) n) a' w) : wpAnyLast P .any ops Q S [] (fuel + 1) (dn o k n) a w :=
  take_ (dn o (k + 1) n) hi hN (take_of rfl hc) hQ (Or.inl ⟨hw, hy⟩) hS ha (h hS)
/-- A call of a Go function, by its contract. -/
theorem reg_call {i : Nat} {N : Tmp} {oi : Oper} {f : FuncId} {fn : Func} {ars : Array Operand} {ts : Array TypeId} (_ho : o[k]? = some i) (hi : ops[i]? = some oi) (hN : oi.dst = some N) (hc : (readyT (rtab .any ops).2 (dn o k n).toList == [i] && (dn o k n).toList.set i true == (dn o (k + 1) n).toList) = true)
    (hw : Region.wanted oi (yielded ops a.tmps) = true) (hf : P.funcs[f]? = some fn) (hname : (fn.name == "runtime.NumGoroutine") = false) (hb : fn.body.isSome = true) (args : Array Value) (hop : oi.op = .call { callee := .value (.func f), args := ars, argTypes := ts }) (hargs : ars.map a.eval = args)
    (h : Calls P f args w fun e w' => ∃ v, e = .returned v ∧ S w' ∧ (S w' → ∀ a', a.put (some N) v = a' → wpAnyLast P .any ops Q S [] fuel (dn o (k + 1) n) a' w')) : wpAnyLast P .any ops Q S [] (fuel + 1) (dn o k n) a w := by
  refine one_ (dn o (k + 1) n) hi hN (one_of rfl hc) (by simp) (fun K hK => goes_ hf hname hb args hw hN hop hargs (h.mono fun e w' hh => ?_))
  obtain ⟨v, he, hS, hk⟩ := hh
  exact ⟨v, he, hK.out _ _ hS (fun h => hk h _ rfl)⟩
theorem reg_done (h0 : (readyT (rtab .any ops).2 (dn o n n).toList == []) = true) (h : Q .normal a w) : wpAnyLast P .any ops Q S [] fuel (dn o n n) a w :=
  done_ (done_of rfl h0) h
end
end Go.Proofs.YtinoabkfekomcaaW.PrintLast
