/- ReplyFaults: any exception, and which codes there are; it is one of its function alone. -/
import Derived.Test.YtinoabkfekomcaaReplyFunReplyFaults
import Derived.Test.YtinoabkfekomcaaPReplyFaultsx12
namespace Go.Proofs.Ytinoabkfekomcaa.RepReplyFaults
 open Go.RowKit Go.Proofs.Ytinoabkfekomcaa.PReplyFaults Go.Proofs.YtinoabkfekomcaaW.PrintWords Go.Proofs.YtinoabkfekomcaaW.PrintLast Go.Proofs.Ytinoabkfekomcaa.Base Go.Proofs.Ytinoabkfekomcaa.Coil Go.Proofs.Ytinoabkfekomcaa.CoilReplyFaults Go.Proofs.Ytinoabkfekomcaa.RepReplyFaults

theorem awake_true (k : Nat) (hk : 30 ≤ k) : gatewardenlaw07_awake.f k = some true := by
  refine at_rounds gatewardenlaw07_awake.mono hk ?_
  decide +kernel
def codeP (a : Int) : Bool := (decide (1 ≤ a) && decide (a ≤ 6)) || (a == 8 || (a == 10 || a == 11))
theorem code_eq (a : Int) : reply_Code.f a = some (codeP a) := by
  unfold reply_Code.f codeP
  by_cases h1 : a = 1
  · subst h1; rfl
  by_cases h2 : a = 2
  · subst h2; rfl
  by_cases h3 : a = 3
  · subst h3; rfl
  by_cases h4 : a = 4
  · subst h4; rfl
  by_cases h5 : a = 5
  · subst h5; rfl
  by_cases h6 : a = 6
  · subst h6; rfl
  by_cases h8 : a = 8
  · subst h8; rfl
  by_cases h10 : a = 10
  · subst h10; rfl
  by_cases h11 : a = 11
  · subst h11; rfl
  rw [if_neg h1, if_neg h2, if_neg h3, if_neg h4, if_neg h5, if_neg h6, if_neg h8, if_neg h10, if_neg h11]
  simp [h8, h10, h11]
  omega
theorem refCode_eq (a : Int) : gatewardenref07_Code.f a = some (codeP a) := by
  unfold gatewardenref07_Code.f codeP
  by_cases h1 : 1 ≤ a
  · rw [if_pos h1, decide_eq_true h1]
    by_cases h2 : a ≤ 6
    · rw [if_pos h2, decide_eq_true h2]; rfl
    · rw [if_neg h2, decide_eq_false h2]
      by_cases h8 : a = 8
      · subst h8; rfl
      by_cases h10 : a = 10
      · subst h10; rfl
      rw [if_neg h8, if_neg h10, beq_eq_false_iff_ne.2 h8, beq_eq_false_iff_ne.2 h10]; rfl
  · rw [if_neg h1, decide_eq_false h1]
    by_cases h8 : a = 8
    · omega
    by_cases h10 : a = 10
    · omega
    rw [if_neg h8, if_neg h10, beq_eq_false_iff_ne.2 h8, beq_eq_false_iff_ne.2 h10]; rfl
theorem code_bound {a : Int} (h : codeP a = true) : 1 ≤ a ∧ a ≤ 11 := by
  unfold codeP at h
  simp at h
  omega
def faultP (a0 a1 : Int) : ByteArray × Bool := if 1 ≤ a0 ∧ a0 ≤ 127 ∧ codeP a1 = true then (strOfNums [a0 + 128, a1], true) else ((⟨#[]⟩ : ByteArray), false)
theorem fault_eq (a0 a1 : Int) : reply_Fault.f a0 a1 = some (faultP a0 a1) := by
  unfold reply_Fault.f faultP
  by_cases h0 : a0 < 1
  · rw [if_pos h0, if_neg (by omega)]
  rw [if_neg h0]
  by_cases h1 : a0 > 127
  · rw [if_pos h1, if_neg (by omega)]
  rw [if_neg h1, code_eq, Option.bind_some]
  by_cases h2 : codeP a1 = true
  · have := code_bound h2
    rw [if_pos h2, if_pos ⟨by omega, by omega, h2⟩, Int.emod_eq_of_lt (by omega) (by omega), Int.emod_eq_of_lt (by omega) (by omega)]
    have e := or_top a0 7 (by decide) (by omega) (by simp; omega)
    rw [show (2 : Int) ^ 7 = 128 by decide] at e
    rw [e]
  · rw [if_neg h2, if_neg (fun h => h2 h.2.2)]
theorem refFault_eq (a0 a1 : Int) : gatewardenref07_Fault.f a0 a1 = some (faultP a0 a1) := by
  unfold gatewardenref07_Fault.f faultP
  by_cases h0 : a0 < 1
  · rw [if_pos h0, if_neg (by omega)]
  rw [if_neg h0]
  by_cases h1 : a0 > 127
  · rw [if_pos h1, if_neg (by omega)]
  rw [if_neg h1, refCode_eq, Option.bind_some]
  by_cases h2 : codeP a1 = true
  · have := code_bound h2
    rw [if_pos h2, if_pos ⟨by omega, by omega, h2⟩, w64 (by omega) (by omega), Int.emod_eq_of_lt (by omega) (by omega), Int.emod_eq_of_lt (by omega) (by omega)]
  · rw [if_neg h2, if_neg (fun h => h2 h.2.2)]
theorem known_eq (a : Int) : gatewardenref06_Known.f a = some (ofP a).2.2.2.2 := by
  unfold gatewardenref06_Known.f
  by_cases h1 : 1 ≤ a ∧ a ≤ 6
  · have h : a = 1 ∨ a = 2 ∨ a = 3 ∨ a = 4 ∨ a = 5 ∨ a = 6 := by omega
    rcases h with rfl | rfl | rfl | rfl | rfl | rfl <;> rfl
  by_cases h15 : a = 15
  · subst h15; rfl
  by_cases h16 : a = 16
  · subst h16; rfl
  by_cases h22 : a = 22
  · subst h22; rfl
  by_cases h23 : a = 23
  · subst h23; rfl
  have e : (ofP a).2.2.2.2 = false := by
    unfold ofP
    rw [if_neg (by omega), if_neg (by omega), if_neg (by omega), if_neg (by omega), if_neg h15, if_neg h16, if_neg h22, if_neg h23]
  rw [e]
  split
  · rw [if_neg (by omega), beq_eq_false_iff_ne.2 h23]
  · rw [beq_eq_false_iff_ne.2 h23]
theorem ofP_known {a : Int} (h : (ofP a).2.2.2.2 = true) : a = 1 ∨ a = 2 ∨ a = 3 ∨ a = 4 ∨ a = 5 ∨ a = 6 ∨ a = 15 ∨ a = 16 ∨ a = 22 ∨ a = 23 := by
  unfold ofP at h
  split at h; · omega
  split at h; · omega
  split at h; · omega
  split at h; · omega
  split at h; · omega
  split at h; · omega
  split at h; · omega
  split at h; · omega
  cases h
theorem reads_eq {a : Int} (h : (ofP a).2.2.2.2 = true) (k : Nat) (hk : 1 ≤ k) : gatewardenref06_reads.f k a = some (ofP a).1 := by
  obtain ⟨k, rfl⟩ : ∃ m, k = m + 1 := ⟨k - 1, by omega⟩
  rcases ofP_known h with rfl | rfl | rfl | rfl | rfl | rfl | rfl | rfl | rfl | rfl <;> rfl
theorem writes_eq {a : Int} (h : (ofP a).2.2.2.2 = true) : gatewardenref06_writes.f a = some ((ofP a).2.1, (ofP a).2.2.1, (if (ofP a).2.1 = 0 then 0 else (ofP a).2.2.2.1)) := by
  rcases ofP_known h with rfl | rfl | rfl | rfl | rfl | rfl | rfl | rfl | rfl | rfl <;> rfl
theorem ofP_high {a : Int} (h : (ofP a).2.2.2.2 = true) : (if (ofP a).2.1 = 0 then 0 else (ofP a).2.2.2.1) = (ofP a).2.2.2.1 ∧ 0 ≤ (ofP a).1 ∧ 0 ≤ (ofP a).2.1 := by
  rcases ofP_known h with rfl | rfl | rfl | rfl | rfl | rfl | rfl | rfl | rfl | rfl <;> decide
theorem sel (r a b : Int) (X : Bool → Option Bool) (hr : 0 ≤ r) :
    (if a < 0 then X true else if a > 65535 then X true else if b < 0 then X true else if b > r then X true else if r > 0 then (if b = 0 then X true else if r = 0 then X (a != 0) else X false) else if r = 0 then X (a != 0) else X false) = X (!partP a b r) := by
  unfold partP
  by_cases h0 : a < 0
  · rw [if_pos h0]; split
    · rw [show (a == 0) = false by simp; omega]; rfl
    · rw [decide_eq_false (by omega)]; rfl
  rw [if_neg h0]
  by_cases h1 : a > 65535
  · rw [if_pos h1]; split
    · rw [show (a == 0) = false by simp; omega]; rfl
    · rw [decide_eq_false (p := a ≤ 65535) (by omega), Bool.and_false]; rfl
  rw [if_neg h1]
  by_cases h2 : b < 0
  · rw [if_pos h2]; split
    · rw [show (b == 0) = false by simp; omega, Bool.and_false]; rfl
    · rw [decide_eq_false (p := 1 ≤ b) (by omega), Bool.and_false]; rfl
  rw [if_neg h2]
  by_cases h3 : b > r
  · rw [if_pos h3]; split
    · rw [show (b == 0) = false by simp; omega, Bool.and_false]; rfl
    · rw [decide_eq_false (p := b ≤ r) (by omega), Bool.and_false]; rfl
  rw [if_neg h3]
  by_cases h4 : r = 0
  · rw [if_neg (by omega), if_pos h4, if_pos h4, show b = 0 by omega]
    by_cases h5 : a = 0
    · subst h5; rfl
    · show X (!(a == 0)) = _
      rw [beq_eq_false_iff_ne.2 h5]; rfl
  · rw [if_pos (by omega), if_neg h4, if_neg h4, decide_eq_true (p := 0 ≤ a) (by omega), decide_eq_true (p := a ≤ 65535) (by omega), decide_eq_true (p := b ≤ r) (by omega)]
    by_cases h5 : b = 0
    · rw [if_pos h5, decide_eq_false (by omega)]; rfl
    · rw [if_neg h5, decide_eq_true (by omega)]; rfl
theorem all_loop (l : List Int) (hi : Int) (hl : l.length ≤ 1099511627776) (d : Nat) : ∀ (k i : Nat), i ≤ l.length → l.length - i = d → d < k →
    gatewardenref06_all.l0 k l hi (i : Int) = some (!(l.drop i).any fun v => decide (v < 0) || decide (hi < v)) := by
  induction d with
  | zero =>
    intro k i h hd hk
    obtain ⟨k, rfl⟩ : ∃ m, k = m + 1 := ⟨k - 1, by omega⟩
    obtain rfl : i = l.length := by omega
    simp only [gatewardenref06_all.l0]
    rw [if_neg (by omega), List.drop_length]
    rfl
  | succ d ih =>
    intro k i h hd hk
    obtain ⟨k, rfl⟩ : ∃ m, k = m + 1 := ⟨k - 1, by omega⟩
    have hlt : i < l.length := by omega
    have hrd : rd l (i : Int) = l[i] := by rw [rd_nat, List.getD_eq_getElem?_getD, List.getElem?_eq_getElem hlt]; rfl
    have hwr : wrap64 ((i : Int) + 1) = ((i + 1 : Nat) : Int) := by rw [w64 (by omega) (by omega)]; omega
    simp only [gatewardenref06_all.l0]
    rw [if_pos (by omega), if_pos (by omega), hrd, List.drop_eq_getElem_cons hlt, List.any_cons]
    by_cases h0 : l[i] < 0
    · rw [if_pos h0, decide_eq_true h0]; rfl
    rw [if_neg h0, decide_eq_false h0]
    by_cases h1 : l[i] > hi
    · rw [if_pos h1, decide_eq_true (p := hi < l[i]) h1]; rfl
    rw [if_neg h1, decide_eq_false (p := hi < l[i]) h1, hwr]
    exact ih k (i + 1) (by omega) (by omega) (by omega)
theorem all_eq (l : List Int) (hi : Int) (hl : l.length ≤ 1099511627776) (k : Nat) (hk : l.length < k) : gatewardenref06_all.f k l hi = some (!l.any fun v => decide (v < 0) || decide (hi < v)) := all_loop l hi hl l.length k 0 (by omega) (by omega) hk
theorem refFormed_eq (a0 a1 a2 a3 a4 : Int) (l : List Int) (hl : l.length ≤ 1099511627776) (k : Nat) (hk : l.length + 3 ≤ k) : gatewardenref06_Formed.f k a0 a1 a2 a3 a4 l = some (formedP a0 a1 a2 a3 a4 l) := by
  obtain ⟨k, rfl⟩ : ∃ m, k = m + 2 := ⟨k - 2, by omega⟩
  unfold gatewardenref06_Formed.f formedP
  rw [known_eq, Option.bind_some]
  cases h : (ofP a0).2.2.2.2
  · rfl
  obtain ⟨hh, hr, hw⟩ := ofP_high h
  rw [if_pos rfl, reads_eq h _ (by omega), Option.bind_some]
  refine (sel (ofP a0).1 a1 a2 (fun b => gatewardenref06_Formed.j0 (k + 2) b a0 a1 a2 a3 a4 l) hr).trans ?_
  simp only [gatewardenref06_Formed.j0]
  cases partP a1 a2 (ofP a0).1
  · rfl
  rw [if_neg (by decide), writes_eq h, hh, Option.bind_some]
  refine (sel (ofP a0).2.1 a3 a4 (fun b => gatewardenref06_Formed.j1 (k + 1) (ofP a0).2.2.1 (ofP a0).2.2.2.1 b a0 a1 a2 a3 a4 l) hw).trans ?_
  simp only [gatewardenref06_Formed.j1]
  cases partP a3 a4 (ofP a0).2.1
  · rfl
  rw [if_neg (by decide), all_eq _ _ hl _ (by omega), Option.bind_some]
  by_cases h5 : (ofP a0).2.2.1 = 0
  · rw [if_pos h5, if_pos h5]
    by_cases h6 : (l.length : Int) = a4
    · rw [if_pos h6, decide_eq_true h6]; rfl
    · rw [if_neg h6, decide_eq_false h6]; rfl
  · rw [if_neg h5, if_neg h5]
    by_cases h6 : (l.length : Int) = (ofP a0).2.2.1
    · rw [if_pos h6, decide_eq_true h6]; rfl
    · rw [if_neg h6, decide_eq_false h6]; rfl
theorem refRight_eq (a0 a1 a2 a3 a4 : Int) (l : List Int) (hl : l.length ≤ 1099511627776) (k : Nat) (hk : l.length + 3 ≤ k) : gatewardenref06_Right.f k a0 a1 a2 a3 a4 l = some (rightP a0 a1 a2 a3 a4 l) := by
  unfold gatewardenref06_Right.f rightP
  rw [refFormed_eq _ _ _ _ _ _ hl _ hk, Option.bind_some]
  cases formedP a0 a1 a2 a3 a4 l
  · rfl
  · rw [if_pos rfl]
    by_cases h : wrap64 (a1 + a2) ≤ 65536
    · rw [if_pos h, decide_eq_true h]; rfl
    · rw [if_neg h, decide_eq_false h]; rfl
theorem bt_second (a b : Int) (h0 : 0 ≤ b) (h1 : b ≤ 255) : bt (strOfNums [a, b]) 1 = b := by
  have e : bytesOf (strOfNums [a, b]) = [((UInt8.ofNat a.toNat).toNat : Int), b] := by
    simp [bytesOf, strOfNums]
    omega
  rw [← rd_bytesOf, e]
  rfl
theorem echoL_size (a0 a3 a4 : Int) (l : List Int) : 5 ≤ (echoL a0 a3 a4 l).length := by
  unfold echoL
  split
  · simp [be]
  split
  · simp [be]
  split
  · simp [be]
  · simp [be]
theorem kind_eq {a0 a1 a2 a3 a4 : Int} {l : List Int} (hr : rightP a0 a1 a2 a3 a4 l = true) {fc code : Int} (h0 : 1 ≤ fc) (h1 : fc ≤ 127) (hc : codeP code = true) (k : Nat) (hk : 4000 ≤ k) :
    reply_Kind.f k a0 a1 a2 a3 a4 l (strOfNums [fc + 128, code]) = some (if a0 = fc then 2 else 0) := by
  obtain ⟨k, rfl⟩ : ∃ m, k = m + 1 := ⟨k - 1, by omega⟩
  have ht := rt_of hr
  have hb := rt_of_len ht
  have hcb := code_bound hc
  have hsz : (strOfNums [fc + 128, code]).size = 2 := by rw [strOfNums_size]; rfl
  have hb0 : bt (strOfNums [fc + 128, code]) 0 = fc + 128 := bt_head' _ _ (by omega) (by omega)
  have hb1 : bt (strOfNums [fc + 128, code]) 1 = code := bt_second _ _ (by omega) (by omega)
  have hd : reply_Data.f (k + 1) a0 a1 a2 a3 a4 l (strOfNums [fc + 128, code]) = some (([] : List Int), false) := by
    unfold reply_Data.f
    rw [right_eq _ _ _ _ _ _ _ (by omega), hr, Option.bind_some, if_pos rfl, echo_eq ht hr _ hk, Option.bind_some]
    by_cases he : echoB a0 = true
    · rw [if_pos he, if_pos rfl]
      congr 2
      rw [Bool.eq_false_iff]
      intro e
      have e := congrArg List.length (eq_of_beq e)
      rw [ByteArray.toList_eq, ByteArray.toList_eq, data_length, data_length, strOfNums_size, hsz] at e
      have := echoL_size a0 a3 a4 l
      omega
    · simp only [reply_Data.j0]
      rw [if_neg he, if_neg (by decide), if_neg (by omega), if_pos (by omega), hb0, w64 (by omega) (by omega), if_neg (by omega), if_pos True.intro]
  unfold reply_Kind.f
  rw [hd, Option.bind_some, if_neg (by decide), right_eq _ _ _ _ _ _ _ (by omega), hr, Option.bind_some, if_pos rfl, if_pos (by rw [hsz]; rfl), if_pos (by omega), hb1, w64 (by omega) (by omega), code_eq, hc, Option.bind_some, if_pos rfl, if_pos (by omega), hb0, w64 (by omega) (by omega)]
  have eo : Go.bits .or .i64 a0 128 = a0 + 128 := by
    rcases ht with ⟨h0, _⟩ | ⟨h0, _⟩ | ⟨rfl, _⟩ | ⟨rfl, _⟩ | ⟨rfl, _⟩ | ⟨rfl, _⟩ | ⟨rfl, _⟩ | ⟨rfl, _⟩
    · rcases h0 with rfl | rfl <;> decide
    · rcases h0 with rfl | rfl <;> decide
    all_goals decide
  rw [eo]
  by_cases h : a0 = fc
  · rw [if_pos (by omega), if_pos h]
  · rw [if_neg (by omega), if_neg h]
end Go.Proofs.Ytinoabkfekomcaa.RepReplyFaults
namespace Go.Proofs.Ytinoabkfekomcaa.Pure
open Go.RowKit Go.Proofs.Ytinoabkfekomcaa.PReplyFaults Go.Proofs.YtinoabkfekomcaaW.PrintWords Go.Proofs.YtinoabkfekomcaaW.PrintLast Go.Proofs.Ytinoabkfekomcaa.Base Go.Proofs.Ytinoabkfekomcaa.Coil Go.Proofs.Ytinoabkfekomcaa.CoilReplyFaults Go.Proofs.Ytinoabkfekomcaa.RepReplyFaults

theorem ReplyFaults : gatewardenlaw07_ReplyFaults.Pure := by
  intro fc code a0 a1 a2 a3 a4 l _ _ _
  refine ⟨5000, ?_⟩
  unfold gatewardenlaw07_ReplyFaults.f
  by_cases h1 : (l.length : Int) > 3000
  · rw [if_pos h1, awake_true _ (by decide)]; rfl
  rw [if_neg h1, fault_eq, Option.bind_some, refFault_eq, Option.bind_some, if_pos rfl, if_neg (by simp), code_eq, Option.bind_some, refCode_eq, Option.bind_some]
  simp only [gatewardenlaw07_ReplyFaults.j0]
  rw [if_neg (by simp), awake_true _ (by decide), Option.bind_some, if_pos rfl]
  by_cases hp : 1 ≤ fc ∧ fc ≤ 127 ∧ codeP code = true
  · have e : faultP fc code = (strOfNums [fc + 128, code], true) := if_pos hp
    rw [e, if_pos rfl, refRight_eq _ _ _ _ _ _ (by omega) _ (by omega), Option.bind_some]
    by_cases hr : rightP a0 a1 a2 a3 a4 l = true
    · rw [if_pos hr, kind_eq hr hp.1 hp.2.1 hp.2.2 _ (by decide), Option.bind_some]
      by_cases h : a0 = fc
      · rw [if_pos h, h]; simp
      · rw [if_neg h]; simp [h]
    · rw [if_neg hr]
  · have e : faultP fc code = ((⟨#[]⟩ : ByteArray), false) := if_neg hp
    rw [e, if_neg (by decide)]
end Go.Proofs.Ytinoabkfekomcaa.Pure
