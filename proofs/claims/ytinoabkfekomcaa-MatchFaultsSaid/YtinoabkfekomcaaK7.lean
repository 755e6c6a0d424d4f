/- Texts of this claim, put together (wip/pack.py): AskFunAskSizes, CoilGetAskSizes. -/
import Derived.Test.YtinoabkfekomcaaK5
import Derived.Test.YtinoabkfekomcaaK6
namespace Go.Proofs.Ytinoabkfekomcaa.RepAskSizes
open Go.RowKit Go.Proofs.Ytinoabkfekomcaa.PAskSizes Go.Proofs.YtinoabkfekomcaaW.PrintWords Go.Proofs.YtinoabkfekomcaaW.PrintLast Go.Proofs.Ytinoabkfekomcaa.Base Go.Proofs.Ytinoabkfekomcaa.Coil Go.Proofs.Ytinoabkfekomcaa.CoilAskSizes

theorem strOfNums_append (a b : List Int) : strOfNums (a ++ b) = strOfNums a ++ strOfNums b := by
  apply ByteArray.ext
  simp [strOfNums]
theorem bytesOf_strOfNums {xs : List Int} (h : ∀ x ∈ xs, 0 ≤ x ∧ x ≤ 255) : bytesOf (strOfNums xs) = xs := by
  unfold bytesOf
  rw [strOfNums_data, List.map_map]
  conv => rhs; rw [← List.map_id xs]
  apply List.map_congr_left
  intro x hx
  have := h x hx
  simp
  omega
theorem extract_strOfNums (xs : List Int) (n : Nat) : (strOfNums xs).extract 0 n = strOfNums (xs.take n) := by
  apply ByteArray.ext
  simp [strOfNums, ByteArray.data_extract, List.map_take]

/-- Which function has which numbers: how many it reads and writes at most, how many values, how great, and whether it is known. -/
def ofP (a : Int) : Int × Int × Int × Int × Bool :=
  if a = 1 ∨ a = 2 then (2000, 0, 0, 0, true) else if a = 3 ∨ a = 4 then (125, 0, 0, 0, true) else if a = 5 then (0, 1, 0, 1, true) else if a = 6 then (0, 1, 0, 65535, true)
  else if a = 15 then (0, 1968, 0, 1, true) else if a = 16 then (0, 123, 0, 65535, true) else if a = 22 then (0, 1, 2, 65535, true) else if a = 23 then (125, 121, 0, 65535, true) else (0, 0, 0, 0, false)
theorem of_eq (a : Int) (k : Nat) (hk : 2 ≤ k) : ask_of.f k a = some (ofP a) := by
  obtain ⟨k, rfl⟩ : ∃ m, k = m + 2 := ⟨k - 2, by omega⟩
  unfold ofP ask_of.f
  simp only [ask_of.j0, ask_of.j1]
  by_cases h1 : a = 1
  · subst h1; simp
  by_cases h2 : a = 2
  · subst h2; simp
  by_cases h3 : a = 3
  · subst h3; simp
  by_cases h4 : a = 4
  · subst h4; simp
  simp [h1, h2, h3, h4]
  repeat (split; · simp_all)
  simp_all
def partP (a b m : Int) : Bool := if m = 0 then (a == 0 && b == 0) else (decide (0 ≤ a) && decide (a ≤ 65535) && decide (1 ≤ b) && decide (b ≤ m))
theorem part_eq (a b m : Int) : ask_part.f a b m = some (partP a b m) := by
  unfold ask_part.f partP
  by_cases hm : m = 0
  · rw [if_pos hm, if_pos hm]
    by_cases h : a = 0 <;> simp [h]
  · rw [if_neg hm, if_neg hm]
    by_cases h1 : a ≥ 0 <;> by_cases h2 : a ≤ 65535 <;> by_cases h3 : b ≥ 1 <;> simp [h1, h2, h3]
def formedP (a0 a1 a2 a3 a4 : Int) (l : List Int) : Bool :=
  (ofP a0).2.2.2.2 && (partP a1 a2 (ofP a0).1 && (partP a3 a4 (ofP a0).2.1 && (decide ((l.length : Int) = (if (ofP a0).2.2.1 = 0 then a4 else (ofP a0).2.2.1)) && !l.any fun v => decide (v < 0) || decide ((ofP a0).2.2.2.1 < v))))
theorem formed_eq (a0 a1 a2 a3 a4 : Int) (l : List Int) (k : Nat) (hk : 2 ≤ k) : ask_formed.f k a0 a1 a2 a3 a4 l = some (formedP a0 a1 a2 a3 a4 l) := by
  unfold ask_formed.f formedP
  rw [of_eq _ _ hk, Option.bind_some]
  cases (ofP a0).2.2.2.2
  · rfl
  · rw [if_pos rfl, part_eq, Option.bind_some]
    cases partP a1 a2 (ofP a0).1
    · rfl
    · rw [if_pos rfl, part_eq, Option.bind_some]
      cases partP a3 a4 (ofP a0).2.1
      · rfl
      · rw [if_pos rfl]
        by_cases h : (l.length : Int) = (if (ofP a0).2.2.1 = 0 then a4 else (ofP a0).2.2.1)
        · rw [if_pos h, decide_eq_true h]; rfl
        · rw [if_neg h, decide_eq_false h]; rfl
def rightP (a0 a1 a2 a3 a4 : Int) (l : List Int) : Bool := formedP a0 a1 a2 a3 a4 l && (decide (wrap64 (a1 + a2) ≤ 65536) && decide (wrap64 (a3 + a4) ≤ 65536))
theorem right_eq (a0 a1 a2 a3 a4 : Int) (l : List Int) (k : Nat) (hk : 2 ≤ k) : ask_Right.f k a0 a1 a2 a3 a4 l = some (rightP a0 a1 a2 a3 a4 l) := by
  unfold ask_Right.f rightP
  rw [formed_eq _ _ _ _ _ _ _ hk, Option.bind_some]
  cases formedP a0 a1 a2 a3 a4 l
  · rfl
  · rw [if_pos rfl]
    unfold ask_ends.f
    by_cases h : wrap64 (a1 + a2) ≤ 65536
    · rw [if_pos h, decide_eq_true h]; rfl
    · rw [if_neg h, decide_eq_false h]; rfl
def Rg (m : Int) (l : List Int) : Prop := ∀ v ∈ l, 0 ≤ v ∧ v ≤ m
/-- The right requests, one line for each kind. -/
def Rt (a0 a1 a2 a3 a4 : Int) (l : List Int) : Prop :=
  ((a0 = 1 ∨ a0 = 2) ∧ (0 ≤ a1 ∧ a1 ≤ 65535 ∧ 1 ≤ a2 ∧ a2 ≤ 2000) ∧ (a3 = 0 ∧ a4 = 0) ∧ (l.length : Int) = a4 ∧ Rg 0 l) ∨
  ((a0 = 3 ∨ a0 = 4) ∧ (0 ≤ a1 ∧ a1 ≤ 65535 ∧ 1 ≤ a2 ∧ a2 ≤ 125) ∧ (a3 = 0 ∧ a4 = 0) ∧ (l.length : Int) = a4 ∧ Rg 0 l) ∨
  (a0 = 5 ∧ (a1 = 0 ∧ a2 = 0) ∧ (0 ≤ a3 ∧ a3 ≤ 65535 ∧ 1 ≤ a4 ∧ a4 ≤ 1) ∧ (l.length : Int) = a4 ∧ Rg 1 l) ∨
  (a0 = 6 ∧ (a1 = 0 ∧ a2 = 0) ∧ (0 ≤ a3 ∧ a3 ≤ 65535 ∧ 1 ≤ a4 ∧ a4 ≤ 1) ∧ (l.length : Int) = a4 ∧ Rg 65535 l) ∨
  (a0 = 15 ∧ (a1 = 0 ∧ a2 = 0) ∧ (0 ≤ a3 ∧ a3 ≤ 65535 ∧ 1 ≤ a4 ∧ a4 ≤ 1968) ∧ (l.length : Int) = a4 ∧ Rg 1 l) ∨
  (a0 = 16 ∧ (a1 = 0 ∧ a2 = 0) ∧ (0 ≤ a3 ∧ a3 ≤ 65535 ∧ 1 ≤ a4 ∧ a4 ≤ 123) ∧ (l.length : Int) = a4 ∧ Rg 65535 l) ∨
  (a0 = 22 ∧ (a1 = 0 ∧ a2 = 0) ∧ (0 ≤ a3 ∧ a3 ≤ 65535 ∧ 1 ≤ a4 ∧ a4 ≤ 1) ∧ (l.length : Int) = 2 ∧ Rg 65535 l) ∨
  (a0 = 23 ∧ (0 ≤ a1 ∧ a1 ≤ 65535 ∧ 1 ≤ a2 ∧ a2 ≤ 125) ∧ (0 ≤ a3 ∧ a3 ≤ 65535 ∧ 1 ≤ a4 ∧ a4 ≤ 121) ∧ (l.length : Int) = a4 ∧ Rg 65535 l)
theorem rg_of {m : Int} {l : List Int} (h : (!l.any fun v => decide (v < 0) || decide (m < v)) = true) : Rg m l := by
  intro v hv
  rw [Bool.not_eq_true', List.any_eq_false] at h
  have := h v hv
  simp at this
  omega
theorem rt_of {a0 a1 a2 a3 a4 : Int} {l : List Int} (h : rightP a0 a1 a2 a3 a4 l = true) : Rt a0 a1 a2 a3 a4 l := by
  unfold rightP formedP at h
  simp only [Bool.and_eq_true, decide_eq_true_eq] at h
  obtain ⟨⟨hok, hp, hq, hl, hr⟩, -, -⟩ := h
  have hr := rg_of hr
  unfold ofP at hok hp hq hl hr
  unfold Rt
  split at hok
  · rename_i h0
    simp only [if_pos h0, partP] at hp hq hl hr
    simp at hp hq hl
    exact .inl ⟨h0, ⟨hp.1.1.1, hp.1.1.2, hp.1.2, hp.2⟩, hq, hl, hr⟩
  rename_i h0
  simp only [if_neg h0] at hp hq hl hr
  split at hok
  · rename_i h1
    simp only [if_pos h1, partP] at hp hq hl hr
    simp at hp hq hl
    exact .inr (.inl ⟨h1, ⟨hp.1.1.1, hp.1.1.2, hp.1.2, hp.2⟩, hq, hl, hr⟩)
  rename_i h1
  simp only [if_neg h1] at hp hq hl hr
  split at hok
  · rename_i h2
    simp only [if_pos h2, partP] at hp hq hl hr
    simp at hp hq hl
    exact .inr (.inr (.inl ⟨h2, hp, ⟨hq.1.1.1, hq.1.1.2, hq.1.2, hq.2⟩, hl, hr⟩))
  rename_i h2
  simp only [if_neg h2] at hp hq hl hr
  split at hok
  · rename_i h3
    simp only [if_pos h3, partP] at hp hq hl hr
    simp at hp hq hl
    exact .inr (.inr (.inr (.inl ⟨h3, hp, ⟨hq.1.1.1, hq.1.1.2, hq.1.2, hq.2⟩, hl, hr⟩)))
  rename_i h3
  simp only [if_neg h3] at hp hq hl hr
  split at hok
  · rename_i h4
    simp only [if_pos h4, partP] at hp hq hl hr
    simp at hp hq hl
    exact .inr (.inr (.inr (.inr (.inl ⟨h4, hp, ⟨hq.1.1.1, hq.1.1.2, hq.1.2, hq.2⟩, hl, hr⟩))))
  rename_i h4
  simp only [if_neg h4] at hp hq hl hr
  split at hok
  · rename_i h5
    simp only [if_pos h5, partP] at hp hq hl hr
    simp at hp hq hl
    exact .inr (.inr (.inr (.inr (.inr (.inl ⟨h5, hp, ⟨hq.1.1.1, hq.1.1.2, hq.1.2, hq.2⟩, hl, hr⟩)))))
  rename_i h5
  simp only [if_neg h5] at hp hq hl hr
  split at hok
  · rename_i h6
    simp only [if_pos h6, partP] at hp hq hl hr
    simp at hp hq hl
    exact .inr (.inr (.inr (.inr (.inr (.inr (.inl ⟨h6, hp, ⟨hq.1.1.1, hq.1.1.2, hq.1.2, hq.2⟩, by omega, hr⟩))))))
  rename_i h6
  simp only [if_neg h6] at hp hq hl hr
  split at hok
  · rename_i h7
    simp only [if_pos h7, partP] at hp hq hl hr
    simp at hp hq hl
    exact .inr (.inr (.inr (.inr (.inr (.inr (.inr ⟨h7, ⟨hp.1.1.1, hp.1.1.2, hp.1.2, hp.2⟩, ⟨hq.1.1.1, hq.1.1.2, hq.1.2, hq.2⟩, hl, hr⟩))))))
  · cases hok

/-- Numbers as two bytes each. -/
def be : List Int → List Int
  | [] => []
  | v :: t => (v / 256) % 256 :: v % 256 :: be t
theorem be_length (l : List Int) : (be l).length = 2 * l.length := by
  induction l with
  | nil => rfl
  | cons v t ih => simp only [be, List.length_cons, ih]; omega
theorem be_bound (l : List Int) : ∀ x ∈ be l, 0 ≤ x ∧ x ≤ 255 := by
  induction l with
  | nil => intro x hx; cases hx
  | cons v t ih =>
    intro x hx
    simp only [be, List.mem_cons] at hx
    rcases hx with rfl | rfl | hx
    · omega
    · omega
    · exact ih x hx
theorem be_append (a b : List Int) : be (a ++ b) = be a ++ be b := by
  induction a with
  | nil => rfl
  | cons v t ih => simp only [be, List.cons_append, ih]
def Wf (l : List Int) : Prop := ∀ v ∈ l, (Lit.int .i64 v).wf = true
theorem put1_yes {a : Int} (h0 : 0 ≤ a) (h1 : a ≤ 65535) : twin_Put.f a = some (strOfNums [(a / 256) % 256, a % 256], true) := by
  unfold twin_Put.f
  rw [u64w h0 (by omega), if_neg (by omega)]
theorem put1_no {a : Int} (hw : (Lit.int .i64 a).wf = true) (h : ¬ (0 ≤ a ∧ a ≤ 65535)) : twin_Put.f a = some ((⟨#[]⟩ : ByteArray), false) := by
  have := wf64 hw
  unfold twin_Put.f
  rw [if_pos]
  by_cases h0 : 0 ≤ a
  · rw [u64w h0 (by omega)]; omega
  · have e : IntKind.u64.wrap a = a + 18446744073709551616 := by
      simp [IntKind.wrap, IntKind.bits, IntKind.signed] <;> omega
    rw [e]; omega
def inB (l : List Int) : Bool := l.all fun v => decide (0 ≤ v) && decide (v ≤ 65535)
theorem inB_cons (a : Int) (t : List Int) : inB (a :: t) = ((decide (0 ≤ a) && decide (a ≤ 65535)) && inB t) := rfl
theorem inB_append (a b : List Int) : inB (a ++ b) = (inB a && inB b) := by simp [inB]
theorem inB_iff (l : List Int) : inB l = true ↔ Rg 65535 l := by simp [inB, Rg]
def putAll (l : List Int) : ByteArray × Bool := if inB l then (strOfNums (be l), true) else ((⟨#[]⟩ : ByteArray), false)
theorem putAll_loop (l : List Int) (hl : l.length ≤ 1099511627776) (hw : Wf l) (d : Nat) : ∀ (k i : Nat), i ≤ l.length → l.length - i = d → d < k → inB (l.take i) = true →
    twin_PutAll.l0 k (be (l.take i)) l (l.length : Int) (i : Int) = some (if inB (l.drop i) then (strOfNums (be l), true) else ((⟨#[]⟩ : ByteArray), false)) := by
  induction d with
  | zero =>
    intro k i hi hd hk _
    obtain ⟨k, rfl⟩ : ∃ m, k = m + 1 := ⟨k - 1, by omega⟩
    obtain rfl : i = l.length := by omega
    simp only [twin_PutAll.l0]
    rw [if_neg (by omega), List.take_length, List.drop_length]
    rfl
  | succ d ih =>
    intro k i hi hd hk hin
    obtain ⟨k, rfl⟩ : ∃ m, k = m + 1 := ⟨k - 1, by omega⟩
    have hlt : i < l.length := by omega
    have hrd : rd l (i : Int) = l[i] := by rw [rd_nat, List.getD_eq_getElem?_getD, List.getElem?_eq_getElem hlt]; rfl
    have hdrop : l.drop i = l[i] :: l.drop (i + 1) := List.drop_eq_getElem_cons hlt
    have htake : l.take (i + 1) = l.take i ++ [l[i]] := List.take_succ_eq_append_getElem hlt
    have hwr : wrap64 ((i : Int) + 1) = ((i + 1 : Nat) : Int) := by rw [w64 (by omega) (by omega)]; omega
    simp only [twin_PutAll.l0]
    rw [if_pos (by omega), if_pos (by omega), if_pos (by omega), hrd, hdrop]
    by_cases h : 0 ≤ l[i] ∧ l[i] ≤ 65535
    · have hb : ∀ x ∈ [(l[i] / 256) % 256, l[i] % 256], 0 ≤ x ∧ x ≤ 255 := by
        intro x hx; simp only [List.mem_cons, List.not_mem_nil, or_false] at hx; rcases hx with rfl | rfl <;> omega
      rw [put1_yes h.1 h.2, Option.bind_some, if_pos rfl, if_pos (by rw [be_length, strOfNums_size]; simp; omega), bytesOf_strOfNums hb, hwr]
      have e : be (l.take i) ++ [(l[i] / 256) % 256, l[i] % 256] = be (l.take (i + 1)) := by rw [htake, be_append]; rfl
      have hc : inB (l[i] :: l.drop (i + 1)) = inB (l.drop (i + 1)) := by rw [inB_cons, decide_eq_true h.1, decide_eq_true h.2]; rfl
      rw [e, hc]
      exact ih k (i + 1) (by omega) (by omega) (by omega) (by rw [htake, inB_append, hin, inB_cons, decide_eq_true h.1, decide_eq_true h.2]; rfl)
    · rw [put1_no (hw _ (List.getElem_mem hlt)) h, Option.bind_some, if_neg (by decide)]
      have hc : inB (l[i] :: l.drop (i + 1)) = false := by
        rw [Bool.eq_false_iff]; intro e
        exact h ((inB_iff _).1 e _ (List.mem_cons_self ..))
      rw [hc]; rfl
theorem putAll_eq (l : List Int) (hl : l.length ≤ 1099511627776) (hw : Wf l) (k : Nat) (hk : l.length < k) : twin_PutAll.f k l = some (putAll l) := by
  have h := putAll_loop l hl hw l.length k 0 (by omega) (by omega) hk rfl
  unfold twin_PutAll.f
  have e : wrap64 (2 * (l.length : Int)) = ((2 * l.length : Nat) : Int) := by rw [w64 (by omega) (by omega)]; omega
  rw [e, if_pos (by omega), if_pos (by rw [Int.toNat_natCast]; omega)]
  simpa [putAll, be] using h
theorem putAll_yes {l : List Int} (h : Rg 65535 l) : putAll l = (strOfNums (be l), true) := by unfold putAll; rw [if_pos ((inB_iff l).2 h)]
theorem putAll_no {l : List Int} (h : ¬ Rg 65535 l) : putAll l = ((⟨#[]⟩ : ByteArray), false) := by unfold putAll; rw [if_neg (fun e => h ((inB_iff l).1 e))]
theorem rg_wf {l : List Int} (h : Rg 65535 l) : Wf l := by
  intro v hv
  have := h v hv
  simp [Lit.wf, IntKind.min, IntKind.max, IntKind.signed, IntKind.bits]
  omega
theorem rg_le {m n : Int} {l : List Int} (h : Rg m l) (hm : m ≤ n) : Rg n l := fun v hv => ⟨(h v hv).1, Int.le_trans (h v hv).2 hm⟩

theorem two_eq (k : Nat) (b l : List Int) (next : List Int → Option (ByteArray × Bool)) (hk : l.length < k) (hb : b.length ≤ 1099511627776) (hl : l.length ≤ 1099511627776) (h : Rg 65535 l) : ask_Put.two k b l next = next (b ++ be l) := by
  unfold ask_Put.two
  rw [putAll_eq l hl (rg_wf h) k hk, Option.bind_some, putAll_yes h, if_pos (by rw [strOfNums_size, be_length]; omega), bytesOf_strOfNums (be_bound l)]
theorem bits_of_rg {l : List Int} (h : Rg 1 l) : Bits l := fun x hx => by have := h x hx; omega
theorem rd_rg {m : Int} {l : List Int} (h : Rg m l) (i : Nat) (hi : i < l.length) : 0 ≤ rd l (i : Int) ∧ rd l (i : Int) ≤ m := by
  have e : rd l (i : Int) = l[i] := by rw [rd_nat, List.getD_eq_getElem?_getD, List.getElem?_eq_getElem hi]; rfl
  rw [e]; exact h _ (List.getElem_mem hi)
theorem rg_two {m a b : Int} (ha : 0 ≤ a ∧ a ≤ m) (hb : 0 ≤ b ∧ b ≤ m) : Rg m [a, b] := by
  intro v hv; simp only [List.mem_cons, List.not_mem_nil, or_false] at hv; rcases hv with rfl | rfl <;> assumption
theorem bt_head (a : Int) (t : List Int) (h0 : 0 ≤ a) (h1 : a ≤ 255) (s : ByteArray) : bt (strOfNums (a :: t) ++ s) 0 = a := by
  have e : bytesOf (strOfNums (a :: t) ++ s) = a :: (bytesOf (strOfNums t) ++ bytesOf s) := by
    simp [bytesOf, strOfNums]
    omega
  rw [← rd_bytesOf, e]
  rfl
theorem bt_head' (a : Int) (t : List Int) (h0 : 0 ≤ a) (h1 : a ≤ 255) : bt (strOfNums (a :: t)) 0 = a := by
  have e := bt_head a t h0 h1 ⟨#[]⟩
  rwa [show strOfNums (a :: t) ++ (⟨#[]⟩ : ByteArray) = strOfNums (a :: t) from ByteArray.append_empty] at e
/-- A right request's bytes. -/
def putL (a0 a1 a2 a3 a4 : Int) (l : List Int) : List Int :=
  if a0 ≤ 4 then [a0] ++ be [a1, a2] else if a0 = 5 then [a0] ++ be [a3, rd l 0 * 65280] else if a0 = 6 then [a0] ++ be [a3, rd l 0]
  else if a0 = 15 then [a0] ++ be [a3, a4] ++ [(((l.length + 7) / 8 : Nat) : Int)] ++ pack l else if a0 = 16 then [a0] ++ be [a3, a4] ++ [2 * a4] ++ be l
  else if a0 = 22 then [a0] ++ be [a3, rd l 0, rd l 1] else [a0] ++ be [a1, a2, a3, a4] ++ [2 * a4] ++ be l
theorem put_right {a0 a1 a2 a3 a4 : Int} {l : List Int} (h : Rt a0 a1 a2 a3 a4 l) (hr : rightP a0 a1 a2 a3 a4 l = true) (k : Nat) (hk : 4000 ≤ k) :
    ask_Put.f k a0 a1 a2 a3 a4 l = some (strOfNums (putL a0 a1 a2 a3 a4 l), true) := by
  unfold ask_Put.f
  rw [right_eq _ _ _ _ _ _ _ (by omega), hr, Option.bind_some, if_pos rfl]
  unfold ask_Put.body
  rcases h with ⟨h0, h1, h2, hl, hg⟩ | ⟨h0, h1, h2, hl, hg⟩ | ⟨rfl, h1, h2, hl, hg⟩ | ⟨rfl, h1, h2, hl, hg⟩ | ⟨rfl, h1, h2, hl, hg⟩ | ⟨rfl, h1, h2, hl, hg⟩ | ⟨rfl, h1, h2, hl, hg⟩ | ⟨rfl, h1, h2, hl, hg⟩
  · rw [if_pos (by omega), two_eq _ _ _ _ (by simp; omega) (by simp) (by simp) (rg_two (by omega) (by omega))]
    rcases h0 with rfl | rfl <;> rfl
  · rw [if_pos (by omega), two_eq _ _ _ _ (by simp; omega) (by simp) (by simp) (rg_two (by omega) (by omega))]
    rcases h0 with rfl | rfl <;> rfl
  · have hv : 0 ≤ rd l 0 ∧ rd l 0 ≤ 1 := rd_rg hg 0 (by omega)
    rw [if_neg (by decide), if_pos rfl, if_pos (by omega), w64 (by omega) (by omega), two_eq _ _ _ _ (by simp; omega) (by simp) (by simp) (rg_two (by omega) (by omega))]
    rfl
  · have hv : 0 ≤ rd l 0 ∧ rd l 0 ≤ 65535 := rd_rg hg 0 (by omega)
    rw [if_neg (by decide), if_neg (by decide), if_pos rfl, if_pos (by omega), two_eq _ _ _ _ (by simp; omega) (by simp) (by simp) (rg_two (by omega) hv)]
    rfl
  · rw [if_neg (by decide), if_neg (by decide), if_neg (by decide), if_pos rfl, two_eq _ _ _ _ (by simp; omega) (by simp) (by simp) (rg_two (by omega) (by omega)), put_eq l (by omega) _ (by omega), Option.bind_some, put_yes (bits_of_rg hg),
      if_pos (by rw [strOfNums_size, pack_length]; simp [be_length]; omega), bytesOf_strOfNums (pack_bound (bits_of_rg hg)), strOfNums_size, pack_length, Int.emod_eq_of_lt (a := (((l.length + 7) / 8 : Nat) : Int)) (b := 256) (by omega) (by omega)]
    rfl
  · rw [if_neg (by decide), if_neg (by decide), if_neg (by decide), if_neg (by decide), if_pos rfl, two_eq _ _ _ _ (by simp; omega) (by simp) (by simp) (rg_two (by omega) (by omega)), if_pos (by simp [be_length]),
      two_eq _ _ _ _ (by omega) (by simp [be_length]) (by omega) hg, w64 (by omega) (by omega), Int.emod_eq_of_lt (a := 2 * a4) (by omega) (by omega)]
    rfl
  · have hv : 0 ≤ rd l 0 ∧ rd l 0 ≤ 65535 := rd_rg hg 0 (by omega)
    have hu : 0 ≤ rd l 1 ∧ rd l 1 ≤ 65535 := rd_rg hg 1 (by omega)
    rw [if_neg (by decide), if_neg (by decide), if_neg (by decide), if_neg (by decide), if_neg (by decide), if_pos rfl, if_pos (by omega), two_eq _ _ _ _ (by simp; omega) (by simp) (by simp) (by
      intro v hm; simp only [List.mem_cons, List.not_mem_nil, or_false] at hm; rcases hm with rfl | rfl | rfl
      · omega
      · exact hv
      · exact hu)]
    rfl
  · rw [if_neg (by decide), if_neg (by decide), if_neg (by decide), if_neg (by decide), if_neg (by decide), if_neg (by decide), if_pos rfl, two_eq _ _ _ _ (by simp; omega) (by simp) (by simp) (by
      intro v hm; simp only [List.mem_cons, List.not_mem_nil, or_false] at hm; rcases hm with rfl | rfl | rfl | rfl <;> omega), if_pos (by simp [be_length]),
      two_eq _ _ _ _ (by omega) (by simp [be_length]) (by omega) hg, w64 (by omega) (by omega), Int.emod_eq_of_lt (a := 2 * a4) (by omega) (by omega)]
    rfl
theorem put_wrong {a0 a1 a2 a3 a4 : Int} {l : List Int} (hr : rightP a0 a1 a2 a3 a4 l = false) (k : Nat) (hk : 2 ≤ k) : ask_Put.f k a0 a1 a2 a3 a4 l = some ((⟨#[]⟩ : ByteArray), false) := by
  unfold ask_Put.f
  rw [right_eq _ _ _ _ _ _ _ hk, hr, Option.bind_some, if_neg (by decide)]
end Go.Proofs.Ytinoabkfekomcaa.RepAskSizes
namespace Go.Proofs.Ytinoabkfekomcaa.CoilAskSizes
open Go.RowKit Go.Proofs.Ytinoabkfekomcaa.PAskSizes Go.Proofs.YtinoabkfekomcaaW.PrintWords Go.Proofs.YtinoabkfekomcaaW.PrintLast Go.Proofs.Ytinoabkfekomcaa.Base Go.Proofs.Ytinoabkfekomcaa.Coil

/-- The bits that are read so far, noughts behind. -/
def read (s : ByteArray) (n i : Nat) : List Int := bitsOf s i ++ List.replicate (n - i) 0
theorem read_length (s : ByteArray) (n i : Nat) (h : i ≤ n) : (read s n i).length = n := by simp [read, bitsOf_length]; omega
theorem read_step (s : ByteArray) (n i : Nat) (h : i < n) : (read s n i).set i (bitAt s i) = read s n (i + 1) := by
  unfold read
  have e : List.replicate (n - i) (0 : Int) = 0 :: List.replicate (n - (i + 1)) 0 := by
    rw [show n - i = (n - (i + 1)) + 1 by omega, List.replicate_succ]
  rw [e, List.set_append_right i (bitAt s i) (by rw [bitsOf_length]; omega), bitsOf_length, Nat.sub_self, List.set_cons_zero]
  unfold bitsOf
  rw [List.range_succ, List.map_append, List.append_assoc]
  rfl
def tail (s : ByteArray) (n : Nat) : List Int × Bool := if n % 8 = 0 then (bitsOf s n, true) else if bt s ((s.size : Int) - 1) / 2 ^ (n % 8) = 0 then (bitsOf s n, true) else (([] : List Int), false)
theorem get_loop (s : ByteArray) (n : Nat) (hs : s.size = (n + 7) / 8) (hn : n ≤ 1099511627776) (d : Nat) : ∀ (k i : Nat), i ≤ n → n - i = d → d < k →
    coil_Get.l0 k s (n : Int) (read s n i) (n : Int) (i : Int) = some (tail s n) := by
  induction d with
  | zero =>
    intro k i hi hd hk
    obtain ⟨k, rfl⟩ : ∃ m, k = m + 1 := ⟨k - 1, by omega⟩
    obtain rfl : i = n := by omega
    have e : read s i i = bitsOf s i := by simp [read]
    have h7 : Go.bits .and .i64 (i : Int) 7 = ((i % 8 : Nat) : Int) := by rw [and7 _ (by omega) (by omega)]; omega
    simp only [coil_Get.l0]
    rw [if_neg (by omega), e, h7]
    unfold tail
    by_cases h : i % 8 = 0
    · rw [if_pos (by omega), if_pos h]
    · rw [if_neg (by omega), if_neg h]
      rw [w64 (by omega) (by omega), if_pos (by omega), if_pos (by omega), u64w (by omega) (by omega), if_pos (by omega), shr_eq _ _ _ (by omega)]
      split <;> rfl
  | succ d ih =>
    intro k i hi hd hk
    obtain ⟨k, rfl⟩ : ∃ m, k = m + 1 := ⟨k - 1, by omega⟩
    have hlt : i < n := by omega
    have hw : wrap64 ((i : Int) + 1) = ((i + 1 : Nat) : Int) := by rw [w64 (by omega) (by omega)]; omega
    have hd8 : ((i : Int) / 8) = ((i / 8 : Nat) : Int) := by omega
    have h7 : IntKind.u64.wrap (Go.bits .and .i64 (i : Int) 7) = ((i % 8 : Nat) : Int) := by
      rw [and7 _ (by omega) (by omega), u64w (by omega) (by omega)]; omega
    have hb := bt_range s ((i / 8 : Nat) : Int)
    have hp := two_pow_pos (i % 8)
    have hv0 : 0 ≤ bt s ((i / 8 : Nat) : Int) / 2 ^ (i % 8) := Int.ediv_nonneg hb.1 (by omega)
    have hv1 : bt s ((i / 8 : Nat) : Int) / 2 ^ (i % 8) ≤ bt s ((i / 8 : Nat) : Int) := Int.ediv_le_self _ hb.1
    have hval : Go.bits .and .i64 (wrap64 (bt s ((i / 8 : Nat) : Int) / 2 ^ (i % 8))) 1 = bitAt s i := by
      rw [w64 (by omega) (by omega), and1 _ hv0 (by omega)]; rfl
    simp only [coil_Get.l0]
    rw [if_pos (by omega), hd8, if_pos (by omega), if_pos (by omega), h7, if_pos (by omega), if_pos (by omega), if_pos (by rw [read_length _ _ _ hi]; omega), shr_eq _ _ _ (by omega), hval, hw, Int.toNat_natCast, read_step _ _ _ hlt]
    exact ih k (i + 1) (by omega) (by omega) (by omega)
theorem tail_clean (s : ByteArray) (n : Nat) (hs : s.size = (n + 7) / 8) (h : clean s n) : tail s n = (bitsOf s n, true) := by
  unfold tail
  split
  · rfl
  · rename_i hn
    rw [if_pos ((clean_last hs hn).2 h)]
theorem tail_not (s : ByteArray) (n : Nat) (hs : s.size = (n + 7) / 8) (h : ¬ clean s n) : tail s n = (([] : List Int), false) := by
  unfold tail
  split
  · rename_i hn
    exact absurd (fun i h1 h2 => by omega) h
  · rename_i hn
    rw [if_neg (fun e => h ((clean_last hs hn).1 e))]
open Classical in
noncomputable def get (s : ByteArray) (n : Int) : List Int × Bool :=
  if 0 ≤ n ∧ n ≤ 8 * (s.size : Int) ∧ s.size = (n.toNat + 7) / 8 ∧ clean s n.toNat then (bitsOf s n.toNat, true) else (([] : List Int), false)
theorem get_eq (s : ByteArray) (n : Int) (hs : s.size ≤ 8589934592) (hn : n ≤ 1099511627776) (k : Nat) (hk : 8 * s.size + 2 ≤ k) : coil_Get.f k s n = some (get s n) := by
  obtain ⟨k, rfl⟩ : ∃ m, k = m + 1 := ⟨k - 1, by omega⟩
  unfold coil_Get.f get
  by_cases h0 : n < 0
  · rw [if_pos h0, if_neg (by omega)]
    simp only [coil_Get.j0]
    rfl
  · rw [if_neg h0, w64 (by omega) (by omega)]
    by_cases h1 : n > 8 * (s.size : Int)
    · rw [if_pos h1, if_neg (by omega)]
      simp only [coil_Get.j0]
      rfl
    · obtain ⟨m, rfl⟩ := Int.eq_ofNat_of_zero_le (show 0 ≤ n by omega)
      rw [if_neg h1, size_pos m (by omega), Option.bind_some, Int.toNat_natCast]
      by_cases h2 : s.size = (m + 7) / 8
      · have e : (((((m + 7) / 8 : Nat) : Int)) != (s.size : Int)) = false := by simp; omega
        rw [e]
        simp only [coil_Get.j0]
        rw [if_neg (by decide), if_pos (by omega), if_pos (by omega), Option.bind_some, Int.toNat_natCast, List.length_replicate]
        have hl := get_loop s m h2 (by omega) m k 0 (by omega) (by omega) (by omega)
        have er : read s m 0 = List.replicate m 0 := by simp [read, bitsOf]
        rw [er] at hl
        refine hl.trans ?_
        by_cases hc : clean s m
        · rw [if_pos ⟨by omega, by omega, h2, hc⟩, tail_clean s m h2 hc]
        · rw [if_neg (fun h => hc h.2.2.2), tail_not s m h2 hc]
      · have e : (((((m + 7) / 8 : Nat) : Int)) != (s.size : Int)) = true := by simp; omega
        rw [e, if_neg (fun h => h2 h.2.2.1)]
        simp only [coil_Get.j0]
        rfl
theorem get_yes {s : ByteArray} {n : Nat} (h : s.size = (n + 7) / 8) (hc : clean s n) : get s (n : Int) = (bitsOf s n, true) := by
  unfold get; rw [if_pos ⟨by omega, by omega, by simpa using h, by simpa using hc⟩, Int.toNat_natCast]
end Go.Proofs.Ytinoabkfekomcaa.CoilAskSizes
