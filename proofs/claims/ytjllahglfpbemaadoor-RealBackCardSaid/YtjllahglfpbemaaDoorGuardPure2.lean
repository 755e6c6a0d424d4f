/- Plain laws of digits: the document's Put and Get; the order of digits. -/
import Derived.Test.YtjllahglfpbemaaDoorGuardPure
namespace Go.Proofs.YtjllahglfpbemaaDoor.PGuardTells
open Go Go.RowKit Go.Proofs.YtjllahglfpbemaaDoorW.PrintWords Go.Proofs.YtjllahglfpbemaaDoorW.PrintLast Go.Proofs.YtjllahglfpbemaaDoorW.PrintMore
set_option linter.unusedVariables false
set_option linter.unusedSimpArgs false
open Go.Lib (decDigits nDigits)
theorem size_list (s : ByteArray) : s.size = s.data.toList.length := by rw [Array.length_toList]; rfl
theorem ext_list {s t : ByteArray} (h : s.data.toList = t.data.toList) : s = t := by
  cases s; cases t
  simp only at h
  rw [Array.toList_inj.1 h]
theorem app_list (s t : ByteArray) : (s ++ t).data.toList = s.data.toList ++ t.data.toList := by
  rw [ByteArray.data_append, Array.toList_append]
theorem one_digit (n : Nat) : (strOfNums ([(wrap64 (48 + (Int.tmod (n : Int) 10))) % 256] : List Int)).data.toList = [UInt8.ofNat (48 + n % 10)] := by
  have e : ((wrap64 (48 + (Int.tmod (n : Int) 10))) % 256).toNat = 48 + n % 10 := by
    rw [Int.tmod_eq_emod_of_nonneg (by omega), w64 (by omega) (by omega)]; omega
  unfold strOfNums
  simp only [List.map_cons, List.map_nil, e]
theorem refPut_loop (n : Nat) : ∀ (k : Nat) (t : ByteArray), (n : Int) ≤ (9007199254740992 : Int) → t.data.toList.length + nDigits n ≤ 1000 → nDigits n ≤ k →
    ∃ r : ByteArray, gatewardenref02_Put.l0 k (n : Int) t = some (r, true) ∧ r.data.toList = decDigits n ++ t.data.toList := by
  induction n using Nat.strongRecOn with
  | ind n ih =>
    intro k t hn ht hk
    have h1 : 1 ≤ nDigits n := by rw [nDigits]; split <;> omega
    obtain ⟨k, rfl⟩ : ∃ m, k = m + 1 := ⟨k - 1, by omega⟩
    have hd : wrap64 (Int.tdiv (n : Int) 10) = ((n / 10 : Nat) : Int) := by
      rw [Int.tdiv_eq_ediv_of_nonneg (by omega), w64 (by omega) (by omega)]; omega
    have ho := one_digit n
    simp only [gatewardenref02_Put.l0, Option.bind_some, hd]
    generalize strOfNums ([(wrap64 (48 + (Int.tmod (n : Int) 10))) % 256] : List Int) = d at ho ⊢
    rw [if_pos (by rw [size_list, size_list, ho]; simp only [List.length_singleton]; omega)]
    have hdt := app_list d t
    rw [ho, List.singleton_append] at hdt
    by_cases h : n < 10
    · rw [if_pos (by omega)]
      refine ⟨_, rfl, ?_⟩
      rw [hdt, dec_small h, List.singleton_append, Nat.mod_eq_of_lt h]
    · rw [if_neg (by omega)]
      have hnd : nDigits n = nDigits (n / 10) + 1 := by conv => lhs; rw [nDigits, dif_neg h]
      obtain ⟨r, e, hr⟩ := ih (n / 10) (by omega) k (d ++ t) (by omega) (by rw [hdt, List.length_cons]; omega) (by omega)
      refine ⟨r, e, ?_⟩
      rw [hr, hdt, dec_big h, List.append_assoc, List.singleton_append]
theorem nDigits_M {n : Nat} (h : (n : Int) ≤ (9007199254740992 : Int)) : nDigits n ≤ 16 := nDigits_le 15 n (by have : (10 : Nat) ^ (15 + 1) = 10000000000000000 := rfl; omega)
def strOf (l : List UInt8) : ByteArray := ⟨l.toArray⟩
theorem strOf_list (l : List UInt8) : (strOf l).data.toList = l := by simp [strOf]
theorem refPut_eq (n : Int) (k : Nat) (hk : 20 ≤ k) : gatewardenref02_Put.f k n = some (if n < 0 ∨ (9007199254740992 : Int) < n then (⟨#[]⟩, false) else (strOf (decDigits n.toNat), true)) := by
  obtain ⟨k, rfl⟩ : ∃ m, k = m + 1 := ⟨k - 1, by omega⟩
  unfold gatewardenref02_Put.f gatewardenref02_most.f
  simp only [Option.bind_some, gatewardenref02_Put.j0]
  by_cases h0 : n < 0
  · rw [if_pos h0, if_pos trivial, if_pos (Or.inl h0)]
  · rw [if_neg h0]
    by_cases h1 : (9007199254740992 : Int) < n
    · rw [if_pos (decide_eq_true h1), if_pos (Or.inr h1)]
    · rw [if_neg (by simp only [decide_eq_true_eq]; exact h1), if_neg (by omega)]
      obtain ⟨m, rfl⟩ : ∃ m : Nat, n = (m : Int) := ⟨n.toNat, by omega⟩
      have hm := nDigits_M (n := m) (by omega)
      obtain ⟨r, e, hr⟩ := refPut_loop m k ⟨#[]⟩ (by omega) (by simp only [List.length_nil]; omega) (by omega)
      rw [e]
      have : r = strOf (decDigits ((m : Int)).toNat) := ext_list (by rw [hr, strOf_list, Int.toNat_natCast]; simp)
      rw [this]
def vl (l : List UInt8) (m : Int) : Int := l.foldl (fun a c => 10 * a + (c.toNat : Int) - 48) m
theorem vl_dec (n : Nat) : ∀ t, vl (decDigits n ++ t) 0 = vl t (n : Int) := by
  induction n using Nat.strongRecOn with
  | ind n ih =>
    intro t
    by_cases h : n < 10
    · rw [dec_small h, List.singleton_append]
      have e := ofNat_toNat h
      unfold vl
      rw [List.foldl_cons, e]
      congr 1; omega
    · rw [dec_big h, List.append_assoc, ih (n / 10) (by omega), List.singleton_append]
      have e := ofNat_toNat (Nat.mod_lt n (show 0 < 10 by decide))
      unfold vl
      rw [List.foldl_cons, e]
      congr 1; omega
def getP : Option Int → Int × Bool
  | some n => (n, true)
  | none => (0, false)
theorem takeWhile_all {α : Type} {p : α → Bool} : ∀ {l : List α}, (∀ x ∈ l, p x = true) → l.takeWhile p = l
  | [], _ => rfl
  | x :: l, h => by rw [List.takeWhile_cons, if_pos (h x List.mem_cons_self), takeWhile_all (fun y hy => h y (List.mem_cons_of_mem _ hy))]
theorem lead_dec (n : Nat) : lead (decDigits n) = (decDigits n).length := by unfold lead; rw [takeWhile_all (isD_dec n)]
theorem tw_mem {p : UInt8 → Bool} : ∀ (l : List UInt8) (c : UInt8), c ∈ l.takeWhile p → p c = true
  | [], _, h => by cases h
  | x :: l, c, h => by
    rw [List.takeWhile_cons] at h
    split at h
    · rename_i hx
      rcases List.mem_cons.1 h with rfl | h
      · exact hx
      · exact tw_mem l c h
    · cases h
theorem all_of_lead {l : List UInt8} (h : lead l = l.length) : ∀ c ∈ l, 48 ≤ c.toNat ∧ c.toNat ≤ 57 := by
  have e : l.takeWhile (ten.contains ·) = l := (List.takeWhile_prefix _).eq_of_length h
  intro c hc
  rw [← e] at hc
  exact (isD_iff c).1 (tw_mem _ c hc)
theorem refGet_loop (s : ByteArray) (hs : s.data.toList.length ≤ 16) (ha : ∀ c ∈ s.data.toList, 48 ≤ c.toNat ∧ c.toNat ≤ 57) (d : Nat) : ∀ (k i : Nat) (v : Int), i ≤ s.data.toList.length → s.data.toList.length - i = d → d + 21 ≤ k → 0 ≤ v → v < 10 ^ i →
    gatewardenref02_Get.l0 k s v (i : Int) = some (if vl (s.data.toList.drop i) v ≤ (9007199254740992 : Int) ∧ decDigits (vl (s.data.toList.drop i) v).toNat = s.data.toList then (vl (s.data.toList.drop i) v, true) else (0, false)) := by
  have hsz := size_list s
  induction d with
  | zero =>
    intro k i v h hd hk hv0 hv1
    obtain ⟨k, rfl⟩ : ∃ m, k = m + 1 := ⟨k - 1, by omega⟩
    obtain rfl : i = s.data.toList.length := by omega
    simp only [gatewardenref02_Get.l0]
    rw [if_neg (by omega), List.drop_length, refPut_eq v k (by omega)]
    simp only [Option.bind_some]
    show _ = some (if v ≤ (9007199254740992 : Int) ∧ decDigits v.toNat = s.data.toList then (v, true) else (0, false))
    by_cases hM : (9007199254740992 : Int) < v
    · rw [if_pos (Or.inr hM), if_neg (by simp), if_neg (by omega)]
    · have hn : ¬ (v < 0 ∨ (9007199254740992 : Int) < v) := by omega
      simp only [if_neg hn, if_true]
      have e : ((strOf (decDigits v.toNat)).toList = s.toList) ↔ decDigits v.toNat = s.data.toList := by
        rw [Lib.toList_data, Lib.toList_data, strOf_list]
      by_cases hq : decDigits v.toNat = s.data.toList
      · rw [if_pos (e.2 hq), if_pos ⟨by omega, hq⟩]
      · rw [if_neg (fun h => hq (e.1 h)), if_neg (fun h => hq h.2)]
  | succ d ih =>
    intro k i v h hd hk hv0 hv1
    obtain ⟨k, rfl⟩ : ∃ m, k = m + 1 := ⟨k - 1, by omega⟩
    have hlt : i < s.data.toList.length := by omega
    have hc := ha (s.data.toList[i]) (List.getElem_mem hlt)
    have hp : (10 : Int) ^ i ≤ 10 ^ 15 := by
      have : (10 : Nat) ^ i ≤ 10 ^ 15 := Nat.pow_le_pow_right (by decide) (by omega)
      exact_mod_cast this
    have hp2 : (10 : Int) ^ (i + 1) = 10 ^ i * 10 := Int.pow_succ ..
    have h15 : (10 : Int) ^ 15 = 1000000000000000 := rfl
    simp only [gatewardenref02_Get.l0]
    rw [if_pos (by omega), if_pos (by omega), bt_nat hlt]
    have e : wrap64 (wrap64 (wrap64 (10 * v) + wrap64 ((s.data.toList[i]).toNat : Int)) - 48) = 10 * v + ((s.data.toList[i]).toNat : Int) - 48 := by
      rw [w64 (n := 10 * v) (by omega) (by omega), w64 (n := ((s.data.toList[i]).toNat : Int)) (by omega) (by omega), w64 (n := 10 * v + _) (by omega) (by omega), w64 (by omega) (by omega)]
    rw [e, show wrap64 ((i : Int) + 1) = ((i + 1 : Nat) : Int) by rw [w64 (by omega) (by omega)]; omega, ih k (i + 1) _ (by omega) (by omega) (by omega) (by omega) (by omega), List.drop_eq_getElem_cons hlt]
    rfl
theorem refGet_eq (s : ByteArray) (hs : s.data.toList.length ≤ 100) : gatewardenref02_Get.f 2000 s = some (getP (readF s.data.toList)) := by
  have hsz := size_list s
  unfold gatewardenref02_Get.f
  by_cases h0 : (s.size : Int) = 0
  · have e : readF s.data.toList = none := if_pos (Or.inl (List.length_eq_zero_iff.1 (by omega)))
    rw [if_pos h0, e]
    simp only [gatewardenref02_Get.j0, if_true]
    rfl
  rw [if_neg h0]
  by_cases h1 : (s.size : Int) > 16
  · have e : readF s.data.toList = none := by
      cases hr : readF s.data.toList with
      | none => rfl
      | some n =>
        obtain ⟨a, b, c⟩ := (readF_iff _ _).1 hr
        have := nDigits_M (n := n.toNat) (by omega)
        have h2 := congrArg List.length c
        rw [Lib.decDigits_length] at h2
        omega
    rw [if_pos h1, e]
    simp only [gatewardenref02_Get.j0, if_true]
    rfl
  rw [if_neg h1, refLead_eq s (by omega) 2000 (by omega)]
  simp only [Option.bind_some, gatewardenref02_Get.j0]
  by_cases h2 : ((lead s.data.toList : Nat) : Int) < (s.size : Int)
  · have e : readF s.data.toList = none := by
      cases hr : readF s.data.toList with
      | none => rfl
      | some n =>
        obtain ⟨a, b, c⟩ := (readF_iff _ _).1 hr
        have h3 := lead_dec n.toNat
        rw [← c] at h3
        omega
    rw [if_pos (decide_eq_true h2), e]
    rfl
  · rw [if_neg (by simp only [decide_eq_true_eq]; exact h2)]
    have hl := lead_le s.data.toList
    have := refGet_loop s (by omega) (all_of_lead (by omega)) s.data.toList.length 1999 0 0 (by omega) (by omega) (by omega) (by omega) (by decide)
    rw [List.drop_zero] at this
    refine this.trans (congrArg some ?_)
    split
    · rename_i hv
      have hv0 : 0 ≤ vl s.data.toList 0 := by
        have h4 := vl_dec (vl s.data.toList 0).toNat []
        rw [List.append_nil, hv.2] at h4
        have : vl [] (((vl s.data.toList 0).toNat : Nat) : Int) = (((vl s.data.toList 0).toNat : Nat) : Int) := rfl
        omega
      rw [(readF_iff _ _).2 ⟨hv0, hv.1, hv.2.symm⟩]
      rfl
    · rename_i hv
      cases hr : readF s.data.toList with
      | none => rfl
      | some n =>
        exfalso
        obtain ⟨a, b, c⟩ := (readF_iff _ _).1 hr
        have h4 := vl_dec n.toNat []
        rw [List.append_nil, ← c] at h4
        have h5 : vl [] ((n.toNat : Nat) : Int) = ((n.toNat : Nat) : Int) := rfl
        exact hv ⟨by omega, by rw [h4, h5, Int.toNat_natCast]; exact c.symm⟩
/-! the order -/
theorem less_app : ∀ (l m x y : List UInt8), l.length = m.length → Op.bytesLess (l ++ x) (m ++ y) = (Op.bytesLess l m || (decide (l = m) && Op.bytesLess x y))
  | [], [], x, y, _ => by simp [Op.bytesLess]
  | [], _ :: _, _, _, h => by cases h
  | _ :: _, [], _, _, h => by cases h
  | a :: l, b :: m, x, y, h => by
    have ih := less_app l m x y (by simpa using h)
    simp only [List.cons_append, Op.bytesLess, ih]
    by_cases hab : a = b
    · subst hab
      simp [Bool.or_assoc, Bool.and_or_distrib_left]
    · have hb : (a == b) = false := beq_eq_false_iff_ne.2 hab
      simp [hab, hb]
theorem dec_inj {a b : Nat} (ha : (a : Int) ≤ (9007199254740992 : Int)) (hb : (b : Int) ≤ (9007199254740992 : Int)) (h : decDigits a = decDigits b) : a = b := by
  have h1 := rd_dec a [] ha
  have h2 := rd_dec b [] hb
  rw [List.append_nil] at h1 h2
  rw [h, h2] at h1
  have : (b : Int) = a := Option.some.inj h1
  omega
theorem less_dec (a : Nat) : ∀ b : Nat, (a : Int) ≤ (9007199254740992 : Int) → (b : Int) ≤ (9007199254740992 : Int) → nDigits a = nDigits b → Op.bytesLess (decDigits a) (decDigits b) = decide (a < b) := by
  induction a using Nat.strongRecOn with
  | ind a ih =>
    intro b ha hb hn
    have h1 : ∀ c, 1 ≤ nDigits c := fun c => by rw [nDigits]; split <;> omega
    have hs : ∀ i j : Nat, i < 10 → j < 10 → Op.bytesLess [UInt8.ofNat (48 + i)] [UInt8.ofNat (48 + j)] = decide (i < j) := by
      intro i j hi hj
      have ei := ofNat_toNat hi
      have ej := ofNat_toNat hj
      simp only [Op.bytesLess, Bool.and_false, Bool.or_false]
      refine decide_eq_decide.2 ?_
      rw [UInt8.lt_iff_toNat_lt, ei, ej]
      omega
    by_cases h : a < 10
    · by_cases h' : b < 10
      · rw [dec_small h, dec_small h', hs a b h h']
      · have := h1 (b / 10)
        rw [nDigits, dif_pos h] at hn
        rw [nDigits, dif_neg h'] at hn
        omega
    · by_cases h' : b < 10
      · have := h1 (a / 10)
        rw [nDigits, dif_neg h] at hn
        conv at hn => rhs; rw [nDigits, dif_pos h']
        omega
      · have hn2 : nDigits (a / 10) = nDigits (b / 10) := by
          have e1 : nDigits a = nDigits (a / 10) + 1 := by conv => lhs; rw [nDigits, dif_neg h]
          have e2 : nDigits b = nDigits (b / 10) + 1 := by conv => lhs; rw [nDigits, dif_neg h']
          omega
        rw [dec_big h, dec_big h', less_app _ _ _ _ (by rw [Go.Lib.decDigits_length, Go.Lib.decDigits_length]; exact hn2), ih (a / 10) (by omega) (b / 10) (by omega) (by omega) hn2, hs _ _ (Nat.mod_lt _ (by decide)) (Nat.mod_lt _ (by decide))]
        by_cases he : a / 10 = b / 10
        · rw [he]
          simp
          omega
        · have hne : ¬ decDigits (a / 10) = decDigits (b / 10) := fun hh => he (dec_inj (by omega) (by omega) hh)
          simp [hne]
          omega
theorem rises {a b : Nat} (ha : (a : Int) ≤ (9007199254740992 : Int)) (hb : (b : Int) ≤ (9007199254740992 : Int)) : ((decDigits a).length < (decDigits b).length ∧ a < b) ∨ ((decDigits b).length < (decDigits a).length ∧ b < a) ∨ ((decDigits a).length = (decDigits b).length ∧ Op.bytesLess (decDigits a) (decDigits b) = decide (a < b)) := by
  rw [Go.Lib.decDigits_length, Go.Lib.decDigits_length]
  rcases Nat.lt_trichotomy (nDigits a) (nDigits b) with h | h | h
  · exact .inl ⟨h, by have := nDigits_mono b a; omega⟩
  · exact .inr (.inr ⟨h, less_dec a b ha hb h⟩)
  · exact .inr (.inl ⟨h, by have := nDigits_mono a b; omega⟩)
end Go.Proofs.YtjllahglfpbemaaDoor.PGuardTells
