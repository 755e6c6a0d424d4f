/- What reading numbers from bytes tells (as printed for the law AskSizes), plainly. -/
import Derived.Test.YtinoabkfekomcaaAskFunAskSizes
import Derived.Test.YtinoabkfekomcaaCoilGetAskSizes
import Derived.Test.YtinoabkfekomcaaPAskSizesx4
namespace Go.Proofs.Ytinoabkfekomcaa.RepAskSizes
open Go.RowKit Go.Proofs.Ytinoabkfekomcaa.PAskSizes Go.Proofs.YtinoabkfekomcaaW.PrintWords Go.Proofs.YtinoabkfekomcaaW.PrintLast Go.Proofs.Ytinoabkfekomcaa.Base Go.Proofs.Ytinoabkfekomcaa.Coil Go.Proofs.Ytinoabkfekomcaa.CoilAskSizes

/-- Bytes as numbers of two each. -/
def un : List Int → List Int
  | a :: b :: t => (a * 256 + b) :: un t
  | _ => []
theorem un_be {l : List Int} (h : Rg 65535 l) : un (be l) = l := by
  induction l with
  | nil => rfl
  | cons v t ih =>
    have hv := h v (List.mem_cons_self ..)
    simp only [be, un]
    rw [ih (fun x hx => h x (List.mem_cons_of_mem _ hx))]
    congr 1
    omega
theorem be_un (n : Nat) : ∀ l : List Int, l.length = 2 * n → (∀ x ∈ l, 0 ≤ x ∧ x ≤ 255) → be (un l) = l := by
  induction n with
  | zero => intro l hl _; obtain rfl := List.eq_nil_of_length_eq_zero (by omega); rfl
  | succ n ih =>
    intro l hl h
    match l, hl, h with
    | a :: b :: t, hl, h =>
      have ha := h a (List.mem_cons_self ..)
      have hb := h b (List.mem_cons_of_mem _ (List.mem_cons_self ..))
      simp only [un, be]
      rw [ih t (by simp at hl; omega) (fun x hx => h x (List.mem_cons_of_mem _ (List.mem_cons_of_mem _ hx)))]
      rw [show (a * 256 + b) / 256 % 256 = a by omega, show (a * 256 + b) % 256 = b by omega]
theorem un_rg (n : Nat) : ∀ l : List Int, l.length = 2 * n → (∀ x ∈ l, 0 ≤ x ∧ x ≤ 255) → Rg 65535 (un l) ∧ (un l).length = n := by
  induction n with
  | zero => intro l hl _; obtain rfl := List.eq_nil_of_length_eq_zero (by omega); exact ⟨fun x hx => (by cases hx), rfl⟩
  | succ n ih =>
    intro l hl h
    match l, hl, h with
    | a :: b :: t, hl, h =>
      have ha := h a (List.mem_cons_self ..)
      have hb := h b (List.mem_cons_of_mem _ (List.mem_cons_self ..))
      obtain ⟨h1, h2⟩ := ih t (by simp at hl; omega) (fun x hx => h x (List.mem_cons_of_mem _ (List.mem_cons_of_mem _ hx)))
      refine ⟨fun x hx => ?_, by simp only [un, List.length_cons]; omega⟩
      simp only [un, List.mem_cons] at hx
      rcases hx with rfl | hx
      · omega
      · exact h1 x hx
theorem un_get (n : Nat) : ∀ (l : List Int) (i : Nat), l.length = 2 * n → i < n → (un l).getD i 0 = l.getD (2 * i) 0 * 256 + l.getD (2 * i + 1) 0 := by
  induction n with
  | zero => intro l i _ h; omega
  | succ n ih =>
    intro l i hl hi
    match l, hl with
    | a :: b :: t, hl =>
      cases i with
      | zero => rfl
      | succ i =>
        have e := ih t i (by simp at hl; omega) (by omega)
        rw [show 2 * (i + 1) = 2 * i + 1 + 1 by omega]
        simpa [un] using e
theorem bytes_bound (s : ByteArray) : ∀ x ∈ bytesOf s, 0 ≤ x ∧ x ≤ 255 := by
  intro x hx
  simp only [bytesOf, List.mem_map] at hx
  obtain ⟨b, -, rfl⟩ := hx
  have := b.toNat_lt
  omega
theorem back_and_forth (l : List UInt8) : List.map ((fun n : Int => UInt8.ofNat n.toNat) ∘ fun b : UInt8 => (b.toNat : Int)) l = l := by
  conv => rhs; rw [← List.map_id l]
  apply List.map_congr_left
  intro b _
  simp
theorem str_bytes (s : ByteArray) : strOfNums (bytesOf s) = s := by
  apply ByteArray.ext
  unfold strOfNums bytesOf
  rw [List.map_map, back_and_forth]
theorem bt_bytes (s : ByteArray) (i : Nat) : (bytesOf s).getD i 0 = bt s (i : Int) := by rw [← rd_bytesOf, rd_nat]
theorem bt_bound (s : ByteArray) (i : Nat) (hi : i < s.size) : 0 ≤ bt s (i : Int) ∧ bt s (i : Int) ≤ 255 := by
  rw [← bt_bytes, List.getD_eq_getElem?_getD, List.getElem?_eq_getElem (by rw [bytesOf_length]; exact hi)]
  exact bytes_bound s _ (List.getElem_mem _)
theorem or8 (x y : Int) (h0 : 0 ≤ x) (h1 : x ≤ 255) (h2 : 0 ≤ y) (h3 : y ≤ 255) : Go.bits .or .i64 (x * 256) y = x * 256 + y :=
  bits_join .i64 63 (by decide) wraps_i64 8 (x * 256) y (by omega) (by omega) (by omega) h2 (by omega) (by omega)
theorem get1 (s : ByteArray) (i : Nat) (hi : 2 * i + 1 < s.size) (hs : s.size ≤ 8589934592) : twin_Get.f s ((2 * i : Nat) : Int) = some (bt s ((2 * i : Nat) : Int) * 256 + bt s ((2 * i + 1 : Nat) : Int), true) := by
  have b0 := bt_bound s (2 * i) (by omega)
  have b1 := bt_bound s (2 * i + 1) hi
  have e : wrap64 (((2 * i : Nat) : Int) + 1) = ((2 * i + 1 : Nat) : Int) := by rw [w64 (by omega) (by omega)]; omega
  unfold twin_Get.f
  rw [if_neg (by omega), w64 (n := (s.size : Int) - 2) (by omega) (by omega), if_neg (by omega), if_pos (by omega), if_pos (by omega), e, if_pos (by omega), if_pos (by omega), w64 (n := bt s ((2 * i : Nat) : Int)) (by omega) (by omega), w64 (n := bt s ((2 * i : Nat) : Int) * 256) (by omega) (by omega), w64 (n := bt s ((2 * i + 1 : Nat) : Int)) (by omega) (by omega), or8 _ _ b0.1 b0.2 b1.1 b1.2]
theorem getAll_loop (s : ByteArray) (n : Nat) (hn : s.size = 2 * n) (hs : s.size ≤ 8589934592) (d : Nat) : ∀ (k i : Nat), i ≤ n → n - i = d → d < k →
    twin_GetAll.l0 k s ((un (bytesOf s)).take i ++ List.replicate (n - i) 0) (n : Int) (i : Int) = some (un (bytesOf s), true) := by
  have hu := (un_rg n (bytesOf s) (by rw [bytesOf_length]; exact hn) (bytes_bound s)).2
  induction d with
  | zero =>
    intro k i hi hd hk
    obtain ⟨k, rfl⟩ : ∃ m, k = m + 1 := ⟨k - 1, by omega⟩
    obtain rfl : i = n := by omega
    simp only [twin_GetAll.l0]
    rw [if_neg (by omega), Nat.sub_self, List.replicate_zero, List.append_nil, ← hu, List.take_length]
  | succ d ih =>
    intro k i hi hd hk
    obtain ⟨k, rfl⟩ : ∃ m, k = m + 1 := ⟨k - 1, by omega⟩
    have hlt : i < (un (bytesOf s)).length := by omega
    have e2 : wrap64 (2 * (i : Int)) = ((2 * i : Nat) : Int) := by rw [w64 (by omega) (by omega)]; omega
    have hwr : wrap64 ((i : Int) + 1) = ((i + 1 : Nat) : Int) := by rw [w64 (by omega) (by omega)]; omega
    have hv : bt s ((2 * i : Nat) : Int) * 256 + bt s ((2 * i + 1 : Nat) : Int) = (un (bytesOf s))[i] := by
      have e := un_get n (bytesOf s) i (by rw [bytesOf_length]; exact hn) (by omega)
      rw [bt_bytes, bt_bytes, List.getD_eq_getElem?_getD, List.getElem?_eq_getElem hlt] at e
      exact e.symm
    simp only [twin_GetAll.l0]
    rw [if_pos (by omega), e2, get1 s i (by omega) hs, Option.bind_some, if_pos (by omega), if_pos (by simp; omega), hwr, Int.toNat_natCast]
    have es : ((un (bytesOf s)).take i ++ List.replicate (n - i) 0).set i (bt s ((2 * i : Nat) : Int) * 256 + bt s ((2 * i + 1 : Nat) : Int)) = (un (bytesOf s)).take (i + 1) ++ List.replicate (n - (i + 1)) 0 := by
      have hl : ((un (bytesOf s)).take i).length = i := by rw [List.length_take]; omega
      rw [hv, List.set_append_right _ _ (by omega), hl, Nat.sub_self, show n - i = (n - (i + 1)) + 1 by omega, List.replicate_succ, List.set_cons_zero, List.take_succ_eq_append_getElem hlt, List.append_assoc]
      rfl
    rw [es]
    exact ih k (i + 1) (by omega) (by omega) (by omega)
def getAll (s : ByteArray) : List Int × Bool := if s.size % 2 = 1 then (([] : List Int), false) else (un (bytesOf s), true)
theorem getAll_eq (s : ByteArray) (hs : s.size ≤ 8589934592) (k : Nat) (hk : s.size < k) : twin_GetAll.f k s = some (getAll s) := by
  unfold twin_GetAll.f getAll
  rw [and1 _ (by omega) (by omega)]
  by_cases h : s.size % 2 = 1
  · rw [if_pos (by omega), if_pos h]
  · have e : wrap64 ((s.size : Int) / 2) = ((s.size / 2 : Nat) : Int) := by rw [w64 (by omega) (by omega)]; omega
    rw [if_neg (by omega), if_neg h, e, if_pos (by omega), if_pos (by rw [Int.toNat_natCast]; omega), Option.bind_some, Int.toNat_natCast, List.length_replicate]
    have hl := getAll_loop s (s.size / 2) (by omega) hs (s.size / 2) k 0 (by omega) (by omega) (by omega)
    simpa using hl
def numP (s : ByteArray) (n : Nat) : List Int × Bool := if s.size < 2 * n then (([] : List Int), false) else (un (bytesOf (s.extract 0 (2 * n))), true)
theorem numbers_eq (s : ByteArray) (n : Nat) (hn : n ≤ 4) (hs : s.size ≤ 4000) (k : Nat) (hk : 5000 ≤ k) : ask_numbers.f k s (n : Int) = some (numP s n) := by
  unfold ask_numbers.f numP
  have e : wrap64 (2 * (n : Int)) = ((2 * n : Nat) : Int) := by rw [w64 (by omega) (by omega)]; omega
  rw [e]
  by_cases h : s.size < 2 * n
  · rw [if_pos (by omega), if_pos h]
  · have hz : (s.extract 0 (2 * n)).size = 2 * n := by rw [ByteArray.size_extract]; omega
    rw [if_neg (by omega), if_neg h, if_pos (by omega), if_pos (by omega), Int.toNat_natCast, getAll_eq _ (by omega) _ (by omega), Option.bind_some]
    unfold getAll
    rw [if_neg (by omega)]
/-- The number of two bytes at a place. -/
def w16 (s : ByteArray) (i : Nat) : Int := bt s (i : Int) * 256 + bt s ((i + 1 : Nat) : Int)
theorem w16_rg (s : ByteArray) (i : Nat) : 0 ≤ w16 s i ∧ w16 s i ≤ 65535 := by
  unfold w16
  have h1 := bt_range s (i : Int)
  have h2 := bt_range s ((i + 1 : Nat) : Int)
  omega
theorem bytes_extract (s : ByteArray) (m i : Nat) (hi : i < m) : (bytesOf (s.extract 0 m)).getD i 0 = (bytesOf s).getD i 0 := by
  unfold bytesOf
  simp only [ByteArray.data_extract, Array.toList_extract, List.drop_zero, Nat.sub_zero, List.getD_eq_getElem?_getD, List.getElem?_map, List.extract_eq_take_drop, Nat.sub_zero]
  rw [List.getElem?_take_of_lt hi]
theorem un_at (s : ByteArray) (n i : Nat) (hs : 2 * n ≤ s.size) (hi : i < n) : (un (bytesOf (s.extract 0 (2 * n)))).getD i 0 = w16 s (2 * i) := by
  have hl : (bytesOf (s.extract 0 (2 * n))).length = 2 * n := by
    rw [bytesOf_length, ByteArray.size_extract]; omega
  rw [un_get n _ i hl hi, bytes_extract s _ _ (by omega), bytes_extract s _ _ (by omega), bt_bytes, bt_bytes]
  rfl
theorem un_len (s : ByteArray) (n : Nat) (hs : 2 * n ≤ s.size) : (un (bytesOf (s.extract 0 (2 * n)))).length = n :=
  (un_rg n _ (by rw [bytesOf_length, ByteArray.size_extract]; omega) (bytes_bound _)).2
theorem num2 {s : ByteArray} (h : 4 ≤ s.size) : numP s 2 = ([w16 s 0, w16 s 2], true) := by
  unfold numP
  rw [if_neg (by omega)]
  have hl := un_len s 2 (by omega)
  have h0 := un_at s 2 0 (by omega) (by omega)
  have h1 := un_at s 2 1 (by omega) (by omega)
  match hm : un (bytesOf (s.extract 0 (2 * 2))), hl with
  | [a, b], _ =>
    rw [hm] at h0 h1
    simp at h0 h1
    rw [h0, h1]
theorem num3 {s : ByteArray} (h : 6 ≤ s.size) : numP s 3 = ([w16 s 0, w16 s 2, w16 s 4], true) := by
  unfold numP
  rw [if_neg (by omega)]
  have hl := un_len s 3 (by omega)
  have h0 := un_at s 3 0 (by omega) (by omega)
  have h1 := un_at s 3 1 (by omega) (by omega)
  have h2 := un_at s 3 2 (by omega) (by omega)
  match hm : un (bytesOf (s.extract 0 (2 * 3))), hl with
  | [a, b, c], _ =>
    rw [hm] at h0 h1 h2
    simp at h0 h1 h2
    rw [h0, h1, h2]
theorem num4 {s : ByteArray} (h : 8 ≤ s.size) : numP s 4 = ([w16 s 0, w16 s 2, w16 s 4, w16 s 6], true) := by
  unfold numP
  rw [if_neg (by omega)]
  have hl := un_len s 4 (by omega)
  have h0 := un_at s 4 0 (by omega) (by omega)
  have h1 := un_at s 4 1 (by omega) (by omega)
  have h2 := un_at s 4 2 (by omega) (by omega)
  have h3 := un_at s 4 3 (by omega) (by omega)
  match hm : un (bytesOf (s.extract 0 (2 * 4))), hl with
  | [a, b, c, d], _ =>
    rw [hm] at h0 h1 h2 h3
    simp at h0 h1 h2 h3
    rw [h0, h1, h2, h3]
theorem of_toList {a b : ByteArray} (h : (a.toList == b.toList) = true) : a = b := by
  have e := eq_of_beq h
  rw [ByteArray.toList_eq, ByteArray.toList_eq] at e
  exact ByteArray.ext (Array.ext' e)
/-- What stands behind how many bytes it takes. -/
noncomputable def tailP (s : ByteArray) (bits : Bool) (many : Int) : List Int × Bool :=
  if s.size = 0 ∨ (s.size : Int) - 1 ≠ bt s 0 then (([] : List Int), false) else if bits = true then get (s.extract 1 s.size) many else getAll (s.extract 1 s.size)
theorem tail_eq (s : ByteArray) (bits : Bool) (many : Int) (hs : s.size ≤ 4000) (hm : many ≤ 65535) (k : Nat) (hk : 40000 ≤ k) : ask_tail.f k s bits many = some (tailP s bits many) := by
  obtain ⟨k, rfl⟩ : ∃ m, k = m + 1 := ⟨k - 1, by omega⟩
  unfold ask_tail.f tailP
  by_cases h0 : s.size = 0
  · have e : s.toList = [] := by
      have : s = ⟨#[]⟩ := by
        apply ByteArray.ext
        exact Array.eq_empty_of_size_eq_zero h0
      rw [this]; decide +kernel
    rw [if_pos e, if_pos (.inl h0)]
    simp only [ask_tail.j0]
    rfl
  · have e : s.toList ≠ [] := by
      intro e
      have h : s = ⟨#[]⟩ := of_toList (by rw [e]; decide +kernel)
      rw [h] at h0
      exact h0 rfl
    have hb := bt_range s 0
    rw [if_neg e, if_pos (by omega), w64 (n := (s.size : Int) - 1) (by omega) (by omega), w64 (n := bt s 0) (by omega) (by omega)]
    simp only [ask_tail.j0]
    by_cases h1 : (s.size : Int) - 1 = bt s 0
    · have hz : (s.extract 1 s.size).size ≤ s.size := by rw [ByteArray.size_extract]; omega
      have hb0 : (((s.size : Int) - 1) != bt s 0) = false := by simpa using h1
      rw [hb0, if_neg (by decide), if_neg (show ¬ (s.size = 0 ∨ (s.size : Int) - 1 ≠ bt s 0) from fun h => h.elim h0 (fun h => h h1))]
      cases bits
      · simp only [Bool.false_eq_true, if_false]
        rw [if_pos (by omega), getAll_eq _ (by omega) _ (by omega), Option.bind_some]
      · simp only [if_true]
        rw [if_pos (by omega), get_eq _ _ (by omega) (by omega) _ (by omega), Option.bind_some]
    · have hb0 : (((s.size : Int) - 1) != bt s 0) = true := by simpa using h1
      rw [hb0, if_pos rfl, if_pos (.inr h1)]
end Go.Proofs.Ytinoabkfekomcaa.RepAskSizes
