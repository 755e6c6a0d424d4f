/- What reading a response tells (as printed for the law ReplyBack), plainly. -/
import Derived.Test.YtinoabkfekomcaaReplyFunReplyBack
import Derived.Test.YtinoabkfekomcaaCoilGetReplyBack
import Derived.Test.YtinoabkfekomcaaPReplyBackx6
namespace Go.Proofs.Ytinoabkfekomcaa.RepReplyBack
open Go.RowKit Go.Proofs.Ytinoabkfekomcaa.PReplyBack Go.Proofs.YtinoabkfekomcaaW.PrintWords Go.Proofs.YtinoabkfekomcaaW.PrintLast Go.Proofs.Ytinoabkfekomcaa.Base Go.Proofs.Ytinoabkfekomcaa.Coil Go.Proofs.Ytinoabkfekomcaa.CoilReplyBack

/-- Bytes as numbers of two each. -/
def un : List Int → List Int
  | a :: b :: t => (a * 256 + b) :: un t
  | _ => []
theorem un_be {l : List Int} (h : Rg 65535 l) : un (be l) = l := by
  induction l with
  | nil => rfl
  | cons v t ih =>
    have hv := h v (List.mem_cons_self ..)
    simp only [be, un]
    rw [ih (fun x hx => h x (List.mem_cons_of_mem _ hx))]
    congr 1
    omega
theorem be_un (n : Nat) : ∀ l : List Int, l.length = 2 * n → (∀ x ∈ l, 0 ≤ x ∧ x ≤ 255) → be (un l) = l := by
  induction n with
  | zero => intro l hl _; obtain rfl := List.eq_nil_of_length_eq_zero (by omega); rfl
  | succ n ih =>
    intro l hl h
    match l, hl, h with
    | a :: b :: t, hl, h =>
      have ha := h a (List.mem_cons_self ..)
      have hb := h b (List.mem_cons_of_mem _ (List.mem_cons_self ..))
      simp only [un, be]
      rw [ih t (by simp at hl; omega) (fun x hx => h x (List.mem_cons_of_mem _ (List.mem_cons_of_mem _ hx)))]
      rw [show (a * 256 + b) / 256 % 256 = a by omega, show (a * 256 + b) % 256 = b by omega]
theorem un_rg (n : Nat) : ∀ l : List Int, l.length = 2 * n → (∀ x ∈ l, 0 ≤ x ∧ x ≤ 255) → Rg 65535 (un l) ∧ (un l).length = n := by
  induction n with
  | zero => intro l hl _; obtain rfl := List.eq_nil_of_length_eq_zero (by omega); exact ⟨fun x hx => (by cases hx), rfl⟩
  | succ n ih =>
    intro l hl h
    match l, hl, h with
    | a :: b :: t, hl, h =>
      have ha := h a (List.mem_cons_self ..)
      have hb := h b (List.mem_cons_of_mem _ (List.mem_cons_self ..))
      obtain ⟨h1, h2⟩ := ih t (by simp at hl; omega) (fun x hx => h x (List.mem_cons_of_mem _ (List.mem_cons_of_mem _ hx)))
      refine ⟨fun x hx => ?_, by simp only [un, List.length_cons]; omega⟩
      simp only [un, List.mem_cons] at hx
      rcases hx with rfl | hx
      · omega
      · exact h1 x hx
theorem un_get (n : Nat) : ∀ (l : List Int) (i : Nat), l.length = 2 * n → i < n → (un l).getD i 0 = l.getD (2 * i) 0 * 256 + l.getD (2 * i + 1) 0 := by
  induction n with
  | zero => intro l i _ h; omega
  | succ n ih =>
    intro l i hl hi
    match l, hl with
    | a :: b :: t, hl =>
      cases i with
      | zero => rfl
      | succ i =>
        have e := ih t i (by simp at hl; omega) (by omega)
        rw [show 2 * (i + 1) = 2 * i + 1 + 1 by omega]
        simpa [un] using e
theorem bytes_bound (s : ByteArray) : ∀ x ∈ bytesOf s, 0 ≤ x ∧ x ≤ 255 := by
  intro x hx
  simp only [bytesOf, List.mem_map] at hx
  obtain ⟨b, -, rfl⟩ := hx
  have := b.toNat_lt
  omega
theorem back_and_forth (l : List UInt8) : List.map ((fun n : Int => UInt8.ofNat n.toNat) ∘ fun b : UInt8 => (b.toNat : Int)) l = l := by
  conv => rhs; rw [← List.map_id l]
  apply List.map_congr_left
  intro b _
  simp
theorem str_bytes (s : ByteArray) : strOfNums (bytesOf s) = s := by
  apply ByteArray.ext
  unfold strOfNums bytesOf
  rw [List.map_map, back_and_forth]
theorem bt_bytes (s : ByteArray) (i : Nat) : (bytesOf s).getD i 0 = bt s (i : Int) := by rw [← rd_bytesOf, rd_nat]
theorem bt_bound (s : ByteArray) (i : Nat) (hi : i < s.size) : 0 ≤ bt s (i : Int) ∧ bt s (i : Int) ≤ 255 := by
  rw [← bt_bytes, List.getD_eq_getElem?_getD, List.getElem?_eq_getElem (by rw [bytesOf_length]; exact hi)]
  exact bytes_bound s _ (List.getElem_mem _)
theorem or8 (x y : Int) (h0 : 0 ≤ x) (h1 : x ≤ 255) (h2 : 0 ≤ y) (h3 : y ≤ 255) : Go.bits .or .i64 (x * 256) y = x * 256 + y :=
  bits_join .i64 63 (by decide) wraps_i64 8 (x * 256) y (by omega) (by omega) (by omega) h2 (by omega) (by omega)
theorem get1 (s : ByteArray) (i : Nat) (hi : 2 * i + 1 < s.size) (hs : s.size ≤ 8589934592) : twin_Get.f s ((2 * i : Nat) : Int) = some (bt s ((2 * i : Nat) : Int) * 256 + bt s ((2 * i + 1 : Nat) : Int), true) := by
  have b0 := bt_bound s (2 * i) (by omega)
  have b1 := bt_bound s (2 * i + 1) hi
  have e : wrap64 (((2 * i : Nat) : Int) + 1) = ((2 * i + 1 : Nat) : Int) := by rw [w64 (by omega) (by omega)]; omega
  unfold twin_Get.f
  rw [if_neg (by omega), w64 (n := (s.size : Int) - 2) (by omega) (by omega), if_neg (by omega), if_pos (by omega), if_pos (by omega), e, if_pos (by omega), if_pos (by omega), w64 (n := bt s ((2 * i : Nat) : Int)) (by omega) (by omega), w64 (n := bt s ((2 * i : Nat) : Int) * 256) (by omega) (by omega), w64 (n := bt s ((2 * i + 1 : Nat) : Int)) (by omega) (by omega), or8 _ _ b0.1 b0.2 b1.1 b1.2]
theorem getAll_loop (s : ByteArray) (n : Nat) (hn : s.size = 2 * n) (hs : s.size ≤ 8589934592) (d : Nat) : ∀ (k i : Nat), i ≤ n → n - i = d → d < k →
    twin_GetAll.l0 k s ((un (bytesOf s)).take i ++ List.replicate (n - i) 0) (n : Int) (i : Int) = some (un (bytesOf s), true) := by
  have hu := (un_rg n (bytesOf s) (by rw [bytesOf_length]; exact hn) (bytes_bound s)).2
  induction d with
  | zero =>
    intro k i hi hd hk
    obtain ⟨k, rfl⟩ : ∃ m, k = m + 1 := ⟨k - 1, by omega⟩
    obtain rfl : i = n := by omega
    simp only [twin_GetAll.l0]
    rw [if_neg (by omega), Nat.sub_self, List.replicate_zero, List.append_nil, ← hu, List.take_length]
  | succ d ih =>
    intro k i hi hd hk
    obtain ⟨k, rfl⟩ : ∃ m, k = m + 1 := ⟨k - 1, by omega⟩
    have hlt : i < (un (bytesOf s)).length := by omega
    have e2 : wrap64 (2 * (i : Int)) = ((2 * i : Nat) : Int) := by rw [w64 (by omega) (by omega)]; omega
    have hwr : wrap64 ((i : Int) + 1) = ((i + 1 : Nat) : Int) := by rw [w64 (by omega) (by omega)]; omega
    have hv : bt s ((2 * i : Nat) : Int) * 256 + bt s ((2 * i + 1 : Nat) : Int) = (un (bytesOf s))[i] := by
      have e := un_get n (bytesOf s) i (by rw [bytesOf_length]; exact hn) (by omega)
      rw [bt_bytes, bt_bytes, List.getD_eq_getElem?_getD, List.getElem?_eq_getElem hlt] at e
      exact e.symm
    simp only [twin_GetAll.l0]
    rw [if_pos (by omega), e2, get1 s i (by omega) hs, Option.bind_some, if_pos (by omega), if_pos (by simp; omega), hwr, Int.toNat_natCast]
    have es : ((un (bytesOf s)).take i ++ List.replicate (n - i) 0).set i (bt s ((2 * i : Nat) : Int) * 256 + bt s ((2 * i + 1 : Nat) : Int)) = (un (bytesOf s)).take (i + 1) ++ List.replicate (n - (i + 1)) 0 := by
      have hl : ((un (bytesOf s)).take i).length = i := by rw [List.length_take]; omega
      rw [hv, List.set_append_right _ _ (by omega), hl, Nat.sub_self, show n - i = (n - (i + 1)) + 1 by omega, List.replicate_succ, List.set_cons_zero, List.take_succ_eq_append_getElem hlt, List.append_assoc]
      rfl
    rw [es]
    exact ih k (i + 1) (by omega) (by omega) (by omega)
def getAll (s : ByteArray) : List Int × Bool := if s.size % 2 = 1 then (([] : List Int), false) else (un (bytesOf s), true)
theorem getAll_eq (s : ByteArray) (hs : s.size ≤ 8589934592) (k : Nat) (hk : s.size < k) : twin_GetAll.f k s = some (getAll s) := by
  unfold twin_GetAll.f getAll
  rw [and1 _ (by omega) (by omega)]
  by_cases h : s.size % 2 = 1
  · rw [if_pos (by omega), if_pos h]
  · have e : wrap64 ((s.size : Int) / 2) = ((s.size / 2 : Nat) : Int) := by rw [w64 (by omega) (by omega)]; omega
    rw [if_neg (by omega), if_neg h, e, if_pos (by omega), if_pos (by rw [Int.toNat_natCast]; omega), Option.bind_some, Int.toNat_natCast, List.length_replicate]
    have hl := getAll_loop s (s.size / 2) (by omega) hs (s.size / 2) k 0 (by omega) (by omega) (by omega)
    simpa using hl
noncomputable def unpackP (a0 a1 : Int) (s : ByteArray) : List Int × Bool :=
  if a0 < 3 then get s a1 else ((getAll s).1, (getAll s).2 && (((getAll s).1.length : Int) == a1))
theorem unpack_eq (a0 a1 : Int) (s : ByteArray) (hs : s.size ≤ 300) (h1 : a1 ≤ 1099511627776) (k : Nat) (hk : 4000 ≤ k) : reply_unpack.f k a0 a1 s = some (unpackP a0 a1 s) := by
  unfold reply_unpack.f unpackP
  split
  · rw [get_eq _ _ (by omega) h1 _ (by omega)]; rfl
  · rw [getAll_eq _ (by omega) _ (by omega), Option.bind_some]
    cases (getAll s).2 <;> rfl
/-- What a response tells. -/
noncomputable def dataP (a0 a1 a2 a3 a4 : Int) (l : List Int) (s : ByteArray) : List Int × Bool :=
  if rightP a0 a1 a2 a3 a4 l = true then
    (if echoB a0 = true then (([] : List Int), ((strOfNums (echoL a0 a3 a4 l)).toList == s.toList))
     else if 2 ≤ s.size ∧ bt s 0 = a0 ∧ bt s 1 = (s.size : Int) - 2 then (if (unpackP a0 a2 (s.extract 2 s.size)).2 = true then ((unpackP a0 a2 (s.extract 2 s.size)).1, true) else (([] : List Int), false))
     else (([] : List Int), false))
  else (([] : List Int), false)
theorem data_eq (a0 a1 a2 a3 a4 : Int) (l : List Int) (s : ByteArray) (hs : s.size ≤ 300) (k : Nat) (hk : 4001 ≤ k) : reply_Data.f k a0 a1 a2 a3 a4 l s = some (dataP a0 a1 a2 a3 a4 l s) := by
  obtain ⟨k, rfl⟩ : ∃ m, k = m + 1 := ⟨k - 1, by omega⟩
  unfold reply_Data.f dataP
  simp only [reply_Data.j0]
  rw [right_eq _ _ _ _ _ _ _ (by omega), Option.bind_some]
  by_cases hr : rightP a0 a1 a2 a3 a4 l = true
  · have ht := rt_of hr
    have hb := rt_of_len ht
    rw [if_pos hr, if_pos hr, echo_eq ht hr _ (by omega), Option.bind_some]
    by_cases he : echoB a0 = true
    · rw [if_pos he, if_pos rfl, if_pos he]
    · rw [if_neg he, if_neg (by decide), if_neg he]
      by_cases h2 : s.size < 2
      · rw [if_pos (by omega), if_pos True.intro, if_neg (by omega)]
      · have b0 := bt_bound s 0 (by omega)
        have b1 := bt_bound s 1 (by omega)
        rw [show ((0 : Nat) : Int) = 0 from rfl] at b0
        rw [show ((1 : Nat) : Int) = 1 from rfl] at b1
        rw [if_neg (by omega), if_pos (by omega), w64 (n := bt s 0) (by omega) (by omega)]
        by_cases h0 : bt s 0 = a0
        · rw [if_pos h0, if_pos (by omega), w64 (n := bt s 1) (by omega) (by omega), w64 (n := (s.size : Int) - 2) (by omega) (by omega)]
          by_cases h1 : bt s 1 = (s.size : Int) - 2
          · rw [if_neg (by simpa using h1), if_pos (by omega), if_pos ⟨by omega, h0, h1⟩, unpack_eq _ _ _ (by rw [ByteArray.size_extract]; omega) (by omega) _ (by omega), Option.bind_some]
            by_cases h3 : (unpackP a0 a2 (s.extract 2 s.size)).2 = true
            · rw [if_pos h3, if_pos h3]
            · rw [if_neg h3, if_neg h3]
          · rw [if_pos (by simpa using h1), if_neg (fun h => h1 h.2.2)]
        · rw [if_neg h0, if_pos True.intro, if_neg (fun h => h0 h.2.1)]
  · rw [if_neg hr, if_neg hr]
/-- Two bytes and the rest. -/
theorem two_rest (s : ByteArray) (h : 2 ≤ s.size) : strOfNums [bt s 0, bt s 1] ++ s.extract 2 s.size = s := by
  have e0 : bt s 0 = (bytesOf s).getD 0 0 := (bt_bytes s 0).symm
  have e1 : bt s 1 = (bytesOf s).getD 1 0 := (bt_bytes s 1).symm
  have hx : s.extract 2 s.size = strOfNums ((bytesOf s).drop 2) := by
    apply ByteArray.ext
    apply Array.ext'
    unfold strOfNums bytesOf
    rw [← List.map_drop, List.map_map, back_and_forth]
    simp [ByteArray.data_extract]
    rw [List.take_of_length_le (by rw [List.length_drop, data_length]; omega)]
  rw [hx, ← strOfNums_append, e0, e1]
  have hl : 2 ≤ (bytesOf s).length := by rw [bytesOf_length]; exact h
  conv => rhs; rw [← str_bytes s]
  congr 1
  match bytesOf s, hl with
  | a :: b :: t, _ => rfl
theorem rest_of (a b : Int) (s : ByteArray) : (strOfNums [a, b] ++ s).extract 2 (strOfNums [a, b] ++ s).size = s := by
  apply ByteArray.ext
  apply Array.ext'
  simp [strOfNums, ByteArray.size_append, ByteArray.data_extract, ByteArray.data_append]
  rw [List.take_of_length_le (by rw [data_length]; show s.size ≤ 2 + s.size - 2; omega)]
end Go.Proofs.Ytinoabkfekomcaa.RepReplyBack
