/- Texts of this claim, put together (wip/pack.py): AskUnAskSizes, AskLen. -/
import Derived.Test.YtinoabkfekomcaaK7
import Derived.Test.YtinoabkfekomcaaK4
namespace Go.Proofs.Ytinoabkfekomcaa.RepAskSizes
open Go.RowKit Go.Proofs.Ytinoabkfekomcaa.PAskSizes Go.Proofs.YtinoabkfekomcaaW.PrintWords Go.Proofs.YtinoabkfekomcaaW.PrintLast Go.Proofs.Ytinoabkfekomcaa.Base Go.Proofs.Ytinoabkfekomcaa.Coil Go.Proofs.Ytinoabkfekomcaa.CoilAskSizes

/-- Bytes as numbers of two each. -/
def un : List Int → List Int
  | a :: b :: t => (a * 256 + b) :: un t
  | _ => []
theorem un_be {l : List Int} (h : Rg 65535 l) : un (be l) = l := by
  induction l with
  | nil => rfl
  | cons v t ih =>
    have hv := h v (List.mem_cons_self ..)
    simp only [be, un]
    rw [ih (fun x hx => h x (List.mem_cons_of_mem _ hx))]
    congr 1
    omega
theorem be_un (n : Nat) : ∀ l : List Int, l.length = 2 * n → (∀ x ∈ l, 0 ≤ x ∧ x ≤ 255) → be (un l) = l := by
  induction n with
  | zero => intro l hl _; obtain rfl := List.eq_nil_of_length_eq_zero (by omega); rfl
  | succ n ih =>
    intro l hl h
    match l, hl, h with
    | a :: b :: t, hl, h =>
      have ha := h a (List.mem_cons_self ..)
      have hb := h b (List.mem_cons_of_mem _ (List.mem_cons_self ..))
      simp only [un, be]
      rw [ih t (by simp at hl; omega) (fun x hx => h x (List.mem_cons_of_mem _ (List.mem_cons_of_mem _ hx)))]
      rw [show (a * 256 + b) / 256 % 256 = a by omega, show (a * 256 + b) % 256 = b by omega]
theorem un_rg (n : Nat) : ∀ l : List Int, l.length = 2 * n → (∀ x ∈ l, 0 ≤ x ∧ x ≤ 255) → Rg 65535 (un l) ∧ (un l).length = n := by
  induction n with
  | zero => intro l hl _; obtain rfl := List.eq_nil_of_length_eq_zero (by omega); exact ⟨fun x hx => (by cases hx), rfl⟩
  | succ n ih =>
    intro l hl h
    match l, hl, h with
    | a :: b :: t, hl, h =>
      have ha := h a (List.mem_cons_self ..)
      have hb := h b (List.mem_cons_of_mem _ (List.mem_cons_self ..))
      obtain ⟨h1, h2⟩ := ih t (by simp at hl; omega) (fun x hx => h x (List.mem_cons_of_mem _ (List.mem_cons_of_mem _ hx)))
      refine ⟨fun x hx => ?_, by simp only [un, List.length_cons]; omega⟩
      simp only [un, List.mem_cons] at hx
      rcases hx with rfl | hx
      · omega
      · exact h1 x hx
theorem un_get (n : Nat) : ∀ (l : List Int) (i : Nat), l.length = 2 * n → i < n → (un l).getD i 0 = l.getD (2 * i) 0 * 256 + l.getD (2 * i + 1) 0 := by
  induction n with
  | zero => intro l i _ h; omega
  | succ n ih =>
    intro l i hl hi
    match l, hl with
    | a :: b :: t, hl =>
      cases i with
      | zero => rfl
      | succ i =>
        have e := ih t i (by simp at hl; omega) (by omega)
        rw [show 2 * (i + 1) = 2 * i + 1 + 1 by omega]
        simpa [un] using e
theorem bytes_bound (s : ByteArray) : ∀ x ∈ bytesOf s, 0 ≤ x ∧ x ≤ 255 := by
  intro x hx
  simp only [bytesOf, List.mem_map] at hx
  obtain ⟨b, -, rfl⟩ := hx
  have := b.toNat_lt
  omega
theorem back_and_forth (l : List UInt8) : List.map ((fun n : Int => UInt8.ofNat n.toNat) ∘ fun b : UInt8 => (b.toNat : Int)) l = l := by
  conv => rhs; rw [← List.map_id l]
  apply List.map_congr_left
  intro b _
  simp
theorem str_bytes (s : ByteArray) : strOfNums (bytesOf s) = s := by
  apply ByteArray.ext
  unfold strOfNums bytesOf
  rw [List.map_map, back_and_forth]
theorem bt_bytes (s : ByteArray) (i : Nat) : (bytesOf s).getD i 0 = bt s (i : Int) := by rw [← rd_bytesOf, rd_nat]
theorem bt_bound (s : ByteArray) (i : Nat) (hi : i < s.size) : 0 ≤ bt s (i : Int) ∧ bt s (i : Int) ≤ 255 := by
  rw [← bt_bytes, List.getD_eq_getElem?_getD, List.getElem?_eq_getElem (by rw [bytesOf_length]; exact hi)]
  exact bytes_bound s _ (List.getElem_mem _)
theorem or8 (x y : Int) (h0 : 0 ≤ x) (h1 : x ≤ 255) (h2 : 0 ≤ y) (h3 : y ≤ 255) : Go.bits .or .i64 (x * 256) y = x * 256 + y :=
  bits_join .i64 63 (by decide) wraps_i64 8 (x * 256) y (by omega) (by omega) (by omega) h2 (by omega) (by omega)
theorem get1 (s : ByteArray) (i : Nat) (hi : 2 * i + 1 < s.size) (hs : s.size ≤ 8589934592) : twin_Get.f s ((2 * i : Nat) : Int) = some (bt s ((2 * i : Nat) : Int) * 256 + bt s ((2 * i + 1 : Nat) : Int), true) := by
  have b0 := bt_bound s (2 * i) (by omega)
  have b1 := bt_bound s (2 * i + 1) hi
  have e : wrap64 (((2 * i : Nat) : Int) + 1) = ((2 * i + 1 : Nat) : Int) := by rw [w64 (by omega) (by omega)]; omega
  unfold twin_Get.f
  rw [if_neg (by omega), w64 (n := (s.size : Int) - 2) (by omega) (by omega), if_neg (by omega), if_pos (by omega), if_pos (by omega), e, if_pos (by omega), if_pos (by omega), w64 (n := bt s ((2 * i : Nat) : Int)) (by omega) (by omega), w64 (n := bt s ((2 * i : Nat) : Int) * 256) (by omega) (by omega), w64 (n := bt s ((2 * i + 1 : Nat) : Int)) (by omega) (by omega), or8 _ _ b0.1 b0.2 b1.1 b1.2]
theorem getAll_loop (s : ByteArray) (n : Nat) (hn : s.size = 2 * n) (hs : s.size ≤ 8589934592) (d : Nat) : ∀ (k i : Nat), i ≤ n → n - i = d → d < k →
    twin_GetAll.l0 k s ((un (bytesOf s)).take i ++ List.replicate (n - i) 0) (n : Int) (i : Int) = some (un (bytesOf s), true) := by
  have hu := (un_rg n (bytesOf s) (by rw [bytesOf_length]; exact hn) (bytes_bound s)).2
  induction d with
  | zero =>
    intro k i hi hd hk
    obtain ⟨k, rfl⟩ : ∃ m, k = m + 1 := ⟨k - 1, by omega⟩
    obtain rfl : i = n := by omega
    simp only [twin_GetAll.l0]
    rw [if_neg (by omega), Nat.sub_self, List.replicate_zero, List.append_nil, ← hu, List.take_length]
  | succ d ih =>
    intro k i hi hd hk
    obtain ⟨k, rfl⟩ : ∃ m, k = m + 1 := ⟨k - 1, by omega⟩
    have hlt : i < (un (bytesOf s)).length := by omega
    have e2 : wrap64 (2 * (i : Int)) = ((2 * i : Nat) : Int) := by rw [w64 (by omega) (by omega)]; omega
    have hwr : wrap64 ((i : Int) + 1) = ((i + 1 : Nat) : Int) := by rw [w64 (by omega) (by omega)]; omega
    have hv : bt s ((2 * i : Nat) : Int) * 256 + bt s ((2 * i + 1 : Nat) : Int) = (un (bytesOf s))[i] := by
      have e := un_get n (bytesOf s) i (by rw [bytesOf_length]; exact hn) (by omega)
      rw [bt_bytes, bt_bytes, List.getD_eq_getElem?_getD, List.getElem?_eq_getElem hlt] at e
      exact e.symm
    simp only [twin_GetAll.l0]
    rw [if_pos (by omega), e2, get1 s i (by omega) hs, Option.bind_some, if_pos (by omega), if_pos (by simp; omega), hwr, Int.toNat_natCast]
    have es : ((un (bytesOf s)).take i ++ List.replicate (n - i) 0).set i (bt s ((2 * i : Nat) : Int) * 256 + bt s ((2 * i + 1 : Nat) : Int)) = (un (bytesOf s)).take (i + 1) ++ List.replicate (n - (i + 1)) 0 := by
      have hl : ((un (bytesOf s)).take i).length = i := by rw [List.length_take]; omega
      rw [hv, List.set_append_right _ _ (by omega), hl, Nat.sub_self, show n - i = (n - (i + 1)) + 1 by omega, List.replicate_succ, List.set_cons_zero, List.take_succ_eq_append_getElem hlt, List.append_assoc]
      rfl
    rw [es]
    exact ih k (i + 1) (by omega) (by omega) (by omega)
def getAll (s : ByteArray) : List Int × Bool := if s.size % 2 = 1 then (([] : List Int), false) else (un (bytesOf s), true)
theorem getAll_eq (s : ByteArray) (hs : s.size ≤ 8589934592) (k : Nat) (hk : s.size < k) : twin_GetAll.f k s = some (getAll s) := by
  unfold twin_GetAll.f getAll
  rw [and1 _ (by omega) (by omega)]
  by_cases h : s.size % 2 = 1
  · rw [if_pos (by omega), if_pos h]
  · have e : wrap64 ((s.size : Int) / 2) = ((s.size / 2 : Nat) : Int) := by rw [w64 (by omega) (by omega)]; omega
    rw [if_neg (by omega), if_neg h, e, if_pos (by omega), if_pos (by rw [Int.toNat_natCast]; omega), Option.bind_some, Int.toNat_natCast, List.length_replicate]
    have hl := getAll_loop s (s.size / 2) (by omega) hs (s.size / 2) k 0 (by omega) (by omega) (by omega)
    simpa using hl
/-- The number of two bytes at a place. -/
def w16 (s : ByteArray) (i : Nat) : Int := bt s (i : Int) * 256 + bt s ((i + 1 : Nat) : Int)
theorem w16_rg (s : ByteArray) (i : Nat) : 0 ≤ w16 s i ∧ w16 s i ≤ 65535 := by
  unfold w16
  have h1 := bt_range s (i : Int)
  have h2 := bt_range s ((i + 1 : Nat) : Int)
  omega
theorem bytes_extract (s : ByteArray) (m i : Nat) (hi : i < m) : (bytesOf (s.extract 0 m)).getD i 0 = (bytesOf s).getD i 0 := by
  unfold bytesOf
  simp only [ByteArray.data_extract, Array.toList_extract, List.drop_zero, Nat.sub_zero, List.getD_eq_getElem?_getD, List.getElem?_map, List.extract_eq_take_drop, Nat.sub_zero]
  rw [List.getElem?_take_of_lt hi]
theorem un_at (s : ByteArray) (n i : Nat) (hs : 2 * n ≤ s.size) (hi : i < n) : (un (bytesOf (s.extract 0 (2 * n)))).getD i 0 = w16 s (2 * i) := by
  have hl : (bytesOf (s.extract 0 (2 * n))).length = 2 * n := by
    rw [bytesOf_length, ByteArray.size_extract]; omega
  rw [un_get n _ i hl hi, bytes_extract s _ _ (by omega), bytes_extract s _ _ (by omega), bt_bytes, bt_bytes]
  rfl
theorem un_len (s : ByteArray) (n : Nat) (hs : 2 * n ≤ s.size) : (un (bytesOf (s.extract 0 (2 * n)))).length = n :=
  (un_rg n _ (by rw [bytesOf_length, ByteArray.size_extract]; omega) (bytes_bound _)).2
theorem of_toList {a b : ByteArray} (h : (a.toList == b.toList) = true) : a = b := by
  have e := eq_of_beq h
  rw [ByteArray.toList_eq, ByteArray.toList_eq] at e
  exact ByteArray.ext (Array.ext' e)
end Go.Proofs.Ytinoabkfekomcaa.RepAskSizes
namespace Go.Proofs.Ytinoabkfekomcaa.AskAskSizes
open Go Go.RowKit Go.Proofs.Ytinoabkfekomcaa.PAskSizes Go.Proofs.YtinoabkfekomcaaW.PrintWords Go.Proofs.YtinoabkfekomcaaW.PrintLast Go.Proofs.Ytinoabkfekomcaa.Base Go.Proofs.Ytinoabkfekomcaa.RepAskSizes Go.Proofs.Ytinoabkfekomcaa.CoilAskSizes Go.Proofs.Ytinoabkfekomcaa.Coil
set_option maxRecDepth 100000
set_option linter.unusedVariables false
/-- How many bytes a right request has. -/
def lenP (a0 a4 : Int) : Int := if a0 = 15 then 6 + (a4 + 7) / 8 else if a0 = 16 then 6 + 2 * a4 else if a0 = 22 then 7 else if a0 = 23 then 10 + 2 * a4 else 5
theorem right_size {a0 a1 a2 a3 a4 : Int} {l : List Int} (h : Rt a0 a1 a2 a3 a4 l) :
    ((strOfNums (putL a0 a1 a2 a3 a4 l)).size : Int) = lenP a0 a4 ∧ bt (strOfNums (putL a0 a1 a2 a3 a4 l)) 0 = a0 ∧ 0 < (strOfNums (putL a0 a1 a2 a3 a4 l)).size ∧ 1 ≤ a0 ∧ a0 ≤ 23 ∧ 0 ≤ a4 ∧ a4 ≤ 1968 ∧ (a0 = 16 ∨ a0 = 23 → a4 ≤ 123) ∧ l.length ≤ 2000 := by
  rcases h with ⟨h0, h1, h2, hl, hg⟩ | ⟨h0, h1, h2, hl, hg⟩ | ⟨rfl, h1, h2, hl, hg⟩ | ⟨rfl, h1, h2, hl, hg⟩ | ⟨rfl, h1, h2, hl, hg⟩ | ⟨rfl, h1, h2, hl, hg⟩ | ⟨rfl, h1, h2, hl, hg⟩ | ⟨rfl, h1, h2, hl, hg⟩
  · have e : putL a0 a1 a2 a3 a4 l = [a0] ++ be [a1, a2] := by unfold putL; rw [if_pos (by omega)]
    rw [e]
    refine ⟨?_, bt_head' a0 _ (by omega) (by omega), by rw [strOfNums_size]; simp, by omega, by omega, by omega, by omega, by omega, by omega⟩
    unfold lenP
    rw [if_neg (by omega), if_neg (by omega), if_neg (by omega), if_neg (by omega), strOfNums_size]; rfl
  · have e : putL a0 a1 a2 a3 a4 l = [a0] ++ be [a1, a2] := by unfold putL; rw [if_pos (by omega)]
    rw [e]
    refine ⟨?_, bt_head' a0 _ (by omega) (by omega), by rw [strOfNums_size]; simp, by omega, by omega, by omega, by omega, by omega, by omega⟩
    unfold lenP
    rw [if_neg (by omega), if_neg (by omega), if_neg (by omega), if_neg (by omega), strOfNums_size]; rfl
  · exact ⟨by rw [strOfNums_size]; rfl, bt_head' 5 _ (by omega) (by omega), by rw [strOfNums_size]; exact Nat.succ_pos _, by omega, by omega, by omega, by omega, by omega, by omega⟩
  · exact ⟨by rw [strOfNums_size]; rfl, bt_head' 6 _ (by omega) (by omega), by rw [strOfNums_size]; exact Nat.succ_pos _, by omega, by omega, by omega, by omega, by omega, by omega⟩
  · refine ⟨?_, bt_head' 15 _ (by omega) (by omega), by rw [strOfNums_size]; exact Nat.succ_pos _, by omega, by omega, by omega, by omega, by omega, by omega⟩
    rw [strOfNums_size]; unfold putL lenP
    rw [if_neg (by decide), if_neg (by decide), if_neg (by decide), if_pos rfl, if_pos rfl]
    simp only [List.length_append, be_length, pack_length, List.length_cons, List.length_nil]
    omega
  · refine ⟨?_, bt_head' 16 _ (by omega) (by omega), by rw [strOfNums_size]; exact Nat.succ_pos _, by omega, by omega, by omega, by omega, by omega, by omega⟩
    rw [strOfNums_size]; unfold putL lenP
    rw [if_neg (by decide), if_neg (by decide), if_neg (by decide), if_neg (by decide), if_pos rfl, if_neg (by decide), if_pos rfl]
    simp only [List.length_append, be_length, List.length_cons, List.length_nil]
    omega
  · exact ⟨by rw [strOfNums_size]; rfl, bt_head' 22 _ (by omega) (by omega), by rw [strOfNums_size]; exact Nat.succ_pos _, by omega, by omega, by omega, by omega, by omega, by omega⟩
  · refine ⟨?_, bt_head' 23 _ (by omega) (by omega), by rw [strOfNums_size]; exact Nat.succ_pos _, by omega, by omega, by omega, by omega, by omega, by omega⟩
    rw [strOfNums_size]; unfold putL lenP
    rw [if_neg (by decide), if_neg (by decide), if_neg (by decide), if_neg (by decide), if_neg (by decide), if_neg (by decide), if_neg (by decide), if_neg (by decide), if_neg (by decide), if_pos rfl]
    simp only [List.length_append, be_length, List.length_cons, List.length_nil]
    omega
/-- Put, told: a right request's bytes, or none. -/
theorem put_told (a0 a1 a2 a3 a4 : Int) (l : List Int) : (rightP a0 a1 a2 a3 a4 l = true ∧ Rt a0 a1 a2 a3 a4 l ∧ ask_Put.f 5000 a0 a1 a2 a3 a4 l = some (strOfNums (putL a0 a1 a2 a3 a4 l), true)) ∨
    (rightP a0 a1 a2 a3 a4 l = false ∧ ask_Put.f 5000 a0 a1 a2 a3 a4 l = some ((⟨#[]⟩ : ByteArray), false)) := by
  cases hr : rightP a0 a1 a2 a3 a4 l
  · exact .inr ⟨rfl, put_wrong hr _ (by decide)⟩
  · exact .inl ⟨rfl, rt_of hr, put_right (rt_of hr) hr _ (by decide)⟩
end Go.Proofs.Ytinoabkfekomcaa.AskAskSizes
