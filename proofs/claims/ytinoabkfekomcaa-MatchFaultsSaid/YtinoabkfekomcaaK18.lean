/- Texts of this claim, put together (wip/pack.py): ReplyMore. -/
import Derived.Test.YtinoabkfekomcaaK8
import Derived.Test.YtinoabkfekomcaaK17
import Derived.Test.YtinoabkfekomcaaK16
namespace Go.Proofs.Ytinoabkfekomcaa.RepAskSizes
open Go.RowKit Go.Proofs.Ytinoabkfekomcaa.PAskSizes Go.Proofs.YtinoabkfekomcaaW.PrintWords Go.Proofs.YtinoabkfekomcaaW.PrintLast Go.Proofs.Ytinoabkfekomcaa.Base Go.Proofs.Ytinoabkfekomcaa.Coil Go.Proofs.Ytinoabkfekomcaa.CoilAskSizes
/-- What a right request of the kinds that are echoed begins with. -/
def echoL (a0 a3 a4 : Int) (l : List Int) : List Int :=
  if a0 = 5 then [a0] ++ be [a3, rd l 0 * 65280] else if a0 = 6 then [a0] ++ be [a3, rd l 0] else if a0 = 22 then [a0] ++ be [a3, rd l 0, rd l 1] else [a0] ++ be [a3, a4]
def echoB (a0 : Int) : Bool := a0 == 5 || (a0 == 6 || (a0 == 15 || (a0 == 16 || a0 == 22)))
theorem echo_eq {a0 a1 a2 a3 a4 : Int} {l : List Int} (h : Rt a0 a1 a2 a3 a4 l) (hr : rightP a0 a1 a2 a3 a4 l = true) (k : Nat) (hk : 4000 ≤ k) :
    reply_echo.f k a0 a1 a2 a3 a4 l = some (if echoB a0 then (strOfNums (echoL a0 a3 a4 l), true) else ((⟨#[]⟩ : ByteArray), false)) := by
  obtain ⟨k, rfl⟩ : ∃ m, k = m + 1 := ⟨k - 1, by omega⟩
  unfold reply_echo.f ask_Put.f
  rw [right_eq _ _ _ _ _ _ _ (by omega), hr, Option.bind_some, if_pos rfl]
  unfold ask_Put.body
  simp only [reply_echo.j0]
  rcases h with ⟨h0, h1, h2, hl, hg⟩ | ⟨h0, h1, h2, hl, hg⟩ | ⟨rfl, h1, h2, hl, hg⟩ | ⟨rfl, h1, h2, hl, hg⟩ | ⟨rfl, h1, h2, hl, hg⟩ | ⟨rfl, h1, h2, hl, hg⟩ | ⟨rfl, h1, h2, hl, hg⟩ | ⟨rfl, h1, h2, hl, hg⟩
  · rw [if_pos (by omega), two_eq _ _ _ _ (by simp; omega) (by simp) (by simp) (rg_two (by omega) (by omega)), Option.bind_some]
    rcases h0 with rfl | rfl <;> rfl
  · rw [if_pos (by omega), two_eq _ _ _ _ (by simp; omega) (by simp) (by simp) (rg_two (by omega) (by omega)), Option.bind_some]
    rcases h0 with rfl | rfl <;> rfl
  · have hv : 0 ≤ rd l 0 ∧ rd l 0 ≤ 1 := rd_rg hg 0 (by omega)
    rw [if_neg (by decide), if_pos rfl, if_pos (by omega), w64 (by omega) (by omega), two_eq _ _ _ _ (by simp; omega) (by simp) (by simp) (rg_two (by omega) (by omega)), Option.bind_some]
    rfl
  · have hv : 0 ≤ rd l 0 ∧ rd l 0 ≤ 65535 := rd_rg hg 0 (by omega)
    rw [if_neg (by decide), if_neg (by decide), if_pos rfl, if_pos (by omega), two_eq _ _ _ _ (by simp; omega) (by simp) (by simp) (rg_two (by omega) hv), Option.bind_some]
    rfl
  · rw [if_neg (by decide), if_neg (by decide), if_neg (by decide), if_pos rfl, two_eq _ _ _ _ (by simp; omega) (by simp) (by simp) (rg_two (by omega) (by omega)), put_eq l (by omega) _ (by omega), Option.bind_some, put_yes (bits_of_rg hg),
      if_pos (by rw [strOfNums_size, pack_length]; simp [be_length]; omega), Option.bind_some]
    simp only []
    rw [if_neg (by decide), if_neg (by decide), if_neg (by decide), if_pos True.intro, if_pos (by decide), if_pos (by rw [strOfNums_size]; simp [be_length]; omega), extract_strOfNums]
    rfl
  · rw [if_neg (by decide), if_neg (by decide), if_neg (by decide), if_neg (by decide), if_pos rfl, two_eq _ _ _ _ (by simp; omega) (by simp) (by simp) (rg_two (by omega) (by omega)), if_pos (by simp [be_length]),
      two_eq _ _ _ _ (by omega) (by simp [be_length]) (by omega) hg, Option.bind_some]
    simp only []
    rw [if_neg (by decide), if_neg (by decide), if_neg (by decide), if_neg (by decide), if_pos True.intro, if_pos (by decide), if_pos (by rw [strOfNums_size]; simp [be_length]; omega), extract_strOfNums]
    rfl
  · have hv : 0 ≤ rd l 0 ∧ rd l 0 ≤ 65535 := rd_rg hg 0 (by omega)
    have hu : 0 ≤ rd l 1 ∧ rd l 1 ≤ 65535 := rd_rg hg 1 (by omega)
    rw [if_neg (by decide), if_neg (by decide), if_neg (by decide), if_neg (by decide), if_neg (by decide), if_pos rfl, if_pos (by omega), two_eq _ _ _ _ (by simp; omega) (by simp) (by simp) (by
      intro v hm; simp only [List.mem_cons, List.not_mem_nil, or_false] at hm; rcases hm with rfl | rfl | rfl
      · omega
      · exact hv
      · exact hu), Option.bind_some]
    rfl
  · rw [if_neg (by decide), if_neg (by decide), if_neg (by decide), if_neg (by decide), if_neg (by decide), if_neg (by decide), if_pos rfl, two_eq _ _ _ _ (by simp; omega) (by simp) (by simp) (by
      intro v hm; simp only [List.mem_cons, List.not_mem_nil, or_false] at hm; rcases hm with rfl | rfl | rfl | rfl <;> omega), if_pos (by simp [be_length]),
      two_eq _ _ _ _ (by omega) (by simp [be_length]) (by omega) hg, Option.bind_some]
    rfl
def packP (a0 : Int) (l1 : List Int) : ByteArray × Bool := if a0 < 3 then put l1 else putAll l1
theorem packP_size (a0 : Int) (l1 : List Int) : (packP a0 l1).1.size ≤ 2 * l1.length := by
  have e : (⟨#[]⟩ : ByteArray).size = 0 := rfl
  unfold packP put putAll
  split <;> split <;> simp only [e, strOfNums_size, pack_length, be_length] <;> omega
def makeP (a0 a1 a2 a3 a4 : Int) (l l1 : List Int) : ByteArray × Bool :=
  if rightP a0 a1 a2 a3 a4 l = true ∧ (l1.length : Int) = a2 then
    (if echoB a0 then (strOfNums (echoL a0 a3 a4 l), true)
     else if (packP a0 l1).2 then (strOfNums [a0, (packP a0 l1).1.size] ++ (packP a0 l1).1, true) else ((⟨#[]⟩ : ByteArray), false))
  else ((⟨#[]⟩ : ByteArray), false)
theorem rt_of_len {a0 a1 a2 a3 a4 : Int} {l : List Int} (h : Rt a0 a1 a2 a3 a4 l) : 1 ≤ a0 ∧ a0 ≤ 23 ∧ 0 ≤ a2 ∧ a2 ≤ 2000 ∧ (3 ≤ a0 → a2 ≤ 125) := by
  rcases h with ⟨h0, h1, h2, hl, hg⟩ | ⟨h0, h1, h2, hl, hg⟩ | ⟨rfl, h1, h2, hl, hg⟩ | ⟨rfl, h1, h2, hl, hg⟩ | ⟨rfl, h1, h2, hl, hg⟩ | ⟨rfl, h1, h2, hl, hg⟩ | ⟨rfl, h1, h2, hl, hg⟩ | ⟨rfl, h1, h2, hl, hg⟩ <;> omega
theorem make_yes {a0 a1 a2 a3 a4 : Int} {l l1 : List Int} (h : (makeP a0 a1 a2 a3 a4 l l1).2 = true) : rightP a0 a1 a2 a3 a4 l = true ∧ Rt a0 a1 a2 a3 a4 l ∧ (l1.length : Int) = a2 ∧
    ((echoB a0 = true ∧ makeP a0 a1 a2 a3 a4 l l1 = (strOfNums (echoL a0 a3 a4 l), true)) ∨
     (echoB a0 = false ∧ (packP a0 l1).2 = true ∧ makeP a0 a1 a2 a3 a4 l l1 = (strOfNums [a0, (packP a0 l1).1.size] ++ (packP a0 l1).1, true))) := by
  unfold makeP at h ⊢
  by_cases hc : rightP a0 a1 a2 a3 a4 l = true ∧ (l1.length : Int) = a2
  · rw [if_pos hc] at h ⊢
    refine ⟨hc.1, rt_of hc.1, hc.2, ?_⟩
    cases he : echoB a0
    · rw [he] at h
      rw [if_neg (by decide)] at h ⊢
      cases hp : (packP a0 l1).2
      · rw [hp, if_neg (by decide)] at h; cases h
      · exact .inr ⟨rfl, rfl, by rw [if_pos rfl]⟩
    · exact .inl ⟨rfl, by rw [if_pos rfl]⟩
  · rw [if_neg hc] at h; cases h
theorem make_no {a0 a1 a2 a3 a4 : Int} {l l1 : List Int} (h : ¬ (makeP a0 a1 a2 a3 a4 l l1).2 = true) : makeP a0 a1 a2 a3 a4 l l1 = ((⟨#[]⟩ : ByteArray), false) := by
  unfold makeP at h ⊢
  split
  · rename_i hc
    rw [if_pos hc] at h
    split
    · rename_i he; rw [if_pos he] at h; exact absurd rfl h
    · rename_i he
      rw [if_neg he] at h
      split
      · rename_i hp; rw [if_pos hp] at h; exact absurd rfl h
      · rfl
  · rfl
theorem put_ok {l : List Int} (h : (put l).2 = true) : Bits l ∧ put l = (strOfNums (pack l), true) := by
  by_cases hb : Bits l
  · exact ⟨hb, put_yes hb⟩
  · rw [put_no hb] at h; cases h
theorem putAll_ok {l : List Int} (h : (putAll l).2 = true) : Rg 65535 l ∧ putAll l = (strOfNums (be l), true) := by
  by_cases hb : Rg 65535 l
  · exact ⟨hb, putAll_yes hb⟩
  · rw [putAll_no hb] at h; cases h
noncomputable def unpackP (a0 a1 : Int) (s : ByteArray) : List Int × Bool :=
  if a0 < 3 then get s a1 else ((getAll s).1, (getAll s).2 && (((getAll s).1.length : Int) == a1))
theorem unpack_eq (a0 a1 : Int) (s : ByteArray) (hs : s.size ≤ 300) (h1 : a1 ≤ 1099511627776) (k : Nat) (hk : 4000 ≤ k) : reply_unpack.f k a0 a1 s = some (unpackP a0 a1 s) := by
  unfold reply_unpack.f unpackP
  split
  · rw [get_eq _ _ (by omega) h1 _ (by omega)]; rfl
  · rw [getAll_eq _ (by omega) _ (by omega), Option.bind_some]
    cases (getAll s).2 <;> rfl
/-- What a response tells. -/
noncomputable def dataP (a0 a1 a2 a3 a4 : Int) (l : List Int) (s : ByteArray) : List Int × Bool :=
  if rightP a0 a1 a2 a3 a4 l = true then
    (if echoB a0 = true then (([] : List Int), ((strOfNums (echoL a0 a3 a4 l)).toList == s.toList))
     else if 2 ≤ s.size ∧ bt s 0 = a0 ∧ bt s 1 = (s.size : Int) - 2 then (if (unpackP a0 a2 (s.extract 2 s.size)).2 = true then ((unpackP a0 a2 (s.extract 2 s.size)).1, true) else (([] : List Int), false))
     else (([] : List Int), false))
  else (([] : List Int), false)
theorem data_eq (a0 a1 a2 a3 a4 : Int) (l : List Int) (s : ByteArray) (hs : s.size ≤ 300) (k : Nat) (hk : 4001 ≤ k) : reply_Data.f k a0 a1 a2 a3 a4 l s = some (dataP a0 a1 a2 a3 a4 l s) := by
  obtain ⟨k, rfl⟩ : ∃ m, k = m + 1 := ⟨k - 1, by omega⟩
  unfold reply_Data.f dataP
  simp only [reply_Data.j0]
  rw [right_eq _ _ _ _ _ _ _ (by omega), Option.bind_some]
  by_cases hr : rightP a0 a1 a2 a3 a4 l = true
  · have ht := rt_of hr
    have hb := rt_of_len ht
    rw [if_pos hr, if_pos hr, echo_eq ht hr _ (by omega), Option.bind_some]
    by_cases he : echoB a0 = true
    · rw [if_pos he, if_pos rfl, if_pos he]
    · rw [if_neg he, if_neg (by decide), if_neg he]
      by_cases h2 : s.size < 2
      · rw [if_pos (by omega), if_pos True.intro, if_neg (by omega)]
      · have b0 := bt_bound s 0 (by omega)
        have b1 := bt_bound s 1 (by omega)
        rw [show ((0 : Nat) : Int) = 0 from rfl] at b0
        rw [show ((1 : Nat) : Int) = 1 from rfl] at b1
        rw [if_neg (by omega), if_pos (by omega), w64 (n := bt s 0) (by omega) (by omega)]
        by_cases h0 : bt s 0 = a0
        · rw [if_pos h0, if_pos (by omega), w64 (n := bt s 1) (by omega) (by omega), w64 (n := (s.size : Int) - 2) (by omega) (by omega)]
          by_cases h1 : bt s 1 = (s.size : Int) - 2
          · rw [if_neg (by simpa using h1), if_pos (by omega), if_pos ⟨by omega, h0, h1⟩, unpack_eq _ _ _ (by rw [ByteArray.size_extract]; omega) (by omega) _ (by omega), Option.bind_some]
            by_cases h3 : (unpackP a0 a2 (s.extract 2 s.size)).2 = true
            · rw [if_pos h3, if_pos h3]
            · rw [if_neg h3, if_neg h3]
          · rw [if_pos (by simpa using h1), if_neg (fun h => h1 h.2.2)]
        · rw [if_neg h0, if_pos True.intro, if_neg (fun h => h0 h.2.1)]
  · rw [if_neg hr, if_neg hr]
/-- Two bytes and the rest. -/
theorem two_rest (s : ByteArray) (h : 2 ≤ s.size) : strOfNums [bt s 0, bt s 1] ++ s.extract 2 s.size = s := by
  have e0 : bt s 0 = (bytesOf s).getD 0 0 := (bt_bytes s 0).symm
  have e1 : bt s 1 = (bytesOf s).getD 1 0 := (bt_bytes s 1).symm
  have hx : s.extract 2 s.size = strOfNums ((bytesOf s).drop 2) := by
    apply ByteArray.ext
    apply Array.ext'
    unfold strOfNums bytesOf
    rw [← List.map_drop, List.map_map, back_and_forth]
    simp [ByteArray.data_extract]
    rw [List.take_of_length_le (by rw [List.length_drop, data_length]; omega)]
  rw [hx, ← strOfNums_append, e0, e1]
  have hl : 2 ≤ (bytesOf s).length := by rw [bytesOf_length]; exact h
  conv => rhs; rw [← str_bytes s]
  congr 1
  match bytesOf s, hl with
  | a :: b :: t, _ => rfl
theorem rest_of (a b : Int) (s : ByteArray) : (strOfNums [a, b] ++ s).extract 2 (strOfNums [a, b] ++ s).size = s := by
  apply ByteArray.ext
  apply Array.ext'
  simp [strOfNums, ByteArray.size_append, ByteArray.data_extract, ByteArray.data_append]
  rw [List.take_of_length_le (by rw [data_length]; show s.size ≤ 2 + s.size - 2; omega)]
theorem bt_one (a b : Int) (h0 : 0 ≤ b) (h1 : b ≤ 255) (s : ByteArray) : bt (strOfNums [a, b] ++ s) 1 = b := by
  have e : bytesOf (strOfNums [a, b] ++ s) = ((UInt8.ofNat a.toNat).toNat : Int) :: b :: bytesOf s := by
    simp [bytesOf, strOfNums]
    omega
  rw [← rd_bytesOf, e]
  rfl
theorem rt_kinds {a0 a1 a2 a3 a4 : Int} {l : List Int} (h : Rt a0 a1 a2 a3 a4 l) :
    (echoB a0 = true ∧ a2 = 0) ∨ (echoB a0 = false ∧ a0 < 3 ∧ 1 ≤ a0 ∧ 1 ≤ a2 ∧ a2 ≤ 2000) ∨ (echoB a0 = false ∧ ¬ a0 < 3 ∧ a0 ≤ 23 ∧ 1 ≤ a2 ∧ a2 ≤ 125) := by
  rcases h with ⟨h0, h1, _⟩ | ⟨h0, h1, _⟩ | ⟨rfl, h1, _⟩ | ⟨rfl, h1, _⟩ | ⟨rfl, h1, _⟩ | ⟨rfl, h1, _⟩ | ⟨rfl, h1, _⟩ | ⟨rfl, h1, _⟩
  · exact .inr (.inl ⟨by rcases h0 with rfl | rfl <;> rfl, by omega, by omega, by omega, by omega⟩)
  · exact .inr (.inr ⟨by rcases h0 with rfl | rfl <;> rfl, by omega, by omega, by omega, by omega⟩)
  · exact .inl ⟨rfl, h1.2⟩
  · exact .inl ⟨rfl, h1.2⟩
  · exact .inl ⟨rfl, h1.2⟩
  · exact .inl ⟨rfl, h1.2⟩
  · exact .inl ⟨rfl, h1.2⟩
  · exact .inr (.inr ⟨rfl, by omega, by omega, by omega, by omega⟩)
theorem echoL_size (a0 a3 a4 : Int) (l : List Int) : (echoL a0 a3 a4 l).length ≤ 7 := by
  unfold echoL
  split
  · simp [be]
  split
  · simp [be]
  split
  · simp [be]
  · simp [be]
/-- A response that is made is one, of its data. -/
theorem made {a0 a1 a2 a3 a4 : Int} {l l1 : List Int} (h : (makeP a0 a1 a2 a3 a4 l l1).2 = true) :
    dataP a0 a1 a2 a3 a4 l (makeP a0 a1 a2 a3 a4 l l1).1 = (l1, true) ∧ (makeP a0 a1 a2 a3 a4 l l1).1.size ≤ 253 := by
  obtain ⟨hr, ht, hn, hs⟩ := make_yes h
  have hk := rt_kinds ht
  have hb := rt_of_len ht
  rcases hs with ⟨he, hm⟩ | ⟨he, hp, hm⟩
  · rw [hm]
    rw [he] at hk
    obtain ⟨-, h2⟩ | ⟨h, -⟩ | ⟨h, -⟩ := hk
    · obtain rfl : l1 = [] := List.eq_nil_of_length_eq_zero (by omega)
      refine ⟨?_, ?_⟩
      · unfold dataP
        rw [if_pos hr, if_pos he]
        simp
      · have := echoL_size a0 a3 a4 l
        show (strOfNums (echoL a0 a3 a4 l)).size ≤ 253
        rw [strOfNums_size]; omega
    · cases h
    · cases h
  · rw [hm]
    rw [he] at hk
    obtain ⟨h, -⟩ | ⟨-, h3, h4, h5, h6⟩ | ⟨-, h3, h4, h5, h6⟩ := hk
    · cases h
    · have e : packP a0 l1 = put l1 := if_pos h3
      rw [e] at hp ⊢
      obtain ⟨hbits, hp⟩ := put_ok hp
      rw [hp]
      dsimp only
      have hps : (strOfNums (pack l1)).size = (l1.length + 7) / 8 := by rw [strOfNums_size, pack_length]
      have hsz : (strOfNums [a0, ((strOfNums (pack l1)).size : Int)] ++ strOfNums (pack l1)).size = 2 + (strOfNums (pack l1)).size := by
        rw [ByteArray.size_append, strOfNums_size]; rfl
      have hu : unpackP a0 a2 (strOfNums (pack l1)) = (l1, true) := by
        unfold unpackP
        rw [if_pos h3, ← hn, get_yes hps (clean_pack hbits), bitsOf_pack hbits]
      refine ⟨?_, by rw [hsz]; omega⟩
      unfold dataP
      rw [if_pos hr, if_neg (by rw [he]; decide), if_pos ⟨by rw [hsz]; omega, bt_head _ _ (by omega) (by omega) _, by rw [bt_one _ _ (by omega) (by omega) _, hsz]; omega⟩, rest_of, hu, if_pos rfl]
    · have e : packP a0 l1 = putAll l1 := if_neg h3
      rw [e] at hp ⊢
      obtain ⟨hrg, hp⟩ := putAll_ok hp
      rw [hp]
      dsimp only
      have hps : (strOfNums (be l1)).size = 2 * l1.length := by rw [strOfNums_size, be_length]
      have hsz : (strOfNums [a0, ((strOfNums (be l1)).size : Int)] ++ strOfNums (be l1)).size = 2 + (strOfNums (be l1)).size := by
        rw [ByteArray.size_append, strOfNums_size]; rfl
      have hu : unpackP a0 a2 (strOfNums (be l1)) = (l1, true) := by
        unfold unpackP getAll
        rw [if_neg h3, if_neg (by omega), bytesOf_strOfNums (be_bound l1), un_be hrg]
        simp [hn]
      refine ⟨?_, by rw [hsz]; omega⟩
      unfold dataP
      rw [if_pos hr, if_neg (by rw [he]; decide), if_pos ⟨by rw [hsz]; omega, bt_head _ _ (by omega) (by omega) _, by rw [bt_one _ _ (by omega) (by omega) _, hsz]; omega⟩, rest_of, hu, if_pos rfl]
/-- A response that is one is made of its data. -/
theorem told {a0 a1 a2 a3 a4 : Int} {l : List Int} {s : ByteArray} (h : (dataP a0 a1 a2 a3 a4 l s).2 = true) : makeP a0 a1 a2 a3 a4 l (dataP a0 a1 a2 a3 a4 l s).1 = (s, true) := by
  by_cases hr : rightP a0 a1 a2 a3 a4 l = true
  · have ht := rt_of hr
    have hk := rt_kinds ht
    have hb := rt_of_len ht
    unfold dataP at h ⊢
    rw [if_pos hr] at h ⊢
    by_cases he : echoB a0 = true
    · rw [if_pos he] at h ⊢
      rw [he] at hk
      obtain ⟨-, h2⟩ | ⟨hc, -⟩ | ⟨hc, -⟩ := hk
      · unfold makeP
        rw [if_pos (show rightP a0 a1 a2 a3 a4 l = true ∧ ((([] : List Int), ((strOfNums (echoL a0 a3 a4 l)).toList == s.toList)).1.length : Int) = a2 from ⟨hr, by rw [h2]; rfl⟩), if_pos he, of_toList h]
      · cases hc
      · cases hc
    · rw [if_neg he] at h ⊢
      by_cases hc : 2 ≤ s.size ∧ bt s 0 = a0 ∧ bt s 1 = (s.size : Int) - 2
      · rw [if_pos hc] at h ⊢
        by_cases hu : (unpackP a0 a2 (s.extract 2 s.size)).2 = true
        · rw [if_pos hu]
          have hrest : (s.extract 2 s.size).size = s.size - 2 := by rw [ByteArray.size_extract]; omega
          have hfin : strOfNums [a0, ((s.extract 2 s.size).size : Int)] ++ s.extract 2 s.size = s := by
            have e := two_rest s hc.1
            rw [hc.2.1, hc.2.2] at e
            rw [hrest]
            rwa [show ((s.size - 2 : Nat) : Int) = (s.size : Int) - 2 by omega]
          have hf : echoB a0 = false := by simpa using he
          rw [hf] at hk
          obtain ⟨hc', -⟩ | ⟨-, h3, h4, h5, h6⟩ | ⟨-, h3, h4, h5, h6⟩ := hk
          · cases hc'
          · unfold unpackP at hu ⊢
            rw [if_pos h3] at hu ⊢
            by_cases hg : 0 ≤ a2 ∧ a2 ≤ 8 * ((s.extract 2 s.size).size : Int) ∧ (s.extract 2 s.size).size = (a2.toNat + 7) / 8 ∧ clean (s.extract 2 s.size) a2.toNat
            · have eg : get (s.extract 2 s.size) a2 = (bitsOf (s.extract 2 s.size) a2.toNat, true) := by unfold CoilAskSizes.get; rw [if_pos hg]
              rw [eg]
              have ep : packP a0 (bitsOf (s.extract 2 s.size) a2.toNat) = (s.extract 2 s.size, true) := by
                unfold packP
                rw [if_pos h3, put_yes (bitsOf_bits _ _), pack_bitsOf hg.2.2.1 hg.2.2.2]
              unfold makeP
              rw [if_pos (show rightP a0 a1 a2 a3 a4 l = true ∧ ((bitsOf (s.extract 2 s.size) a2.toNat).length : Int) = a2 from ⟨hr, by rw [bitsOf_length]; omega⟩), if_neg he, ep, if_pos rfl, hfin]
            · have eg : get (s.extract 2 s.size) a2 = (([] : List Int), false) := by unfold CoilAskSizes.get; rw [if_neg hg]
              rw [eg] at hu; cases hu
          · unfold unpackP at hu ⊢
            rw [if_neg h3] at hu ⊢
            by_cases hg : (s.extract 2 s.size).size % 2 = 1
            · have eg : getAll (s.extract 2 s.size) = (([] : List Int), false) := if_pos hg
              rw [eg] at hu; cases hu
            · have eg : getAll (s.extract 2 s.size) = (un (bytesOf (s.extract 2 s.size)), true) := if_neg hg
              rw [eg] at hu ⊢
              have hl : (bytesOf (s.extract 2 s.size)).length = 2 * ((s.extract 2 s.size).size / 2) := by rw [bytesOf_length]; omega
              have hrg := (un_rg _ _ hl (bytes_bound _)).1
              have ep : packP a0 (un (bytesOf (s.extract 2 s.size))) = (s.extract 2 s.size, true) := by
                unfold packP
                rw [if_neg h3, putAll_yes hrg, be_un _ _ hl (bytes_bound _), str_bytes]
              unfold makeP
              rw [if_pos (show rightP a0 a1 a2 a3 a4 l = true ∧ ((un (bytesOf (s.extract 2 s.size))).length : Int) = a2 from ⟨hr, by simpa using hu⟩), if_neg he, ep, if_pos rfl, hfin]
        · rw [if_neg hu] at h; cases h
      · rw [if_neg hc] at h; cases h
  · unfold dataP at h
    rw [if_neg hr] at h; cases h
theorem data_wf (a0 a1 a2 a3 a4 : Int) (l : List Int) (s : ByteArray) (hs : s.size ≤ 300) : Wf (dataP a0 a1 a2 a3 a4 l s).1 ∧ (dataP a0 a1 a2 a3 a4 l s).1.length ≤ 3000 := by
  have nil : Wf ([] : List Int) ∧ ([] : List Int).length ≤ 3000 := ⟨fun x hx => (by cases hx), by decide⟩
  unfold dataP
  split
  · split
    · exact nil
    split
    · rename_i hc
      split
      · have hrest : (s.extract 2 s.size).size = s.size - 2 := by rw [ByteArray.size_extract]; omega
        unfold unpackP
        split
        · unfold CoilAskSizes.get
          split
          · exact ⟨rg_wf (fun x hx => by have := bitsOf_bits _ _ x hx; omega), by rw [bitsOf_length]; omega⟩
          · exact nil
        · unfold getAll
          split
          · exact nil
          · rename_i hg
            have hl : (bytesOf (s.extract 2 s.size)).length = 2 * ((s.extract 2 s.size).size / 2) := by rw [bytesOf_length]; omega
            have h2 := un_rg _ _ hl (bytes_bound _)
            refine ⟨rg_wf h2.1, ?_⟩
            have := h2.2
            show (un (bytesOf (s.extract 2 s.size))).length ≤ 3000
            omega
      · exact nil
    · exact nil
  · exact nil
def codeP (a : Int) : Bool := (decide (1 ≤ a) && decide (a ≤ 6)) || (a == 8 || (a == 10 || a == 11))
theorem code_eq (a : Int) : reply_Code.f a = some (codeP a) := by
  unfold reply_Code.f codeP
  by_cases h1 : a = 1
  · subst h1; rfl
  by_cases h2 : a = 2
  · subst h2; rfl
  by_cases h3 : a = 3
  · subst h3; rfl
  by_cases h4 : a = 4
  · subst h4; rfl
  by_cases h5 : a = 5
  · subst h5; rfl
  by_cases h6 : a = 6
  · subst h6; rfl
  by_cases h8 : a = 8
  · subst h8; rfl
  by_cases h10 : a = 10
  · subst h10; rfl
  by_cases h11 : a = 11
  · subst h11; rfl
  rw [if_neg h1, if_neg h2, if_neg h3, if_neg h4, if_neg h5, if_neg h6, if_neg h8, if_neg h10, if_neg h11]
  simp [h8, h10, h11]
  omega
theorem code_bound {a : Int} (h : codeP a = true) : 1 ≤ a ∧ a ≤ 11 := by
  unfold codeP at h
  simp at h
  omega
end Go.Proofs.Ytinoabkfekomcaa.RepAskSizes
