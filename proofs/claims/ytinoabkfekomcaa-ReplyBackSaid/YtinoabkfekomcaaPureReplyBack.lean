/- ReplyBack: a normal response is one, with its data; bytes that are a normal response are that of their data. -/
import Derived.Test.YtinoabkfekomcaaReplyGetReplyBack
import Derived.Test.YtinoabkfekomcaaPReplyBackx10
namespace Go.Proofs.Ytinoabkfekomcaa.RepReplyBack
open Go.RowKit Go.Proofs.Ytinoabkfekomcaa.PReplyBack Go.Proofs.YtinoabkfekomcaaW.PrintWords Go.Proofs.YtinoabkfekomcaaW.PrintLast Go.Proofs.Ytinoabkfekomcaa.Base Go.Proofs.Ytinoabkfekomcaa.Coil Go.Proofs.Ytinoabkfekomcaa.CoilReplyBack

theorem awake_true (k : Nat) (hk : 30 ≤ k) : gatewardenlaw07_awake.f k = some true := by
  refine at_rounds gatewardenlaw07_awake.mono hk ?_
  decide +kernel
theorem ints_loop (l : List Int) (hl : l.length ≤ 9223372036854775806) (d : Nat) : ∀ (k i : Nat), i ≤ l.length → l.length - i = d → d < k → gatewardenref01_Ints.l0 k l l (i : Int) = some true := by
  induction d with
  | zero =>
    intro k i hi hd hk
    obtain ⟨k, rfl⟩ : ∃ m, k = m + 1 := ⟨k - 1, by omega⟩
    simp only [gatewardenref01_Ints.l0]
    rw [if_neg (by omega)]
  | succ d ih =>
    intro k i hi hd hk
    obtain ⟨k, rfl⟩ : ∃ m, k = m + 1 := ⟨k - 1, by omega⟩
    have hw : wrap64 ((i : Int) + 1) = ((i + 1 : Nat) : Int) := by rw [w64 (by omega) (by omega)]; omega
    simp only [gatewardenref01_Ints.l0]
    rw [if_pos (by omega), if_pos (by omega), if_pos (by omega), if_pos True.intro, hw]
    exact ih k (i + 1) (by omega) (by omega) (by omega)
theorem ints_same (l : List Int) (hl : l.length ≤ 9223372036854775806) (k : Nat) (hk : l.length < k) : gatewardenref01_Ints.f k l l = some true := by
  unfold gatewardenref01_Ints.f
  rw [if_pos rfl]
  exact ints_loop l hl l.length k 0 (by omega) (by omega) hk
theorem bt_one (a b : Int) (h0 : 0 ≤ b) (h1 : b ≤ 255) (s : ByteArray) : bt (strOfNums [a, b] ++ s) 1 = b := by
  have e : bytesOf (strOfNums [a, b] ++ s) = ((UInt8.ofNat a.toNat).toNat : Int) :: b :: bytesOf s := by
    simp [bytesOf, strOfNums]
    omega
  rw [← rd_bytesOf, e]
  rfl
theorem rt_kinds {a0 a1 a2 a3 a4 : Int} {l : List Int} (h : Rt a0 a1 a2 a3 a4 l) :
    (echoB a0 = true ∧ a2 = 0) ∨ (echoB a0 = false ∧ a0 < 3 ∧ 1 ≤ a0 ∧ 1 ≤ a2 ∧ a2 ≤ 2000) ∨ (echoB a0 = false ∧ ¬ a0 < 3 ∧ a0 ≤ 23 ∧ 1 ≤ a2 ∧ a2 ≤ 125) := by
  rcases h with ⟨h0, h1, _⟩ | ⟨h0, h1, _⟩ | ⟨rfl, h1, _⟩ | ⟨rfl, h1, _⟩ | ⟨rfl, h1, _⟩ | ⟨rfl, h1, _⟩ | ⟨rfl, h1, _⟩ | ⟨rfl, h1, _⟩
  · exact .inr (.inl ⟨by rcases h0 with rfl | rfl <;> rfl, by omega, by omega, by omega, by omega⟩)
  · exact .inr (.inr ⟨by rcases h0 with rfl | rfl <;> rfl, by omega, by omega, by omega, by omega⟩)
  · exact .inl ⟨rfl, h1.2⟩
  · exact .inl ⟨rfl, h1.2⟩
  · exact .inl ⟨rfl, h1.2⟩
  · exact .inl ⟨rfl, h1.2⟩
  · exact .inl ⟨rfl, h1.2⟩
  · exact .inr (.inr ⟨rfl, by omega, by omega, by omega, by omega⟩)
theorem echoL_size (a0 a3 a4 : Int) (l : List Int) : (echoL a0 a3 a4 l).length ≤ 7 := by
  unfold echoL
  split
  · simp [be]
  split
  · simp [be]
  split
  · simp [be]
  · simp [be]
/-- A response that is made is one, of its data. -/
theorem made {a0 a1 a2 a3 a4 : Int} {l l1 : List Int} (h : (makeP a0 a1 a2 a3 a4 l l1).2 = true) :
    dataP a0 a1 a2 a3 a4 l (makeP a0 a1 a2 a3 a4 l l1).1 = (l1, true) ∧ (makeP a0 a1 a2 a3 a4 l l1).1.size ≤ 253 := by
  obtain ⟨hr, ht, hn, hs⟩ := make_yes h
  have hk := rt_kinds ht
  have hb := rt_of_len ht
  rcases hs with ⟨he, hm⟩ | ⟨he, hp, hm⟩
  · rw [hm]
    rw [he] at hk
    obtain ⟨-, h2⟩ | ⟨h, -⟩ | ⟨h, -⟩ := hk
    · obtain rfl : l1 = [] := List.eq_nil_of_length_eq_zero (by omega)
      refine ⟨?_, ?_⟩
      · unfold dataP
        rw [if_pos hr, if_pos he]
        simp
      · have := echoL_size a0 a3 a4 l
        show (strOfNums (echoL a0 a3 a4 l)).size ≤ 253
        rw [strOfNums_size]; omega
    · cases h
    · cases h
  · rw [hm]
    rw [he] at hk
    obtain ⟨h, -⟩ | ⟨-, h3, h4, h5, h6⟩ | ⟨-, h3, h4, h5, h6⟩ := hk
    · cases h
    · have e : packP a0 l1 = put l1 := if_pos h3
      rw [e] at hp ⊢
      obtain ⟨hbits, hp⟩ := put_ok hp
      rw [hp]
      dsimp only
      have hps : (strOfNums (pack l1)).size = (l1.length + 7) / 8 := by rw [strOfNums_size, pack_length]
      have hsz : (strOfNums [a0, ((strOfNums (pack l1)).size : Int)] ++ strOfNums (pack l1)).size = 2 + (strOfNums (pack l1)).size := by
        rw [ByteArray.size_append, strOfNums_size]; rfl
      have hu : unpackP a0 a2 (strOfNums (pack l1)) = (l1, true) := by
        unfold unpackP
        rw [if_pos h3, ← hn, get_yes hps (clean_pack hbits), bitsOf_pack hbits]
      refine ⟨?_, by rw [hsz]; omega⟩
      unfold dataP
      rw [if_pos hr, if_neg (by rw [he]; decide), if_pos ⟨by rw [hsz]; omega, bt_head _ _ (by omega) (by omega) _, by rw [bt_one _ _ (by omega) (by omega) _, hsz]; omega⟩, rest_of, hu, if_pos rfl]
    · have e : packP a0 l1 = putAll l1 := if_neg h3
      rw [e] at hp ⊢
      obtain ⟨hrg, hp⟩ := putAll_ok hp
      rw [hp]
      dsimp only
      have hps : (strOfNums (be l1)).size = 2 * l1.length := by rw [strOfNums_size, be_length]
      have hsz : (strOfNums [a0, ((strOfNums (be l1)).size : Int)] ++ strOfNums (be l1)).size = 2 + (strOfNums (be l1)).size := by
        rw [ByteArray.size_append, strOfNums_size]; rfl
      have hu : unpackP a0 a2 (strOfNums (be l1)) = (l1, true) := by
        unfold unpackP getAll
        rw [if_neg h3, if_neg (by omega), bytesOf_strOfNums (be_bound l1), un_be hrg]
        simp [hn]
      refine ⟨?_, by rw [hsz]; omega⟩
      unfold dataP
      rw [if_pos hr, if_neg (by rw [he]; decide), if_pos ⟨by rw [hsz]; omega, bt_head _ _ (by omega) (by omega) _, by rw [bt_one _ _ (by omega) (by omega) _, hsz]; omega⟩, rest_of, hu, if_pos rfl]
theorem of_toList {a b : ByteArray} (h : (a.toList == b.toList) = true) : a = b := by
  have e := eq_of_beq h
  rw [ByteArray.toList_eq, ByteArray.toList_eq] at e
  exact ByteArray.ext (Array.ext' e)
/-- A response that is one is made of its data. -/
theorem told {a0 a1 a2 a3 a4 : Int} {l : List Int} {s : ByteArray} (h : (dataP a0 a1 a2 a3 a4 l s).2 = true) : makeP a0 a1 a2 a3 a4 l (dataP a0 a1 a2 a3 a4 l s).1 = (s, true) := by
  by_cases hr : rightP a0 a1 a2 a3 a4 l = true
  · have ht := rt_of hr
    have hk := rt_kinds ht
    have hb := rt_of_len ht
    unfold dataP at h ⊢
    rw [if_pos hr] at h ⊢
    by_cases he : echoB a0 = true
    · rw [if_pos he] at h ⊢
      rw [he] at hk
      obtain ⟨-, h2⟩ | ⟨hc, -⟩ | ⟨hc, -⟩ := hk
      · unfold makeP
        rw [if_pos (show rightP a0 a1 a2 a3 a4 l = true ∧ ((([] : List Int), ((strOfNums (echoL a0 a3 a4 l)).toList == s.toList)).1.length : Int) = a2 from ⟨hr, by rw [h2]; rfl⟩), if_pos he, of_toList h]
      · cases hc
      · cases hc
    · rw [if_neg he] at h ⊢
      by_cases hc : 2 ≤ s.size ∧ bt s 0 = a0 ∧ bt s 1 = (s.size : Int) - 2
      · rw [if_pos hc] at h ⊢
        by_cases hu : (unpackP a0 a2 (s.extract 2 s.size)).2 = true
        · rw [if_pos hu]
          have hrest : (s.extract 2 s.size).size = s.size - 2 := by rw [ByteArray.size_extract]; omega
          have hfin : strOfNums [a0, ((s.extract 2 s.size).size : Int)] ++ s.extract 2 s.size = s := by
            have e := two_rest s hc.1
            rw [hc.2.1, hc.2.2] at e
            rw [hrest]
            rwa [show ((s.size - 2 : Nat) : Int) = (s.size : Int) - 2 by omega]
          have hf : echoB a0 = false := by simpa using he
          rw [hf] at hk
          obtain ⟨hc', -⟩ | ⟨-, h3, h4, h5, h6⟩ | ⟨-, h3, h4, h5, h6⟩ := hk
          · cases hc'
          · unfold unpackP at hu ⊢
            rw [if_pos h3] at hu ⊢
            by_cases hg : 0 ≤ a2 ∧ a2 ≤ 8 * ((s.extract 2 s.size).size : Int) ∧ (s.extract 2 s.size).size = (a2.toNat + 7) / 8 ∧ clean (s.extract 2 s.size) a2.toNat
            · have eg : get (s.extract 2 s.size) a2 = (bitsOf (s.extract 2 s.size) a2.toNat, true) := by unfold CoilReplyBack.get; rw [if_pos hg]
              rw [eg]
              have ep : packP a0 (bitsOf (s.extract 2 s.size) a2.toNat) = (s.extract 2 s.size, true) := by
                unfold packP
                rw [if_pos h3, put_yes (bitsOf_bits _ _), pack_bitsOf hg.2.2.1 hg.2.2.2]
              unfold makeP
              rw [if_pos (show rightP a0 a1 a2 a3 a4 l = true ∧ ((bitsOf (s.extract 2 s.size) a2.toNat).length : Int) = a2 from ⟨hr, by rw [bitsOf_length]; omega⟩), if_neg he, ep, if_pos rfl, hfin]
            · have eg : get (s.extract 2 s.size) a2 = (([] : List Int), false) := by unfold CoilReplyBack.get; rw [if_neg hg]
              rw [eg] at hu; cases hu
          · unfold unpackP at hu ⊢
            rw [if_neg h3] at hu ⊢
            by_cases hg : (s.extract 2 s.size).size % 2 = 1
            · have eg : getAll (s.extract 2 s.size) = (([] : List Int), false) := if_pos hg
              rw [eg] at hu; cases hu
            · have eg : getAll (s.extract 2 s.size) = (un (bytesOf (s.extract 2 s.size)), true) := if_neg hg
              rw [eg] at hu ⊢
              have hl : (bytesOf (s.extract 2 s.size)).length = 2 * ((s.extract 2 s.size).size / 2) := by rw [bytesOf_length]; omega
              have hrg := (un_rg _ _ hl (bytes_bound _)).1
              have ep : packP a0 (un (bytesOf (s.extract 2 s.size))) = (s.extract 2 s.size, true) := by
                unfold packP
                rw [if_neg h3, putAll_yes hrg, be_un _ _ hl (bytes_bound _), str_bytes]
              unfold makeP
              rw [if_pos (show rightP a0 a1 a2 a3 a4 l = true ∧ ((un (bytesOf (s.extract 2 s.size))).length : Int) = a2 from ⟨hr, by simpa using hu⟩), if_neg he, ep, if_pos rfl, hfin]
        · rw [if_neg hu] at h; cases h
      · rw [if_neg hc] at h; cases h
  · unfold dataP at h
    rw [if_neg hr] at h; cases h
theorem data_wf (a0 a1 a2 a3 a4 : Int) (l : List Int) (s : ByteArray) (hs : s.size ≤ 300) : Wf (dataP a0 a1 a2 a3 a4 l s).1 ∧ (dataP a0 a1 a2 a3 a4 l s).1.length ≤ 3000 := by
  have nil : Wf ([] : List Int) ∧ ([] : List Int).length ≤ 3000 := ⟨fun x hx => (by cases hx), by decide⟩
  unfold dataP
  split
  · split
    · exact nil
    split
    · rename_i hc
      split
      · have hrest : (s.extract 2 s.size).size = s.size - 2 := by rw [ByteArray.size_extract]; omega
        unfold unpackP
        split
        · unfold CoilReplyBack.get
          split
          · exact ⟨rg_wf (fun x hx => by have := bitsOf_bits _ _ x hx; omega), by rw [bitsOf_length]; omega⟩
          · exact nil
        · unfold getAll
          split
          · exact nil
          · rename_i hg
            have hl : (bytesOf (s.extract 2 s.size)).length = 2 * ((s.extract 2 s.size).size / 2) := by rw [bytesOf_length]; omega
            have h2 := un_rg _ _ hl (bytes_bound _)
            refine ⟨rg_wf h2.1, ?_⟩
            have := h2.2
            show (un (bytesOf (s.extract 2 s.size))).length ≤ 3000
            omega
      · exact nil
    · exact nil
  · exact nil
theorem code_some (a : Int) : ∃ b, reply_Code.f a = some b := by
  unfold reply_Code.f
  repeat (split; · exact ⟨_, rfl⟩)
  exact ⟨_, rfl⟩
theorem kind_one (a0 a1 a2 a3 a4 : Int) (l : List Int) (s : ByteArray) (hs : s.size ≤ 300) (k : Nat) (hk : 4001 ≤ k) : ∃ t, reply_Kind.f k a0 a1 a2 a3 a4 l s = some t ∧ (t == 1) = (dataP a0 a1 a2 a3 a4 l s).2 := by
  unfold reply_Kind.f
  rw [data_eq _ _ _ _ _ _ _ hs _ hk, Option.bind_some, right_eq _ _ _ _ _ _ _ (by omega), Option.bind_some]
  cases (dataP a0 a1 a2 a3 a4 l s).2
  · rw [if_neg (by decide)]
    split
    · split
      · obtain ⟨b, hb⟩ := code_some (wrap64 (bt s 1))
        rw [if_pos (by omega), hb, Option.bind_some]
        split
        · rw [if_pos (by omega)]
          split
          · exact ⟨_, rfl, rfl⟩
          · exact ⟨_, rfl, rfl⟩
        · exact ⟨_, rfl, rfl⟩
      · exact ⟨_, rfl, rfl⟩
    · exact ⟨_, rfl, rfl⟩
  · exact ⟨_, rfl, rfl⟩
theorem last (a0 a1 a2 a3 a4 : Int) (l : List Int) (s p : ByteArray) (ok : Bool) (hs : s.size ≤ 300) (hp : ok = false → p = ⟨#[]⟩) (k : Nat) (hk : 4500 ≤ k) : gatewardenlaw07_ReplyBack.j1 k s p ok a0 a1 a2 a3 a4 l = some true := by
  obtain ⟨k, rfl⟩ : ∃ m, k = m + 1 := ⟨k - 1, by omega⟩
  have hw := data_wf a0 a1 a2 a3 a4 l s hs
  obtain ⟨t, ht, he⟩ := kind_one a0 a1 a2 a3 a4 l s hs k (by omega)
  simp only [gatewardenlaw07_ReplyBack.j1]
  have hfin : (if ok = true then (some true) else (some (p.toList == ([] : List UInt8)))) = some true := by
    cases ok
    · rw [hp rfl]; decide +kernel
    · rfl
  rw [data_eq _ _ _ _ _ _ _ hs _ (by omega), Option.bind_some, ht, Option.bind_some, he, if_neg (by simp), make_eq _ _ _ _ _ _ _ hw.1 _ (by omega), Option.bind_some, awake_true _ (by omega), Option.bind_some, if_pos rfl, hfin]
  by_cases hd : (dataP a0 a1 a2 a3 a4 l s).2 = true
  · rw [if_pos hd, told hd, if_pos rfl, if_pos rfl]
  · rw [if_neg hd]
end Go.Proofs.Ytinoabkfekomcaa.RepReplyBack
namespace Go.Proofs.Ytinoabkfekomcaa.Pure
open Go.RowKit Go.Proofs.Ytinoabkfekomcaa.PReplyBack Go.Proofs.YtinoabkfekomcaaW.PrintWords Go.Proofs.YtinoabkfekomcaaW.PrintLast Go.Proofs.Ytinoabkfekomcaa.Base Go.Proofs.Ytinoabkfekomcaa.Coil Go.Proofs.Ytinoabkfekomcaa.CoilReplyBack Go.Proofs.Ytinoabkfekomcaa.RepReplyBack

theorem ReplyBack : gatewardenlaw07_ReplyBack.Pure := by
  intro a0 a1 a2 a3 a4 l l1 s _ hg1 _
  refine ⟨5000, ?_⟩
  unfold gatewardenlaw07_ReplyBack.f
  have out : gatewardenlaw07_ReplyBack.j0 5000 l1 s true a0 a1 a2 a3 a4 l = some true := by
    simp only [gatewardenlaw07_ReplyBack.j0, if_true]
    rw [awake_true _ (by decide)]; rfl
  by_cases h1 : (l.length : Int) > 3000
  · rw [if_pos h1]; exact out
  rw [if_neg h1]
  by_cases h2 : (l1.length : Int) > 3000
  · rw [if_pos h2]; exact out
  rw [if_neg h2]
  by_cases h3 : (s.size : Int) > 300
  · rw [decide_eq_true h3]; exact out
  rw [decide_eq_false h3]
  simp only [gatewardenlaw07_ReplyBack.j0]
  rw [if_neg (by decide), make_eq a0 a1 a2 a3 a4 l l1 hg1.2.2 _ (by decide), Option.bind_some]
  by_cases hok : (makeP a0 a1 a2 a3 a4 l l1).2 = true
  · obtain ⟨hd, hsz⟩ := made hok
    obtain ⟨t, ht, he⟩ := kind_one a0 a1 a2 a3 a4 l (makeP a0 a1 a2 a3 a4 l l1).1 (by omega) 4999 (by decide)
    rw [hd] at he
    have he := eq_of_beq he
    subst he
    rw [if_pos hok, data_eq _ _ _ _ _ _ _ (by omega) _ (by decide), Option.bind_some, hd, if_pos rfl, ints_same l1 (by omega) _ (by omega), Option.bind_some, if_pos rfl, ht, Option.bind_some, if_pos rfl, if_neg (by omega)]
    exact last _ _ _ _ _ _ _ _ _ (by omega) (fun h => by rw [hok] at h; cases h) _ (by decide)
  · rw [if_neg hok]
    exact last _ _ _ _ _ _ _ _ _ (by omega) (fun _ => by rw [make_no hok]) _ (by decide)
end Go.Proofs.Ytinoabkfekomcaa.Pure
