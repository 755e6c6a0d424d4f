/- AskCut: a request's bytes, cut off, or with one more behind, are none's (walked by hand over the functions as printed for the law AskSizes). -/
import Derived.Test.YtinoabkfekomcaaAskSizesWalk
namespace Go.Proofs.Ytinoabkfekomcaa.AskAskSizes
open Go Go.RowKit Go.Proofs.Ytinoabkfekomcaa.PAskSizes Go.Proofs.YtinoabkfekomcaaW.PrintWords Go.Proofs.YtinoabkfekomcaaW.PrintLast Go.Proofs.Ytinoabkfekomcaa.Base Go.Proofs.Ytinoabkfekomcaa.RepAskSizes Go.Proofs.Ytinoabkfekomcaa.CoilAskSizes Go.Proofs.Ytinoabkfekomcaa.Coil
set_option maxHeartbeats 8000000
set_option maxRecDepth 100000
set_option linter.unusedVariables false
theorem one_byte (m : Int) (V : World) (b : Nat) (hb : b = V.heap.size) : (convert 34 9 (.slice (some ⟨b, 0, none⟩) 1 1)).run Try.prog (V.alloc (.cells #[.int .u8 m] 5)) = .ok (.string (strOfNums [m])) (V.alloc (.cells #[.int .u8 m] 5)) := by
  subst hb
  exact own_string Try.underlying34 Try.underlying5 Try.underlying9 (World.ownsRow_lit (e := 5) (size := 1) V (nums .u8 [m]).toArray 1 (Nat.le_refl _) (by unfold maxLen; omega) (by simp [nums]))
attribute [local go_sem] one_byte
attribute [-go_sem] run_string_add_if
def By (zs : List Int) : Prop := ∀ x ∈ zs, 0 ≤ x ∧ x ≤ 255
theorem drop_strOfNums (zs : List Int) (n : Nat) : (strOfNums zs).extract n (strOfNums zs).size = strOfNums (zs.drop n) := by
  apply ByteArray.ext
  rw [strOfNums_size]
  apply Array.ext'
  simp [strOfNums, ByteArray.data_extract, List.map_drop]
  rw [List.take_of_length_le (by simp)]
theorem bt_str {zs : List Int} (h : By zs) (i : Nat) : bt (strOfNums zs) (i : Int) = zs.getD i 0 := by
  rw [← rd_bytesOf, bytesOf_strOfNums h, rd_nat]
theorem by_drop {zs : List Int} (h : By zs) (n : Nat) : By (zs.drop n) := fun x hx => h x (List.mem_of_mem_drop hx)
/-- Numbers behind a function's that are of the length they tell; and that aren't. -/
def good (fc : Int) (zs : List Int) : Prop :=
  if fc = 22 then zs.length = 6 else if fc = 23 then 9 ≤ zs.length ∧ (zs.length : Int) - 9 = zs.getD 8 0 else if fc ≤ 6 then zs.length = 4 else 5 ≤ zs.length ∧ (zs.length : Int) - 5 = zs.getD 4 0
def bad (fc : Int) (zs : List Int) : Prop :=
  if fc = 22 then zs.length ≠ 6 else if fc = 23 then zs.length < 9 ∨ (zs.length : Int) - 9 ≠ zs.getD 8 0 else if fc ≤ 6 then zs.length ≠ 4 else zs.length < 5 ∨ (zs.length : Int) - 5 ≠ zs.getD 4 0
theorem bad_take {fc : Int} {R : List Int} (h : good fc R) (j : Nat) (hj : j < R.length) : bad fc (R.take j) := by
  unfold good at h
  unfold bad
  have hl : (R.take j).length = j := by rw [List.length_take]; omega
  have hg : ∀ q, q < j → (R.take j).getD q 0 = R.getD q 0 := by
    intro q hq
    rw [List.getD_eq_getElem?_getD, List.getD_eq_getElem?_getD, List.getElem?_take_of_lt hq]
  rw [hl]
  split at h
  · rename_i c; rw [if_pos c]; omega
  · rename_i c
    rw [if_neg c]
    split at h
    · rename_i c2
      rw [if_pos c2]
      by_cases h9 : j < 9
      · exact .inl h9
      · rw [hg 8 (by omega)]; exact .inr (by omega)
    · rename_i c2
      rw [if_neg c2]
      split at h
      · rename_i c3; rw [if_pos c3]; omega
      · rename_i c3
        rw [if_neg c3]
        by_cases h5 : j < 5
        · exact .inl h5
        · rw [hg 4 (by omega)]; exact .inr (by omega)
theorem bad_more {fc : Int} {R : List Int} (h : good fc R) (m : Int) : bad fc (R ++ [m]) := by
  unfold good at h
  unfold bad
  have hl : (R ++ [m]).length = R.length + 1 := by simp
  have hg : ∀ q, q < R.length → (R ++ [m]).getD q 0 = R.getD q 0 := by
    intro q hq
    rw [List.getD_eq_getElem?_getD, List.getD_eq_getElem?_getD, List.getElem?_append_left hq]
  rw [hl]
  split at h
  · rename_i c; rw [if_pos c]; omega
  · rename_i c
    rw [if_neg c]
    split at h
    · rename_i c2
      rw [if_pos c2, hg 8 (by omega)]; exact .inr (by omega)
    · rename_i c2
      rw [if_neg c2]
      split at h
      · rename_i c3; rw [if_pos c3]; omega
      · rename_i c3
        rw [if_neg c3, hg 4 (by omega)]; exact .inr (by omega)
theorem tail_bad {zs : List Int} (hB : By zs) (n : Nat) (bits : Bool) (many : Int) (h : zs.length < n + 1 ∨ (zs.length : Int) - (n + 1 : Nat) ≠ zs.getD n 0) : (tailP ((strOfNums zs).extract n (strOfNums zs).size) bits many).2 = false := by
  rw [drop_strOfNums]
  unfold tailP
  rw [if_pos]
  rw [strOfNums_size, List.length_drop]
  by_cases h0 : zs.length - n = 0
  · exact .inl h0
  · right
    have e := bt_str (by_drop hB n) 0
    have e2 : (zs.drop n).getD 0 0 = zs.getD n 0 := by
      rw [List.getD_eq_getElem?_getD, List.getD_eq_getElem?_getD, List.getElem?_drop]; simp
    have e3 : bt (strOfNums (zs.drop n)) 0 = zs.getD n 0 := by rw [← e2]; exact e
    rw [e3]
    rcases h with h | h
    · omega
    · intro e; exact h (by omega)
theorem read_bad {fc : Int} {zs : List Int} (hk : Knows fc) (hB : By zs) (h : bad fc zs) : (readP fc (strOfNums zs)).2.2.2.2.2 = false := by
  unfold bad at h
  unfold readP
  have hs := strOfNums_size zs
  by_cases c : fc = 22
  · rw [if_pos c] at h ⊢
    split
    · rfl
    · show ((((strOfNums zs).size : Nat) : Int) == 6) = false
      rw [beq_eq_false_iff_ne]; omega
  rw [if_neg c] at h ⊢
  by_cases c2 : fc = 23
  · rw [if_pos c2] at h ⊢
    split
    · rfl
    · exact tail_bad hB 8 _ _ h
  rw [if_neg c2] at h ⊢
  split
  · rfl
  by_cases c3 : fc ≤ 6
  · rw [if_pos c3] at h
    have e4 : ((((strOfNums zs).size : Nat) : Int) == 4) = false := by rw [beq_eq_false_iff_ne]; omega
    split
    · exact e4
    · split
      · show ((((strOfNums zs).size : Nat) : Int) == 4 && _) = false
        rw [e4]; rfl
      · split
        · exact e4
        · unfold Knows at hk; omega
  · rw [if_neg c3] at h
    rw [if_neg (by omega), if_neg (by omega), if_neg (by omega)]
    exact tail_bad hB 4 _ _ h
theorem knows_known {fc : Int} (h : Knows fc) : knownP fc = true := by
  rcases h with rfl | rfl | rfl | rfl | rfl | rfl | rfl | rfl | rfl | rfl <;> rfl
theorem knows_bound {fc : Int} (h : Knows fc) : 0 ≤ fc ∧ fc ≤ 255 := by unfold Knows at h; omega
theorem get_bad {fc : Int} {zs : List Int} (hk : Knows fc) (hB : By zs) (h : bad fc zs) : getP (strOfNums (fc :: zs)) = (0, 0, 0, 0, 0, [], 4) := by
  have hB' : By (fc :: zs) := by
    intro x hx
    rcases List.mem_cons.1 hx with rfl | hx
    · exact knows_bound hk
    · exact hB x hx
  have hb : bt (strOfNums (fc :: zs)) 0 = fc := bt_str hB' 0
  have hz : (strOfNums (fc :: zs)).size ≠ 0 := by rw [strOfNums_size]; simp
  have hd : (strOfNums (fc :: zs)).extract 1 (strOfNums (fc :: zs)).size = strOfNums zs := drop_strOfNums (fc :: zs) 1
  unfold getP
  rw [hb, hd, knows_known hk, if_neg (by intro h; cases h with | inl h => exact hz h | inr h => cases h), if_pos (.inl (read_bad hk hB h))]
theorem rest_form {a0 a1 a2 a3 a4 : Int} {l : List Int} (ht : Rt a0 a1 a2 a3 a4 l) : ∃ R, putL a0 a1 a2 a3 a4 l = a0 :: R ∧ good a0 R ∧ By R ∧ R.length ≤ 252 ∧ Knows a0 := by
  unfold Knows
  have app : ∀ {x y : List Int}, By x → By y → By (x ++ y) := fun hx hy z hz => (List.mem_append.1 hz).elim (hx z) (hy z)
  have one : ∀ {x : Int}, 0 ≤ x ∧ x ≤ 255 → By [x] := fun hx z hz => by rw [List.mem_singleton.1 hz]; exact hx
  rcases ht with ⟨h0, h1, h2, hl, hg⟩ | ⟨h0, h1, h2, hl, hg⟩ | ⟨rfl, h1, h2, hl, hg⟩ | ⟨rfl, h1, h2, hl, hg⟩ | ⟨rfl, h1, h2, hl, hg⟩ | ⟨rfl, h1, h2, hl, hg⟩ | ⟨rfl, h1, h2, hl, hg⟩ | ⟨rfl, h1, h2, hl, hg⟩
  · refine ⟨be [a1, a2], by unfold putL; rw [if_pos (by omega)]; rfl, ?_, be_bound _, by rw [be_length]; simp, by omega⟩
    unfold good; rw [if_neg (by omega), if_neg (by omega), if_pos (by omega)]; rfl
  · refine ⟨be [a1, a2], by unfold putL; rw [if_pos (by omega)]; rfl, ?_, be_bound _, by rw [be_length]; simp, by omega⟩
    unfold good; rw [if_neg (by omega), if_neg (by omega), if_pos (by omega)]; rfl
  · exact ⟨be [a3, rd l 0 * 65280], rfl, by unfold good; rw [if_neg (by decide), if_neg (by decide), if_pos (by decide)]; rfl, be_bound _, by rw [be_length]; simp, by omega⟩
  · exact ⟨be [a3, rd l 0], rfl, by unfold good; rw [if_neg (by decide), if_neg (by decide), if_pos (by decide)]; rfl, be_bound _, by rw [be_length]; simp, by omega⟩
  · have hp := pack_length l
    refine ⟨be [a3, a4] ++ [(((l.length + 7) / 8 : Nat) : Int)] ++ pack l, rfl, ?_, app (app (be_bound _) (one (by omega))) (pack_bound (bits_of_rg hg)), ?_, by omega⟩
    · unfold good
      rw [if_neg (by decide), if_neg (by decide), if_neg (by decide)]
      simp only [List.length_append, be_length, hp, List.length_cons, List.length_nil]
      refine ⟨by omega, ?_⟩
      show _ = (((l.length + 7) / 8 : Nat) : Int)
      omega
    · simp only [List.length_append, be_length, hp, List.length_cons, List.length_nil]; omega
  · refine ⟨be [a3, a4] ++ [2 * a4] ++ be l, rfl, ?_, app (app (be_bound _) (one (by omega))) (be_bound _), ?_, by omega⟩
    · unfold good
      rw [if_neg (by decide), if_neg (by decide), if_neg (by decide)]
      simp only [List.length_append, be_length, List.length_cons, List.length_nil]
      refine ⟨by omega, ?_⟩
      show _ = 2 * a4
      omega
    · simp only [List.length_append, be_length, List.length_cons, List.length_nil]; omega
  · exact ⟨be [a3, rd l 0, rd l 1], rfl, by unfold good; rw [if_pos rfl]; rfl, be_bound _, by rw [be_length]; simp, by omega⟩
  · refine ⟨be [a1, a2, a3, a4] ++ [2 * a4] ++ be l, rfl, ?_, app (app (be_bound _) (one (by omega))) (be_bound _), ?_, by omega⟩
    · unfold good
      rw [if_neg (by decide), if_pos rfl]
      simp only [List.length_append, be_length, List.length_cons, List.length_nil]
      refine ⟨by omega, ?_⟩
      show _ = 2 * a4
      omega
    · simp only [List.length_append, be_length, List.length_cons, List.length_nil]; omega
theorem cut_get {a0 a1 a2 a3 a4 : Int} {l : List Int} (ht : Rt a0 a1 a2 a3 a4 l) (n : Nat) (hn : n < (strOfNums (putL a0 a1 a2 a3 a4 l)).size) : getP ((strOfNums (putL a0 a1 a2 a3 a4 l)).extract 0 n) = (0, 0, 0, 0, 0, [], if n = 0 then 2 else 4) := by
  obtain ⟨R, e, hg, hB, hl, hk⟩ := rest_form ht
  rw [strOfNums_size, e] at hn
  rw [extract_strOfNums, e]
  by_cases h0 : n = 0
  · subst h0
    rw [if_pos rfl]
    unfold getP
    rw [if_pos (.inl (by rw [strOfNums_size]; rfl))]
  · rw [if_neg h0]
    obtain ⟨j, rfl⟩ : ∃ j, n = j + 1 := ⟨n - 1, by omega⟩
    rw [List.take_succ_cons]
    exact get_bad hk (fun x hx => hB x (List.mem_of_mem_take hx)) (bad_take hg j (by simpa using hn))
theorem more_get {a0 a1 a2 a3 a4 : Int} {l : List Int} (ht : Rt a0 a1 a2 a3 a4 l) (m : Int) (hm : 0 ≤ m ∧ m ≤ 255) : getP (strOfNums (putL a0 a1 a2 a3 a4 l) ++ strOfNums [m]) = (0, 0, 0, 0, 0, [], 4) := by
  obtain ⟨R, e, hg, hB, hl, hk⟩ := rest_form ht
  rw [← strOfNums_append, e, List.cons_append]
  exact get_bad hk (fun x hx => (List.mem_append.1 hx).elim (hB x) (fun h => by rw [List.mem_singleton.1 h]; exact hm)) (bad_more hg m)
theorem len_le {a0 a1 a2 a3 a4 : Int} {l : List Int} (ht : Rt a0 a1 a2 a3 a4 l) : (strOfNums (putL a0 a1 a2 a3 a4 l)).size ≤ 253 := by
  obtain ⟨R, e, hg, hB, hl, hk⟩ := rest_form ht
  rw [strOfNums_size, e, List.length_cons]
  omega
theorem AskCut_calls (a0 a1 a2 a3 a4 : Int) (A0 : Option Addr) (c0 : Nat) (l0 : List Int) (cut m : Int) (w : World) (hr0 : Kd.C (Kd.int .i64) w A0 l0.length l0) (hc0 : l0.length ≤ c0) (hcut : 0 ≤ cut ∧ cut ≤ 255) (hm : 0 ≤ m ∧ m ≤ 255) :
    Calls Try.prog 4 #[.agg #[.int .i64 a0, .int .i64 a1, .int .i64 a2, .int .i64 a3, .int .i64 a4, .slice A0 l0.length c0], .int .u8 cut, .int .u8 m] w fun e w' => e = .returned (.bool true) ∧ Below w.heap.size w w' := by
  obtain ⟨T, hT⟩ : ∃ T : Ending → World → Prop, T = fun e w' => e = .returned (.bool true) ∧ Below w.heap.size w w' := ⟨_, rfl⟩
  have HT := Aside0.mk hT
  rw [← hT]
  clear hT
  have HR0 := Aside0.mk (And.intro hc0 (Kd.C_below hr0 (below_alloc (Below.refl _ _) (.cells #[.int .i64 a0, .int .i64 a1, .int .i64 a2, .int .i64 a3, .int .i64 a4, .slice A0 l0.length c0] 24))))
  clear hr0 hc0
  rcases put_told a0 a1 a2 a3 a4 l0 with ⟨hr, ht, hp⟩ | ⟨hr, hp⟩
  · obtain ⟨hsz, hb, hpos, g1, g2, g3, g4, g5, g6⟩ := right_size ht
    obtain ⟨S, hS⟩ : ∃ S, S = strOfNums (putL a0 a1 a2 a3 a4 l0) := ⟨_, rfl⟩
    have HG := Aside0.mk (fun n (hn : n < (strOfNums (putL a0 a1 a2 a3 a4 l0)).size) => cut_get ht n hn)
    have HM := Aside0.mk (more_get ht m hm)
    have HLE := Aside0.mk (len_le ht)
    rw [← hS] at hp hsz hb hpos HG HM HLE
    have HP := Aside0.mk hp
    have hlen : ¬ (l0.length : Int) > 3000 := by omega
    have hposz : (0 : Int) < (S.size : Int) := by omega
    have hne : ¬ (S.size : Int) = 0 := by omega
    have hne' : ¬ S.size = 0 := by omega
    have hneb : ((S.size : Int) == 0) = false := beq_eq_false_iff_ne.2 hne
    have hned : decide (S.size = 0) = false := decide_eq_false hne'
    have hle := HLE.out
    obtain ⟨n, hn⟩ : ∃ n : Nat, n = (cut % (S.size : Int)).toNat := ⟨_, rfl⟩
    have hnn : (n : Int) = cut % (S.size : Int) := by
      have h := Int.emod_nonneg cut hne
      omega
    have hnl : n < S.size := by
      have h := Int.emod_lt_of_pos cut hposz
      omega
    have hq : Int.tmod cut (S.size : Int) = (n : Int) := by rw [Int.tmod_eq_emod_of_nonneg hcut.1]; exact hnn.symm
    have hwc : wrap64 cut = cut := w64 (by omega) (by omega)
    have hnle : (n : Int) ≤ (S.size : Int) := by omega
    have hn0 : (0 : Int) ≤ (n : Int) := by omega
    have HN := Aside0.mk hnl
    clear hr ht hp hsz hb g1 g2 g3 g4 g5 g6 hS hn hnn hnl hle hcut
    have hsum : S.size + (strOfNums [m]).size ≤ 9223372036854775807 := by rw [strOfNums_size]; have := HLE.out; simp; omega
    have hadd : ∀ W : World, (Op.stringOp .add S (strOfNums [m])).run Try.prog W = .ok (.string (S ++ strOfNums [m])) W := fun W => run_string_add_sum W _ _ hsum
    clear hsum
    by_cases hz : n = 0
    · have ER := Aside0.mk (show ((0, 0, 0, 0, 0, [], if n = 0 then 2 else 4) : Got) = (0, 0, 0, 0, 0, [], 2) by rw [if_pos hz])
      have hzb : ((n : Int) == 0) = true := by rw [hz]; rfl
      clear hz
      go_enter Try.func4, Try.ntmps4
      go_wp2_with fail
      refine (ask_Put.calls 5000 _ a1 a2 a3 a4 A0 c0 l0 S true _ HR0.out.2 HR0.out.1 HP.out).mono ?_
      rintro e w1 ⟨rfl, hb1⟩
      have K1 := Aside0.mk (blk_below (blk_new w (.cells #[.int .i64 _, .int .i64 a1, .int .i64 a2, .int .i64 a3, .int .i64 a4, .slice A0 l0.length c0] 24)) hb1)
      have D1 := Aside0.mk (below_step (below_alloc (Below.refl w.heap.size w) _) hb1)
      obtain ⟨⟨c40, c41, c42, c43, c44, c45⟩, f4⟩ := six_cells K1.out
      clear hb1
      go_wp2_with fail
      refine (get_calls (S.extract 0 n) (by rw [ByteArray.size_extract]; have := HLE.out; omega) _).mono ?_
      rw [HG.out n HN.out, ER.out]
      rintro e w2 ⟨⟨v, rfl, ⟨A2, c2, rfl, -, -, -⟩⟩, hb2⟩
      have D2 := Aside0.mk (below_step D1.out hb2)
      clear hb2
      go_wp2_with fail
      refine (get_calls (S ++ strOfNums [m]) (by rw [ByteArray.size_append, strOfNums_size]; have := HLE.out; simp; omega) _).mono ?_
      rw [HM.out]
      rintro e w3 ⟨⟨v, rfl, ⟨A3, c3, rfl, -, -, -⟩⟩, hb3⟩
      have D3 := Aside0.mk (below_step (below_alloc (below_alloc D2.out _) _) hb3)
      clear hb3
      go_wp2_with fail
      refine (awake_calls _).mono ?_
      rintro e w4 ⟨rfl, hb4⟩
      have D4 := Aside0.mk (below_step (below_alloc D3.out _) hb4)
      clear hb4
      go_wp2
      rw [HT.out]
      exact ⟨rfl, D4.out⟩
    · have ER := Aside0.mk (show ((0, 0, 0, 0, 0, [], if n = 0 then 2 else 4) : Got) = (0, 0, 0, 0, 0, [], 4) by rw [if_neg hz])
      clear hz
      go_enter Try.func4, Try.ntmps4
      go_wp2_with fail
      refine (ask_Put.calls 5000 _ a1 a2 a3 a4 A0 c0 l0 S true _ HR0.out.2 HR0.out.1 HP.out).mono ?_
      rintro e w1 ⟨rfl, hb1⟩
      have K1 := Aside0.mk (blk_below (blk_new w (.cells #[.int .i64 _, .int .i64 a1, .int .i64 a2, .int .i64 a3, .int .i64 a4, .slice A0 l0.length c0] 24)) hb1)
      have D1 := Aside0.mk (below_step (below_alloc (Below.refl w.heap.size w) _) hb1)
      obtain ⟨⟨c40, c41, c42, c43, c44, c45⟩, f4⟩ := six_cells K1.out
      clear hb1
      go_wp2_with fail
      refine (get_calls (S.extract 0 n) (by rw [ByteArray.size_extract]; have := HLE.out; omega) _).mono ?_
      rw [HG.out n HN.out, ER.out]
      rintro e w2 ⟨⟨v, rfl, ⟨A2, c2, rfl, -, -, -⟩⟩, hb2⟩
      have D2 := Aside0.mk (below_step D1.out hb2)
      clear hb2
      go_wp2_with fail
      refine (get_calls (S ++ strOfNums [m]) (by rw [ByteArray.size_append, strOfNums_size]; have := HLE.out; simp; omega) _).mono ?_
      rw [HM.out]
      rintro e w3 ⟨⟨v, rfl, ⟨A3, c3, rfl, -, -, -⟩⟩, hb3⟩
      have D3 := Aside0.mk (below_step (below_alloc (below_alloc D2.out _) _) hb3)
      clear hb3
      go_wp2_with fail
      refine (awake_calls _).mono ?_
      rintro e w4 ⟨rfl, hb4⟩
      have D4 := Aside0.mk (below_step (below_alloc D3.out _) hb4)
      clear hb4
      go_wp2
      rw [HT.out]
      exact ⟨rfl, D4.out⟩
  · have HP := Aside0.mk hp
    clear hr hp hcut hm
    by_cases hlen : (l0.length : Int) > 3000
    all_goals
      go_enter Try.func4, Try.ntmps4
      go_wp2_with fail
      refine (ask_Put.calls 5000 a0 a1 a2 a3 a4 A0 c0 l0 _ _ _ HR0.out.2 HR0.out.1 HP.out).mono ?_
      rintro e w1 ⟨rfl, hb1⟩
      have K1 := Aside0.mk (blk_below (blk_new w (.cells #[.int .i64 a0, .int .i64 a1, .int .i64 a2, .int .i64 a3, .int .i64 a4, .slice A0 l0.length c0] 24)) hb1)
      have D1 := Aside0.mk (below_step (below_alloc (Below.refl w.heap.size w) _) hb1)
      obtain ⟨⟨c40, c41, c42, c43, c44, c45⟩, f4⟩ := six_cells K1.out
      clear hb1
      go_wp2_with fail
      refine (awake_calls _).mono ?_
      rintro e w2 ⟨rfl, hb2⟩
      have D2 := Aside0.mk (below_step D1.out hb2)
      clear hb2
      go_wp2
      rw [HT.out]
      exact ⟨rfl, D2.out⟩
end Go.Proofs.Ytinoabkfekomcaa.AskAskSizes
