/- ReplySizes: how many bytes a normal response has, by its function. -/
import Derived.Test.YtinoabkfekomcaaReplyFunReplySizes
import Derived.Test.YtinoabkfekomcaaPReplySizesx10
namespace Go.Proofs.Ytinoabkfekomcaa.RepReplySizes
open Go.RowKit Go.Proofs.Ytinoabkfekomcaa.PReplySizes Go.Proofs.YtinoabkfekomcaaW.PrintWords Go.Proofs.YtinoabkfekomcaaW.PrintLast Go.Proofs.Ytinoabkfekomcaa.Base Go.Proofs.Ytinoabkfekomcaa.Coil Go.Proofs.Ytinoabkfekomcaa.CoilReplySizes

theorem awake_true (k : Nat) (hk : 30 ≤ k) : gatewardenlaw07_awake.f k = some true := by
  refine at_rounds gatewardenlaw07_awake.mono hk ?_
  decide +kernel
theorem fin {s : ByteArray} {n a0 : Int} (k : Nat) (hk : 30 ≤ k) (hn : (s.size : Int) = n) (h0 : 0 < s.size) (hb : bt s 0 = a0) (h1 : 0 ≤ a0) (h2 : a0 ≤ 255) :
    ((gatewardenlaw07_awake.f k).bind fun t => (if t = true then (if (s.size : Int) = n then (if 0 < (s.size : Int) then (some ((wrap64 (bt s 0)) == a0)) else (none)) else (some false)) else (some false))) = some true := by
  rw [awake_true k hk, Option.bind_some, if_pos rfl, if_pos hn, if_pos (by omega), hb, w64 (by omega) (by omega)]
  simp
end Go.Proofs.Ytinoabkfekomcaa.RepReplySizes
namespace Go.Proofs.Ytinoabkfekomcaa.Pure
open Go.RowKit Go.Proofs.Ytinoabkfekomcaa.PReplySizes Go.Proofs.YtinoabkfekomcaaW.PrintWords Go.Proofs.YtinoabkfekomcaaW.PrintLast Go.Proofs.Ytinoabkfekomcaa.Base Go.Proofs.Ytinoabkfekomcaa.Coil Go.Proofs.Ytinoabkfekomcaa.CoilReplySizes Go.Proofs.Ytinoabkfekomcaa.RepReplySizes

theorem ReplySizes : gatewardenlaw07_ReplySizes.Pure := by
  intro a0 a1 a2 a3 a4 l l1 hg0 hg1
  refine ⟨5000, ?_⟩
  unfold gatewardenlaw07_ReplySizes.f
  have out : gatewardenlaw07_ReplySizes.j0 5000 l1 true a0 a1 a2 a3 a4 l = some true := by
    simp only [gatewardenlaw07_ReplySizes.j0, if_true]
    rw [awake_true _ (by decide)]; rfl
  by_cases h1 : (l.length : Int) > 3000
  · rw [if_pos h1]; exact out
  rw [if_neg h1]
  by_cases h2 : (l1.length : Int) > 3000
  · rw [decide_eq_true h2]; exact out
  rw [decide_eq_false h2]
  simp only [gatewardenlaw07_ReplySizes.j0]
  rw [if_neg (by decide), make_eq a0 a1 a2 a3 a4 l l1 hg1.2.2 _ (by decide), Option.bind_some]
  by_cases hok : (makeP a0 a1 a2 a3 a4 l l1).2 = true
  · rw [if_pos hok]
    obtain ⟨-, ht, hn, hs⟩ := make_yes hok
    rcases ht with ⟨h0, ha, hb, hl, hg⟩ | ⟨h0, ha, hb, hl, hg⟩ | ⟨rfl, ha, hb, hl, hg⟩ | ⟨rfl, ha, hb, hl, hg⟩ | ⟨rfl, ha, hb, hl, hg⟩ | ⟨rfl, ha, hb, hl, hg⟩ | ⟨rfl, ha, hb, hl, hg⟩ | ⟨rfl, ha, hb, hl, hg⟩
    · have hb0 : echoB a0 = false := by rcases h0 with rfl | rfl <;> rfl
      rw [hb0] at hs
      obtain ⟨h, -⟩ | ⟨-, hp, hm⟩ := hs
      · cases h
      rw [hm]
      have e : packP a0 l1 = put l1 := if_pos (by omega)
      rw [e] at hp ⊢
      obtain ⟨-, hp⟩ := put_ok hp
      rw [hp]
      have hsz : (strOfNums [a0, ((strOfNums (pack l1)).size : Int)] ++ strOfNums (pack l1)).size = 2 + (l1.length + 7) / 8 := by
        rw [ByteArray.size_append, strOfNums_size, strOfNums_size, pack_length]; rfl
      have hw : wrap64 (2 + wrap64 (Int.tdiv (wrap64 (a2 + 7)) 8)) = 2 + (a2 + 7) / 8 := by
        rw [w64 (n := a2 + 7) (by omega) (by omega), tdiv8 (by omega), w64 (n := (a2 + 7) / 8) (by omega) (by omega), w64 (by omega) (by omega)]
      rcases h0 with rfl | rfl
      · rw [if_pos rfl]
        simp only [gatewardenlaw07_ReplySizes.j1]
        rw [if_pos (by decide), hw]
        exact fin _ (by decide) (by rw [hsz]; omega) (by rw [hsz]; omega) (bt_head _ _ (by omega) (by omega) _) (by omega) (by omega)
      · rw [if_neg (by decide)]
        simp only [gatewardenlaw07_ReplySizes.j1]
        rw [if_pos (by decide), hw]
        exact fin _ (by decide) (by rw [hsz]; omega) (by rw [hsz]; omega) (bt_head _ _ (by omega) (by omega) _) (by omega) (by omega)
    · have hb0 : echoB a0 = false := by rcases h0 with rfl | rfl <;> rfl
      rw [hb0] at hs
      obtain ⟨h, -⟩ | ⟨-, hp, hm⟩ := hs
      · cases h
      rw [hm]
      have e : packP a0 l1 = putAll l1 := if_neg (by omega)
      rw [e] at hp ⊢
      obtain ⟨-, hp⟩ := putAll_ok hp
      rw [hp]
      have hsz : (strOfNums [a0, ((strOfNums (be l1)).size : Int)] ++ strOfNums (be l1)).size = 2 + 2 * l1.length := by
        rw [ByteArray.size_append, strOfNums_size, strOfNums_size, be_length]; rfl
      have hw : wrap64 (2 + wrap64 (2 * a2)) = 2 + 2 * a2 := by
        rw [w64 (n := 2 * a2) (by omega) (by omega), w64 (by omega) (by omega)]
      rcases h0 with rfl | rfl
      · rw [if_neg (by decide)]
        simp only [gatewardenlaw07_ReplySizes.j1, gatewardenlaw07_ReplySizes.j2]
        rw [if_neg (by decide), if_pos True.intro, if_pos (by decide), hw]
        exact fin _ (by decide) (by rw [hsz]; omega) (by rw [hsz]; omega) (bt_head _ _ (by omega) (by omega) _) (by omega) (by omega)
      · rw [if_neg (by decide)]
        simp only [gatewardenlaw07_ReplySizes.j1, gatewardenlaw07_ReplySizes.j2]
        rw [if_neg (by decide), if_neg (by decide), if_pos True.intro, if_pos (by decide), hw]
        exact fin _ (by decide) (by rw [hsz]; omega) (by rw [hsz]; omega) (bt_head _ _ (by omega) (by omega) _) (by omega) (by omega)
    · obtain ⟨-, hm⟩ | ⟨h, -, -⟩ := hs
      · rw [hm]
        have hsz : (strOfNums (echoL 5 a3 a4 l)).size = 5 := by rw [strOfNums_size]; rfl
        rw [if_neg (by decide)]
        simp only [gatewardenlaw07_ReplySizes.j1, gatewardenlaw07_ReplySizes.j2]
        rw [if_neg (by decide), if_neg (by decide), if_neg (by decide), if_neg (by decide), if_neg (by decide)]
        exact fin _ (by decide) (by rw [hsz]; rfl) (by rw [hsz]; omega) (bt_head' 5 _ (by omega) (by omega)) (by omega) (by omega)
      · cases h
    · obtain ⟨-, hm⟩ | ⟨h, -, -⟩ := hs
      · rw [hm]
        have hsz : (strOfNums (echoL 6 a3 a4 l)).size = 5 := by rw [strOfNums_size]; rfl
        rw [if_neg (by decide)]
        simp only [gatewardenlaw07_ReplySizes.j1, gatewardenlaw07_ReplySizes.j2]
        rw [if_neg (by decide), if_neg (by decide), if_neg (by decide), if_neg (by decide), if_neg (by decide)]
        exact fin _ (by decide) (by rw [hsz]; rfl) (by rw [hsz]; omega) (bt_head' 6 _ (by omega) (by omega)) (by omega) (by omega)
      · cases h
    · obtain ⟨-, hm⟩ | ⟨h, -, -⟩ := hs
      · rw [hm]
        have hsz : (strOfNums (echoL 15 a3 a4 l)).size = 5 := by rw [strOfNums_size]; rfl
        rw [if_neg (by decide)]
        simp only [gatewardenlaw07_ReplySizes.j1, gatewardenlaw07_ReplySizes.j2]
        rw [if_neg (by decide), if_neg (by decide), if_neg (by decide), if_neg (by decide), if_neg (by decide)]
        exact fin _ (by decide) (by rw [hsz]; rfl) (by rw [hsz]; omega) (bt_head' 15 _ (by omega) (by omega)) (by omega) (by omega)
      · cases h
    · obtain ⟨-, hm⟩ | ⟨h, -, -⟩ := hs
      · rw [hm]
        have hsz : (strOfNums (echoL 16 a3 a4 l)).size = 5 := by rw [strOfNums_size]; rfl
        rw [if_neg (by decide)]
        simp only [gatewardenlaw07_ReplySizes.j1, gatewardenlaw07_ReplySizes.j2]
        rw [if_neg (by decide), if_neg (by decide), if_neg (by decide), if_neg (by decide), if_neg (by decide)]
        exact fin _ (by decide) (by rw [hsz]; rfl) (by rw [hsz]; omega) (bt_head' 16 _ (by omega) (by omega)) (by omega) (by omega)
      · cases h
    · obtain ⟨-, hm⟩ | ⟨h, -, -⟩ := hs
      · rw [hm]
        have hsz : (strOfNums (echoL 22 a3 a4 l)).size = 7 := by rw [strOfNums_size]; rfl
        rw [if_neg (by decide)]
        simp only [gatewardenlaw07_ReplySizes.j1, gatewardenlaw07_ReplySizes.j2]
        rw [if_neg (by decide), if_neg (by decide), if_neg (by decide), if_neg (by decide), if_pos True.intro]
        exact fin _ (by decide) (by rw [hsz]; rfl) (by rw [hsz]; omega) (bt_head' 22 _ (by omega) (by omega)) (by omega) (by omega)
      · cases h
    · obtain ⟨h, -⟩ | ⟨-, hp, hm⟩ := hs
      · cases h
      rw [hm]
      have e : packP 23 l1 = putAll l1 := if_neg (by omega)
      rw [e] at hp ⊢
      obtain ⟨-, hp⟩ := putAll_ok hp
      rw [hp]
      have hsz : (strOfNums [23, ((strOfNums (be l1)).size : Int)] ++ strOfNums (be l1)).size = 2 + 2 * l1.length := by
        rw [ByteArray.size_append, strOfNums_size, strOfNums_size, be_length]; rfl
      have hw : wrap64 (2 + wrap64 (2 * a2)) = 2 + 2 * a2 := by
        rw [w64 (n := 2 * a2) (by omega) (by omega), w64 (by omega) (by omega)]
      rw [if_neg (by decide)]
      simp only [gatewardenlaw07_ReplySizes.j1, gatewardenlaw07_ReplySizes.j2]
      rw [if_neg (by decide), if_neg (by decide), if_neg (by decide), if_pos (by decide), hw]
      exact fin _ (by decide) (by rw [hsz]; omega) (by rw [hsz]; omega) (bt_head _ _ (by omega) (by omega) _) (by omega) (by omega)
  · rw [if_neg hok, make_no hok, awake_true _ (by decide), Option.bind_some, if_pos rfl]
    decide +kernel
end Go.Proofs.Ytinoabkfekomcaa.Pure
