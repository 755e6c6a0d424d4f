/- The document's one, as a plain law: what it comes to. -/
import Derived.Test.YtjllahglfpbemaaDoorLexRefa
import Derived.Test.YtjllahglfpbemaaDoorLexPure
namespace Go.Proofs.YtjllahglfpbemaaDoor.PGuardTells
open Go Go.RowKit Go.Proofs.YtjllahglfpbemaaDoorW.PrintWords Go.Proofs.YtjllahglfpbemaaDoorW.PrintLast Go.Proofs.YtjllahglfpbemaaDoorW.PrintMore
set_option maxRecDepth 100000
set_option linter.unusedVariables false
set_option linter.unusedSimpArgs false
open Go.Lib (decDigits nDigits)
theorem refGet_any (s : ByteArray) : gatewardenref02_Get.f 2000 s = some (getP (readF s.data.toList)) := by
  by_cases hs : s.data.toList.length ≤ 100
  · exact refGet_eq s hs
  have hsz := size_list s
  have e : readF s.data.toList = none := by
    cases hr : readF s.data.toList with
    | none => rfl
    | some n =>
      obtain ⟨h0, h1, h2⟩ := (readF_iff _ _).1 hr
      have h3 := congrArg List.length h2
      rw [Go.Lib.decDigits_length] at h3
      have h4 := nDigits_M (n := n.toNat) (by omega)
      omega
  unfold gatewardenref02_Get.f
  rw [if_neg (by omega), if_pos (by omega), e]
  simp only [gatewardenref02_Get.j0, if_true]
  rfl
theorem isA_iff (c : UInt8) : abc.contains c = true ↔ 97 ≤ c.toNat ∧ c.toNat ≤ 122 := by
  constructor
  · intro h
    have h2 : c ∈ abc := List.contains_iff_mem.1 h
    simp only [abc, List.mem_cons, List.not_mem_nil, or_false] at h2
    rcases h2 with h | h | h | h | h | h | h | h | h | h | h | h | h | h | h | h | h | h | h | h | h | h | h | h | h | h <;> subst h <;> decide
  · rintro ⟨h1, h2⟩
    have e : ∀ k : Nat, k < 26 → abc.contains (UInt8.ofNat (97 + k)) = true := by decide
    have e2 : c = UInt8.ofNat (97 + (c.toNat - 97)) := UInt8.toNat_inj.1 (by rw [UInt8.toNat_ofNat']; omega)
    rw [e2]
    exact e _ (by omega)
theorem refLetters_loop (s : ByteArray) (hs : s.data.toList.length ≤ 1000000) (d : Nat) : ∀ (k i : Nat), i ≤ s.data.toList.length → s.data.toList.length - i = d → d < k →
    gatewardenref10_letters.l0 k s (i : Int) = some ((i + letters (s.data.toList.drop i) : Nat) : Int) := by
  have hsz : s.size = s.data.toList.length := size_list s
  induction d with
  | zero =>
    intro k i h hd hk
    obtain ⟨k, rfl⟩ : ∃ m, k = m + 1 := ⟨k - 1, by omega⟩
    obtain rfl : i = s.data.toList.length := by omega
    simp only [gatewardenref10_letters.l0]
    rw [if_neg (by omega), List.drop_length]
    rfl
  | succ d ih =>
    intro k i h hd hk
    obtain ⟨k, rfl⟩ : ∃ m, k = m + 1 := ⟨k - 1, by omega⟩
    have hlt : i < s.data.toList.length := by omega
    simp only [gatewardenref10_letters.l0]
    rw [if_pos (by omega), if_pos (by omega), bt_nat hlt, show wrap64 ((i : Int) + 1) = ((i + 1 : Nat) : Int) by rw [w64 (by omega) (by omega)]; omega, ih k (i + 1) (by omega) (by omega) (by omega), List.drop_eq_getElem_cons hlt]
    have hd := isA_iff (s.data.toList[i])
    generalize s.data.toList[i] = c at hd ⊢
    unfold letters
    rw [List.takeWhile_cons]
    by_cases hc : abc.contains c = true
    · have := hd.1 hc
      rw [if_pos (by omega), if_pos (by omega), if_pos hc, List.length_cons]
      congr 1; omega
    · rw [if_neg hc]
      by_cases h1 : 97 ≤ c.toNat
      · rw [if_pos (by omega), if_neg (by intro h2; exact hc (hd.2 ⟨h1, by omega⟩))]; rfl
      · rw [if_neg (by omega)]; rfl
theorem refLetters_eq (s : ByteArray) (hs : s.data.toList.length ≤ 1000) (k : Nat) (hk : 1001 ≤ k) : gatewardenref10_letters.f k s = some ((letters s.data.toList : Nat) : Int) := by
  unfold gatewardenref10_letters.f
  have := refLetters_loop s (by omega) s.data.toList.length k 0 (by omega) (by omega) (by omega)
  rw [List.drop_zero, Nat.zero_add] at this
  exact this
theorem refRem_loop (s : ByteArray) (hs : s.data.toList.length ≤ 1000000) (d : Nat) : ∀ (k i : Nat), i ≤ s.data.toList.length → s.data.toList.length - i = d → d < k →
    gatewardenref10_one.l0 k s (i : Int) = some (0, (⟨#[]⟩ : ByteArray), 0, 0, ((i + ((s.data.toList.drop i).takeWhile noLF).length : Nat) : Int), true) := by
  have hsz : s.size = s.data.toList.length := size_list s
  induction d with
  | zero =>
    intro k i h hd hk
    obtain ⟨k, rfl⟩ : ∃ m, k = m + 1 := ⟨k - 1, by omega⟩
    obtain rfl : i = s.data.toList.length := by omega
    simp only [gatewardenref10_one.l0]
    rw [if_neg (by omega), List.drop_length]
    rfl
  | succ d ih =>
    intro k i h hd hk
    obtain ⟨k, rfl⟩ : ∃ m, k = m + 1 := ⟨k - 1, by omega⟩
    have hlt : i < s.data.toList.length := by omega
    simp only [gatewardenref10_one.l0]
    rw [if_pos (by omega), if_pos (by omega), bt_nat hlt, show wrap64 ((i : Int) + 1) = ((i + 1 : Nat) : Int) by rw [w64 (by omega) (by omega)]; omega, ih k (i + 1) (by omega) (by omega) (by omega), List.drop_eq_getElem_cons hlt]
    generalize s.data.toList[i] = c
    rw [List.takeWhile_cons]
    by_cases hc : c = 10
    · subst hc
      rw [if_pos (by rfl), if_neg (by decide)]
      simp
    · have hn : noLF c = true := by unfold noLF; simpa using hc
      rw [if_neg (by intro h2; exact hc (UInt8.toNat_inj.1 (show c.toNat = (10 : UInt8).toNat from by show c.toNat = 10; omega))), if_pos hn, List.length_cons]
      congr 6; omega
/-- What the document's one tells of a text that isn't empty. -/
def oneF (l : List UInt8) : Option (Option (Int × Int) × Nat × Int) → Int × ByteArray × Int × Int × Int × Bool → Prop
  | none, r => r.2.2.2.2.2 = false
  | some (none, n, _), r => r = (0, ⟨#[]⟩, 0, 0, (n : Int), true)
  | some (some (k, v), n, _), r => r = (k, strOf (l.take n), v, 0, (n : Int), true) ∧ k ≠ 0
theorem extract_take (s : ByteArray) (n : Nat) : s.extract 0 n = strOf (s.data.toList.take n) := by
  apply ext_list
  rw [strOf_list]
  simp [ByteArray.data_extract]
theorem one_eq (s : ByteArray) (hs : s.data.toList.length ≤ 1000) (c : UInt8) (t : List UInt8) (hct : s.data.toList = c :: t) : ∃ r, gatewardenref10_one.f 2000 s = some r ∧ oneF (c :: t) (stepC c t) r := by
  have hsz : s.size = s.data.toList.length := size_list s
  have hl : t.length + 1 = s.data.toList.length := by rw [hct]; rfl
  have hb : bt s 0 = (c.toNat : Int) := by
    have h := bt_nat (s := s) (i := 0) (by omega)
    have h2 : s.data.toList[0]'(by omega) = c := by simp [hct]
    rw [h2] at h
    exact h
  have hrem := refRem_loop s (by omega) (s.data.toList.length - 1) 1998 1 (by omega) rfl (by omega)
  unfold gatewardenref10_one.f
  rw [refLetters_eq s hs 2000 (by omega), Option.bind_some, refLead_eq s hs 2000 (by omega), Option.bind_some, hb]
  have hA := isA_iff c
  have hD := isD_iff c
  have hle1 : letters s.data.toList ≤ s.data.toList.length := letters_le _
  have hle2 : lead s.data.toList ≤ s.data.toList.length := lead_le _
  by_cases habc : abc.contains c = true
  · have hr := hA.1 habc
    have hn : letters s.data.toList = letters t + 1 := by rw [hct, letters_cons habc]
    have hs1 : stepC c t = some (some (1, 0), letters (c :: t), 0) := by
      unfold stepC
      rw [if_neg (by rintro rfl; exact absurd habc (by decide)), if_neg (by rintro (rfl | rfl | rfl) <;> exact absurd habc (by decide)), if_neg (by rintro rfl; exact absurd habc (by decide)), if_pos habc]
    rw [if_pos (by omega), if_pos (by omega), if_pos (by omega), hs1]
    refine ⟨_, rfl, ?_, by decide⟩
    rw [Int.toNat_natCast, extract_take, hct]
  have hn : letters s.data.toList = 0 := by rw [hct]; unfold letters; rw [List.takeWhile_cons, if_neg habc]; rfl
  rw [if_neg (by omega)]
  by_cases hten : ten.contains c = true
  · have hr := hD.1 hten
    have hn : lead s.data.toList = lead t + 1 := by rw [hct, lead_cons hten]
    have hs1 : stepC c t = (readF ((c :: t).take (lead (c :: t)))).map fun v => (some (2, v), lead (c :: t), 0) := by
      unfold stepC
      rw [if_neg (by rintro rfl; exact absurd hten (by decide)), if_neg (by rintro (rfl | rfl | rfl) <;> exact absurd hten (by decide)), if_neg (by rintro rfl; exact absurd hten (by decide)), if_neg habc, if_pos hten]
    rw [if_pos (by omega), if_pos (by omega), if_pos (by omega), hs1, Int.toNat_natCast, extract_take, refGet_any, Option.bind_some, strOf_list, ← hct]
    cases readF (List.take (lead s.data.toList) s.data.toList) with
    | none => exact ⟨_, rfl, rfl⟩
    | some v => exact ⟨_, rfl, rfl, by decide⟩
  have hn2 : lead s.data.toList = 0 := by rw [hct]; unfold lead; rw [List.takeWhile_cons, if_neg hten]; rfl
  rw [if_neg (by omega), if_pos (by omega)]
  have hne : ∀ d : UInt8, c ≠ d → ((c.toNat : Int) == ((d.toNat : Nat) : Int)) = false ∧ ¬ (c.toNat : Int) = ((d.toNat : Nat) : Int) := fun d h => by
    have h2 : ¬ (c.toNat : Int) = ((d.toNat : Nat) : Int) := fun h2 => h (UInt8.toNat_inj.1 (by omega))
    exact ⟨beq_eq_false_iff_ne.2 h2, h2⟩
  have h1s : s.extract 0 1 = strOf ((c :: t).take 1) := by rw [extract_take, hct]
  have hsz1 : (1 : Int) ≤ (s.size : Int) := by omega
  by_cases h40 : c = 40
  · subst h40
    exact ⟨(3, strOf [40], 0, 0, 1, true), by simp [gatewardenref10_one.j0, h1s, hsz1], rfl, by decide⟩
  by_cases h41 : c = 41
  · subst h41
    exact ⟨(3, strOf [41], 0, 0, 1, true), by simp [gatewardenref10_one.j0, h1s, hsz1], rfl, by decide⟩
  by_cases h44 : c = 44
  · subst h44
    exact ⟨(3, strOf [44], 0, 0, 1, true), by simp [gatewardenref10_one.j0, h1s, hsz1], rfl, by decide⟩
  by_cases h59 : c = 59
  · subst h59
    exact ⟨(3, strOf [59], 0, 0, 1, true), by simp [gatewardenref10_one.j0, h1s, hsz1], rfl, by decide⟩
  have n40 : ((c.toNat : Int) == 40) = false ∧ ¬ (c.toNat : Int) = 40 := hne 40 h40
  have n41 : ((c.toNat : Int) == 41) = false ∧ ¬ (c.toNat : Int) = 41 := hne 41 h41
  have n44 : ((c.toNat : Int) == 44) = false ∧ ¬ (c.toNat : Int) = 44 := hne 44 h44
  have n59 : ((c.toNat : Int) == 59) = false ∧ ¬ (c.toNat : Int) = 59 := hne 59 h59
  rw [if_neg n40.2, if_neg n41.2, if_neg n44.2]
  have hj : gatewardenref10_one.j0 2000 s (c.toNat : Int) ((c.toNat : Int) == 59) = gatewardenref10_one.j0 2000 s (c.toNat : Int) false := congrArg _ n59.1
  rw [hj]
  by_cases h45 : c = 45
  · subst h45
    exact ⟨(4, strOf [45], 0, 0, 1, true), by simp [gatewardenref10_one.j0]; rfl, rfl, by decide⟩
  by_cases h32 : c = 32
  · subst h32
    exact ⟨(0, ⟨#[]⟩, 0, 0, 1, true), by simp [gatewardenref10_one.j0, gatewardenref10_one.j1], rfl⟩
  by_cases h9 : c = 9
  · subst h9
    exact ⟨(0, ⟨#[]⟩, 0, 0, 1, true), by simp [gatewardenref10_one.j0, gatewardenref10_one.j1], rfl⟩
  by_cases h10 : c = 10
  · subst h10
    exact ⟨(0, ⟨#[]⟩, 0, 0, 1, true), by simp [gatewardenref10_one.j0, gatewardenref10_one.j1], rfl⟩
  by_cases h13 : c = 13
  · subst h13
    exact ⟨(0, ⟨#[]⟩, 0, 0, 1, true), by simp [gatewardenref10_one.j0, gatewardenref10_one.j1], rfl⟩
  have n45 : ((c.toNat : Int) == 45) = false ∧ ¬ (c.toNat : Int) = 45 := hne 45 h45
  have n32 : ((c.toNat : Int) == 32) = false ∧ ¬ (c.toNat : Int) = 32 := hne 32 h32
  have n9 : ((c.toNat : Int) == 9) = false ∧ ¬ (c.toNat : Int) = 9 := hne 9 h9
  have n10 : ((c.toNat : Int) == 10) = false ∧ ¬ (c.toNat : Int) = 10 := hne 10 h10
  have n13 : ((c.toNat : Int) == 13) = false ∧ ¬ (c.toNat : Int) = 13 := hne 13 h13
  have hj2 : gatewardenref10_one.j0 2000 s (c.toNat : Int) false = gatewardenref10_one.j1 1999 s (c.toNat : Int) false := by
    rw [gatewardenref10_one.j0, if_neg (by decide), if_neg n45.2, if_neg n32.2, if_neg n9.2, if_neg n10.2]
    exact congrArg _ n13.1
  rw [hj2, gatewardenref10_one.j1, if_neg (by decide)]
  by_cases h35 : c = 35
  · subst h35
    rw [if_pos (by rfl)]
    refine ⟨_, hrem, ?_⟩
    have hs1 : stepC 35 t = some (none, 1 + (t.takeWhile noLF).length, 0) := rfl
    rw [hs1, hct]
    rfl
  have n35 : ((c.toNat : Int) == 35) = false ∧ ¬ (c.toNat : Int) = 35 := hne 35 h35
  rw [if_neg n35.2]
  refine ⟨_, rfl, ?_⟩
  have hs1 : stepC c t = none := by
    unfold stepC
    rw [if_neg h10, if_neg (by rintro (h | h | h); exact h32 h; exact h9 h; exact h13 h), if_neg h35, if_neg habc, if_neg hten, if_neg (by rintro (h | h | h | h); exact h40 h; exact h41 h; exact h44 h; exact h59 h), if_neg h45]
  rw [hs1]
  rfl
end Go.Proofs.YtjllahglfpbemaaDoor.PGuardTells
