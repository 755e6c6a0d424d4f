/- Plain laws of digits: what guard and the document say of them. -/
import Derived.Test.YtjllahglfpbemaaDoorGuardGet
namespace Go.Proofs.YtjllahglfpbemaaDoor.PGuardTells
open Go Go.RowKit Go.Proofs.YtjllahglfpbemaaDoorW.PrintWords Go.Proofs.YtjllahglfpbemaaDoorW.PrintLast Go.Proofs.YtjllahglfpbemaaDoorW.PrintMore
set_option linter.unusedVariables false
set_option linter.unusedSimpArgs false
open Go.Lib (decDigits nDigits)
theorem dec_small {u : Nat} (h : u < 10) : decDigits u = [UInt8.ofNat (48 + u)] := by rw [decDigits, dif_pos h]
theorem dec_big {u : Nat} (h : ¬ u < 10) : decDigits u = decDigits (u / 10) ++ [UInt8.ofNat (48 + u % 10)] := by conv => lhs; rw [decDigits, dif_neg h]
theorem ofNat_toNat {k : Nat} (h : k < 10) : (UInt8.ofNat (48 + k)).toNat = 48 + k := by
  rw [UInt8.toNat_ofNat']; omega
theorem rd_cons_ok {c : UInt8} {l : List UInt8} {n : Int} (h1 : 48 ≤ c.toNat) (h2 : c.toNat ≤ 57) (h3 : 10 * n + (c.toNat : Int) - 48 ≤ (9007199254740992 : Int)) : rd (c :: l) n = rd l (10 * n + (c.toNat : Int) - 48) := by
  rw [rd, if_pos ⟨h1, h2, h3⟩]
/-- What is read behind digits. -/
theorem rd_dec (n : Nat) : ∀ (t : List UInt8), (n : Int) ≤ (9007199254740992 : Int) → rd (decDigits n ++ t) 0 = rd t (n : Int) := by
  induction n using Nat.strongRecOn with
  | ind n ih =>
    intro t hn
    by_cases h : n < 10
    · rw [dec_small h, List.singleton_append]
      have e := ofNat_toNat h
      rw [rd_cons_ok (by omega) (by omega) (by rw [e]; omega), e]
      congr 1; omega
    · rw [dec_big h, List.append_assoc, ih (n / 10) (by omega) _ (by omega), List.singleton_append]
      have e := ofNat_toNat (Nat.mod_lt n (show 0 < 10 by decide))
      rw [rd_cons_ok (by omega) (by omega) (by rw [e]; omega), e]
      congr 1; omega
/-- Digits behind a number that isn't 0. -/
theorem dec_of_rd : ∀ (l : List UInt8) (m n : Int), 0 < m → m ≤ (9007199254740992 : Int) → rd l m = some n → decDigits n.toNat = decDigits m.toNat ++ l ∧ m ≤ n ∧ n ≤ (9007199254740992 : Int)
  | [], m, n, h0, hm, h => by
    rw [rd] at h
    cases h
    exact ⟨(List.append_nil _).symm, Int.le_refl _, hm⟩
  | c :: l, m, n, h0, hm, h => by
    rw [rd] at h
    split at h
    · rename_i hc
      obtain ⟨h1, h2, h3⟩ := hc
      obtain ⟨e, h4, h5⟩ := dec_of_rd l _ n (by omega) h3 h
      refine ⟨?_, by omega, h5⟩
      rw [e, dec_big (u := (10 * m + (c.toNat : Int) - 48).toNat) (by omega), show (10 * m + (c.toNat : Int) - 48).toNat / 10 = m.toNat by omega, show (10 * m + (c.toNat : Int) - 48).toNat % 10 = c.toNat - 48 by omega]
      rw [show (UInt8.ofNat (48 + (c.toNat - 48))) = c from UInt8.toNat_inj.1 (by rw [ofNat_toNat (by omega)]; omega), List.append_assoc, List.singleton_append]
    · cases h
theorem head_dec (n : Nat) : (decDigits n).head? = some 48 → n = 0 := by
  induction n using Nat.strongRecOn with
  | ind n ih =>
    intro h
    by_cases hn : n < 10
    · rw [dec_small hn] at h
      have h2 : UInt8.ofNat (48 + n) = 48 := by simpa using h
      have h3 := congrArg UInt8.toNat h2
      rw [ofNat_toNat hn] at h3
      have : (48 : UInt8).toNat = 48 := rfl
      omega
    · have hne : decDigits (n / 10) ≠ [] := by
        intro h4
        have h5 := congrArg List.length h4
        rw [Go.Lib.decDigits_length] at h5
        rw [nDigits] at h5
        split at h5 <;> simp at h5
      have h6 : (decDigits (n / 10) ++ [UInt8.ofNat (48 + n % 10)]).head? = (decDigits (n / 10)).head? := by
        cases h7 : decDigits (n / 10) with
        | nil => exact absurd h7 hne
        | cons c t => rfl
      rw [dec_big hn, h6] at h
      have := ih (n / 10) (by omega) h
      omega
theorem dec_ne (n : Nat) : decDigits n ≠ [] := by
  intro h4
  have h5 := congrArg List.length h4
  rw [Go.Lib.decDigits_length] at h5
  rw [nDigits] at h5
  split at h5 <;> simp at h5
/-- guard.read reads just the digits of the numbers that may be. -/
theorem readF_iff (l : List UInt8) (n : Int) : readF l = some n ↔ 0 ≤ n ∧ n ≤ (9007199254740992 : Int) ∧ l = decDigits n.toNat := by
  unfold readF
  constructor
  · intro h
    split at h
    · cases h
    · rename_i hc
      rw [not_or] at hc
      obtain ⟨hne, hhd⟩ := hc
      cases l with
      | nil => exact absurd rfl hne
      | cons c l =>
        have h' := h
        rw [rd] at h
        split at h
        · rename_i hcd
          obtain ⟨h1, h2, h3⟩ := hcd
          by_cases h48 : c = 48
          · subst h48
            have hl : l = [] := by
              by_cases hl : l = []
              · exact hl
              · exact absurd ⟨rfl, by intro he; exact hl (List.cons.inj he).2⟩ hhd
            subst hl
            rw [rd] at h
            have e48 : (48 : UInt8).toNat = 48 := rfl
            cases h
            refine ⟨by omega, by omega, ?_⟩
            rw [show (10 * (0 : Int) + ((48 : UInt8).toNat : Int) - 48).toNat = 0 by omega, dec_small (by omega)]
            rfl
          · have e48 : (48 : UInt8).toNat = 48 := rfl
            have hgt : 48 < c.toNat := by
              have : c.toNat ≠ 48 := fun he => h48 (UInt8.toNat_inj.1 (he.trans e48.symm))
              omega
            obtain ⟨e, h4, h5⟩ := dec_of_rd l _ n (by omega) h3 h
            refine ⟨by omega, h5, ?_⟩
            rw [e, dec_small (by omega), show 48 + (10 * (0 : Int) + (c.toNat : Int) - 48).toNat = c.toNat by omega]
            simp
        · cases h
  · rintro ⟨h0, h1, rfl⟩
    have e := rd_dec n.toNat [] (by omega)
    rw [List.append_nil, rd] at e
    rw [if_neg, e]
    · congr 1; omega
    · rintro (h | ⟨h, h2⟩)
      · exact dec_ne _ h
      · have := head_dec _ h
        rw [this] at h2
        exact h2 (by rw [dec_small (by omega)]; rfl)
theorem isD_dec (n : Nat) : ∀ c ∈ decDigits n, ten.contains c = true := by
  induction n using Nat.strongRecOn with
  | ind n ih =>
    intro c hc
    have hd : ∀ k, k < 10 → ten.contains (UInt8.ofNat (48 + k)) = true := by
      intro k hk
      have : k = 0 ∨ k = 1 ∨ k = 2 ∨ k = 3 ∨ k = 4 ∨ k = 5 ∨ k = 6 ∨ k = 7 ∨ k = 8 ∨ k = 9 := by omega
      rcases this with h | h | h | h | h | h | h | h | h | h <;> subst h <;> rfl
    by_cases h : n < 10
    · rw [dec_small h, List.mem_singleton] at hc
      subst hc
      exact hd n h
    · rw [dec_big h, List.mem_append, List.mem_singleton] at hc
      rcases hc with hc | rfl
      · exact ih _ (by omega) c hc
      · exact hd _ (Nat.mod_lt _ (by decide))
theorem nDigits_le (k : Nat) : ∀ n : Nat, n < 10 ^ (k + 1) → nDigits n ≤ k + 1 := by
  induction k with
  | zero => intro n hn; rw [nDigits, dif_pos (by omega)]; omega
  | succ k ih =>
    intro n hn
    rw [nDigits]
    split
    · omega
    · have := ih (n / 10) (by rw [Nat.pow_succ] at hn; omega)
      omega
theorem nDigits_mono (a : Nat) : ∀ b, a ≤ b → nDigits a ≤ nDigits b := by
  induction a using Nat.strongRecOn with
  | ind a ih =>
    intro b hab
    by_cases hb : b < 10
    · rw [nDigits, dif_pos (by omega), nDigits, dif_pos hb]; omega
    · by_cases ha : a < 10
      · rw [nDigits, dif_pos ha, nDigits, dif_neg hb]; omega
      · have := ih (a / 10) (by omega) (b / 10) (by omega)
        rw [nDigits, dif_neg ha]
        conv => rhs; rw [nDigits, dif_neg hb]
        omega
theorem isD_iff (c : UInt8) : ten.contains c = true ↔ 48 ≤ c.toNat ∧ c.toNat ≤ 57 := by
  constructor
  · intro h
    have h2 : c ∈ ten := List.contains_iff_mem.1 h
    simp only [ten, List.mem_cons, List.not_mem_nil, or_false] at h2
    rcases h2 with h | h | h | h | h | h | h | h | h | h <;> subst h <;> decide
  · rintro ⟨h1, h2⟩
    have e := ofNat_toNat (k := c.toNat - 48) (by omega)
    have e2 : c = UInt8.ofNat (48 + (c.toNat - 48)) := UInt8.toNat_inj.1 (by rw [e]; omega)
    rw [e2]
    have hk : c.toNat - 48 = 0 ∨ c.toNat - 48 = 1 ∨ c.toNat - 48 = 2 ∨ c.toNat - 48 = 3 ∨ c.toNat - 48 = 4 ∨ c.toNat - 48 = 5 ∨ c.toNat - 48 = 6 ∨ c.toNat - 48 = 7 ∨ c.toNat - 48 = 8 ∨ c.toNat - 48 = 9 := by omega
    rcases hk with h | h | h | h | h | h | h | h | h | h <;> rw [h] <;> rfl
theorem bt_nat {s : ByteArray} {i : Nat} (h : i < s.data.toList.length) : bt s (i : Int) = ((s.data.toList[i]).toNat : Int) := by
  have h2 : ((i : Int)).toNat < s.size := by rw [Int.toNat_natCast]; rw [Array.length_toList] at h; exact h
  unfold bt
  rw [dif_pos h2]
  rfl
theorem w64 {n : Int} (h0 : -9223372036854775808 ≤ n) (h1 : n ≤ 9223372036854775807) : wrap64 n = n := by unfold wrap64; omega
def lead (l : List UInt8) : Nat := (l.takeWhile (ten.contains ·)).length
theorem lead_le (l : List UInt8) : lead l ≤ l.length := List.Sublist.length_le (List.takeWhile_sublist _)
theorem trim_length (l : List UInt8) : (Lib.trimLeftS l ten).length = l.length - lead l := by
  have := congrArg List.length (List.takeWhile_append_dropWhile (p := (ten.contains ·)) (l := l))
  rw [List.length_append] at this
  unfold Lib.trimLeftS lead
  omega
theorem refLead_loop (s : ByteArray) (hs : s.data.toList.length ≤ 1000000) (d : Nat) : ∀ (k i : Nat), i ≤ s.data.toList.length → s.data.toList.length - i = d → d < k →
    gatewardenref02_Lead.l0 k s (i : Int) = some ((i + lead (s.data.toList.drop i) : Nat) : Int) := by
  have hsz : s.size = s.data.toList.length := by rw [Array.length_toList]; rfl
  induction d with
  | zero =>
    intro k i h hd hk
    obtain ⟨k, rfl⟩ : ∃ m, k = m + 1 := ⟨k - 1, by omega⟩
    obtain rfl : i = s.data.toList.length := by omega
    simp only [gatewardenref02_Lead.l0]
    rw [if_neg (by omega), List.drop_length]
    rfl
  | succ d ih =>
    intro k i h hd hk
    obtain ⟨k, rfl⟩ : ∃ m, k = m + 1 := ⟨k - 1, by omega⟩
    have hlt : i < s.data.toList.length := by omega
    simp only [gatewardenref02_Lead.l0]
    rw [if_pos (by omega), if_pos (by omega), bt_nat hlt, show wrap64 ((i : Int) + 1) = ((i + 1 : Nat) : Int) by rw [w64 (by omega) (by omega)]; omega, ih k (i + 1) (by omega) (by omega) (by omega), List.drop_eq_getElem_cons hlt]
    have hd := isD_iff (s.data.toList[i])
    generalize s.data.toList[i] = c at hd ⊢
    unfold lead
    rw [List.takeWhile_cons]
    by_cases hc : ten.contains c = true
    · have := hd.1 hc
      rw [if_pos (by omega), if_pos (by omega), if_pos hc, List.length_cons]
      congr 1; omega
    · rw [if_neg hc]
      by_cases h1 : 48 ≤ c.toNat
      · rw [if_pos (by omega), if_neg (by intro h2; exact hc (hd.2 ⟨h1, by omega⟩))]; rfl
      · rw [if_neg (by omega)]; rfl
theorem refLead_eq (s : ByteArray) (hs : s.data.toList.length ≤ 1000) (k : Nat) (hk : 1001 ≤ k) : gatewardenref02_Lead.f k s = some ((lead s.data.toList : Nat) : Int) := by
  unfold gatewardenref02_Lead.f
  have := refLead_loop s (by omega) s.data.toList.length k 0 (by omega) (by omega) (by omega)
  rw [List.drop_zero, Nat.zero_add] at this
  exact this
end Go.Proofs.YtjllahglfpbemaaDoor.PGuardTells
