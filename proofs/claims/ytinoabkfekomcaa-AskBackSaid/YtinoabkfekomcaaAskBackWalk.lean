/- AskBack: a request that may be comes back; bytes that are a request are its, and at most 253 (walked by hand over the functions as printed for the law AskSizes). -/
import Derived.Test.YtinoabkfekomcaaAskCutWalk
import Derived.Test.YtinoabkfekomcaaPAskSizesx9
namespace Go.Proofs.Ytinoabkfekomcaa.AskAskSizes
open Go Go.RowKit Go.Proofs.Ytinoabkfekomcaa.PAskSizes Go.Proofs.YtinoabkfekomcaaW.PrintWords Go.Proofs.YtinoabkfekomcaaW.PrintLast Go.Proofs.Ytinoabkfekomcaa.Base Go.Proofs.Ytinoabkfekomcaa.RepAskSizes Go.Proofs.Ytinoabkfekomcaa.CoilAskSizes Go.Proofs.Ytinoabkfekomcaa.Coil
set_option maxHeartbeats 8000000
set_option maxRecDepth 100000
set_option linter.unusedVariables false
theorem w16_str {zs : List Int} (h : By zs) (i : Nat) : w16 (strOfNums zs) i = zs.getD i 0 * 256 + zs.getD (i + 1) 0 := by
  unfold w16
  rw [bt_str h, bt_str h]
theorem two_be {p q : Int} (hp : 0 ≤ p ∧ p ≤ 255) (hq : 0 ≤ q ∧ q ≤ 255) (t : List Int) : be ((p * 256 + q) :: t) = p :: q :: be t := by
  show ((p * 256 + q) / 256) % 256 :: (p * 256 + q) % 256 :: be t = _
  rw [show ((p * 256 + q) / 256) % 256 = p from by omega, show (p * 256 + q) % 256 = q from by omega]
theorem be_two {v : Int} (h0 : 0 ≤ v) (h1 : v ≤ 65535) : (v / 256) % 256 * 256 + v % 256 = v := by omega
theorem tail_form {nb : Int} {rest : List Int} (hB : By (nb :: rest)) (bits : Bool) (many : Int) :
    tailP (strOfNums (nb :: rest)) bits many = if (rest.length : Int) = nb then (if bits = true then get (strOfNums rest) many else getAll (strOfNums rest)) else ([], false) := by
  have hb : bt (strOfNums (nb :: rest)) 0 = nb := bt_str hB 0
  have hd : (strOfNums (nb :: rest)).extract 1 (strOfNums (nb :: rest)).size = strOfNums rest := drop_strOfNums (nb :: rest) 1
  unfold tailP
  rw [hb, hd, strOfNums_size, List.length_cons]
  by_cases h : (rest.length : Int) = nb
  · rw [if_pos h, if_neg (by omega)]
  · rw [if_neg h, if_pos (.inr (by omega))]
theorem getAll_be {l : List Int} (h : Rg 65535 l) : getAll (strOfNums (be l)) = (l, true) := by
  unfold getAll
  have hps : (strOfNums (be l)).size = 2 * l.length := by rw [strOfNums_size, be_length]
  rw [if_neg (by omega), bytesOf_strOfNums (be_bound l), un_be h]
theorem get_ok {fc r1 r2 r3 r4 : Int} {l zs : List Int} (hk : Knows fc) (hB : By zs) (hr : readP fc (strOfNums zs) = (r1, r2, r3, r4, l, true)) (h : rightP fc r1 r2 r3 r4 l = true) :
    getP (strOfNums (fc :: zs)) = (fc, r1, r2, r3, r4, l, 0) := by
  have hB' : By (fc :: zs) := by
    intro x hx
    rcases List.mem_cons.1 hx with rfl | hx
    · exact knows_bound hk
    · exact hB x hx
  have hb : bt (strOfNums (fc :: zs)) 0 = fc := bt_str hB' 0
  have hz : (strOfNums (fc :: zs)).size ≠ 0 := by rw [strOfNums_size]; simp
  have hd : (strOfNums (fc :: zs)).extract 1 (strOfNums (fc :: zs)).size = strOfNums zs := drop_strOfNums (fc :: zs) 1
  have hs : (formedP fc r1 r2 r3 r4 l && endsP r1 r2 r3 r4) = true := h
  rw [Bool.and_eq_true] at hs
  unfold getP
  rw [hb, hd, knows_known hk, hr, if_neg (by intro h; cases h with | inl h => exact hz h | inr h => cases h)]
  rw [if_neg (by rw [hs.1]; intro h; cases h with | inl h => cases h | inr h => cases h), if_neg (by rw [hs.2]; decide)]
theorem back_get {a0 a1 a2 a3 a4 : Int} {l : List Int} (ht : Rt a0 a1 a2 a3 a4 l) (hr : rightP a0 a1 a2 a3 a4 l = true) : getP (strOfNums (putL a0 a1 a2 a3 a4 l)) = (a0, a1, a2, a3, a4, l, 0) := by
  have hk : Knows a0 := (rest_form ht).choose_spec.2.2.2.2
  have app : ∀ {x y : List Int}, By x → By y → By (x ++ y) := fun hx hy z hz => (List.mem_append.1 hz).elim (hx z) (hy z)
  have one : ∀ {x : Int}, 0 ≤ x ∧ x ≤ 255 → By [x] := fun hx z hz => by rw [List.mem_singleton.1 hz]; exact hx
  rcases ht with ⟨h0, h1, h2, hl, hg⟩ | ⟨h0, h1, h2, hl, hg⟩ | ⟨rfl, h1, h2, hl, hg⟩ | ⟨rfl, h1, h2, hl, hg⟩ | ⟨rfl, h1, h2, hl, hg⟩ | ⟨rfl, h1, h2, hl, hg⟩ | ⟨rfl, h1, h2, hl, hg⟩ | ⟨rfl, h1, h2, hl, hg⟩
  · obtain rfl : l = [] := List.eq_nil_of_length_eq_zero (by omega)
    obtain ⟨rfl, rfl⟩ := h2
    have e : putL a0 a1 a2 0 0 [] = a0 :: be [a1, a2] := by unfold putL; rw [if_pos (by omega)]; rfl
    rw [e]
    refine get_ok hk (be_bound _) ?_ hr
    unfold readP
    rw [if_neg (by omega), if_neg (by omega), if_neg (by rw [strOfNums_size, be_length]; simp), if_pos (by omega), w16_str (be_bound _), w16_str (be_bound _), strOfNums_size]
    show ((a1 / 256) % 256 * 256 + a1 % 256, (a2 / 256) % 256 * 256 + a2 % 256, (0 : Int), (0 : Int), ([] : List Int), true) = _
    rw [be_two (by omega) (by omega), be_two (by omega) (by omega)]
  · obtain rfl : l = [] := List.eq_nil_of_length_eq_zero (by omega)
    obtain ⟨rfl, rfl⟩ := h2
    have e : putL a0 a1 a2 0 0 [] = a0 :: be [a1, a2] := by unfold putL; rw [if_pos (by omega)]; rfl
    rw [e]
    refine get_ok hk (be_bound _) ?_ hr
    unfold readP
    rw [if_neg (by omega), if_neg (by omega), if_neg (by rw [strOfNums_size, be_length]; simp), if_pos (by omega), w16_str (be_bound _), w16_str (be_bound _), strOfNums_size]
    show ((a1 / 256) % 256 * 256 + a1 % 256, (a2 / 256) % 256 * 256 + a2 % 256, (0 : Int), (0 : Int), ([] : List Int), true) = _
    rw [be_two (by omega) (by omega), be_two (by omega) (by omega)]
  · obtain ⟨v, rfl⟩ : ∃ v, l = [v] := by
      match l, hl with
      | [v], _ => exact ⟨v, rfl⟩
      | [], h => simp at h; omega
      | _ :: _ :: _, h => simp at h; omega
    have hv := hg v (by simp)
    obtain ⟨rfl, rfl⟩ := h1
    obtain rfl : a4 = 1 := by omega
    refine get_ok (zs := be [a3, v * 65280]) hk (be_bound _) ?_ hr
    unfold readP
    rw [if_neg (by decide), if_neg (by decide), if_neg (by rw [strOfNums_size, be_length]; simp), if_neg (by decide), if_pos rfl, w16_str (be_bound _), w16_str (be_bound _), strOfNums_size]
    show ((0 : Int), (0 : Int), (a3 / 256) % 256 * 256 + a3 % 256, (1 : Int), [((v * 65280) / 256 % 256 * 256 + (v * 65280) % 256) / 65280], (true && (((v * 65280) / 256 % 256 * 256 + (v * 65280) % 256) % 65280 == 0))) = _
    rw [be_two (by omega) (by omega), be_two (v := v * 65280) (by omega) (by omega), show v * 65280 / 65280 = v from by omega, show v * 65280 % 65280 = 0 from by omega]
    rfl
  · obtain ⟨v, rfl⟩ : ∃ v, l = [v] := by
      match l, hl with
      | [v], _ => exact ⟨v, rfl⟩
      | [], h => simp at h; omega
      | _ :: _ :: _, h => simp at h; omega
    have hv := hg v (by simp)
    obtain ⟨rfl, rfl⟩ := h1
    obtain rfl : a4 = 1 := by omega
    refine get_ok (zs := be [a3, v]) hk (be_bound _) ?_ hr
    unfold readP
    rw [if_neg (by decide), if_neg (by decide), if_neg (by rw [strOfNums_size, be_length]; simp), if_neg (by decide), if_neg (by decide), if_pos rfl, w16_str (be_bound _), w16_str (be_bound _), strOfNums_size]
    show ((0 : Int), (0 : Int), (a3 / 256) % 256 * 256 + a3 % 256, (1 : Int), [v / 256 % 256 * 256 + v % 256], true) = _
    rw [be_two (by omega) (by omega), be_two (by omega) (by omega)]
  · have hbits := bits_of_rg hg
    have hps : (strOfNums (pack l)).size = (l.length + 7) / 8 := by rw [strOfNums_size, pack_length]
    obtain ⟨rfl, rfl⟩ := h1
    have hB : By ((((l.length + 7) / 8 : Nat) : Int) :: pack l) := fun x hx => (List.mem_cons.1 hx).elim (fun h => by rw [h]; omega) (pack_bound hbits x)
    have hB2 : By (be [a3, a4] ++ ((((l.length + 7) / 8 : Nat) : Int) :: pack l)) := app (be_bound _) hB
    refine get_ok (zs := be [a3, a4] ++ ((((l.length + 7) / 8 : Nat) : Int) :: pack l)) hk hB2 ?_ hr
    unfold readP
    rw [if_neg (by decide), if_neg (by decide), if_neg (by rw [strOfNums_size]; simp [be_length]), if_neg (by decide), if_neg (by decide), if_neg (by decide), w16_str hB2, w16_str hB2, drop_strOfNums]
    show ((0 : Int), (0 : Int), (a3 / 256) % 256 * 256 + a3 % 256, (a4 / 256) % 256 * 256 + a4 % 256, (tailP (strOfNums ((((l.length + 7) / 8 : Nat) : Int) :: pack l)) true ((a4 / 256) % 256 * 256 + a4 % 256)).1, (tailP (strOfNums ((((l.length + 7) / 8 : Nat) : Int) :: pack l)) true ((a4 / 256) % 256 * 256 + a4 % 256)).2) = _
    rw [be_two (by omega) (by omega), be_two (by omega) (by omega), tail_form hB, if_pos (by rw [pack_length]), if_pos rfl, ← hl, get_yes hps (clean_pack hbits), bitsOf_pack hbits]
  · obtain ⟨rfl, rfl⟩ := h1
    have hB : By ((2 * a4) :: be l) := fun x hx => (List.mem_cons.1 hx).elim (fun h => by rw [h]; omega) (be_bound l x)
    have hB2 : By (be [a3, a4] ++ ((2 * a4) :: be l)) := app (be_bound _) hB
    refine get_ok (zs := be [a3, a4] ++ ((2 * a4) :: be l)) hk hB2 ?_ hr
    unfold readP
    rw [if_neg (by decide), if_neg (by decide), if_neg (by rw [strOfNums_size]; simp [be_length]), if_neg (by decide), if_neg (by decide), if_neg (by decide), w16_str hB2, w16_str hB2, drop_strOfNums]
    show ((0 : Int), (0 : Int), (a3 / 256) % 256 * 256 + a3 % 256, (a4 / 256) % 256 * 256 + a4 % 256, (tailP (strOfNums ((2 * a4) :: be l)) false ((a4 / 256) % 256 * 256 + a4 % 256)).1, (tailP (strOfNums ((2 * a4) :: be l)) false ((a4 / 256) % 256 * 256 + a4 % 256)).2) = _
    rw [be_two (by omega) (by omega), be_two (by omega) (by omega), tail_form hB, if_pos (by rw [be_length]; omega), if_neg (by decide), getAll_be hg]
  · obtain ⟨v, u, rfl⟩ : ∃ v u, l = [v, u] := by
      match l, hl with
      | [v, u], _ => exact ⟨v, u, rfl⟩
      | [], h => simp at h
      | [_], h => simp at h
      | _ :: _ :: _ :: _, h => simp at h; omega
    have hv := hg v (by simp)
    have hu := hg u (by simp)
    obtain ⟨rfl, rfl⟩ := h1
    obtain rfl : a4 = 1 := by omega
    refine get_ok (zs := be [a3, v, u]) hk (be_bound _) ?_ hr
    unfold readP
    rw [if_pos rfl, if_neg (by rw [strOfNums_size, be_length]; simp), w16_str (be_bound _), w16_str (be_bound _), w16_str (be_bound _), strOfNums_size]
    show ((0 : Int), (0 : Int), (a3 / 256) % 256 * 256 + a3 % 256, (1 : Int), [v / 256 % 256 * 256 + v % 256, u / 256 % 256 * 256 + u % 256], true) = _
    rw [be_two (by omega) (by omega), be_two (by omega) (by omega), be_two (by omega) (by omega)]
  · have hB : By ((2 * a4) :: be l) := fun x hx => (List.mem_cons.1 hx).elim (fun h => by rw [h]; omega) (be_bound l x)
    have hB2 : By (be [a1, a2, a3, a4] ++ ((2 * a4) :: be l)) := app (be_bound _) hB
    refine get_ok (zs := be [a1, a2, a3, a4] ++ ((2 * a4) :: be l)) hk hB2 ?_ hr
    unfold readP
    rw [if_neg (by decide), if_pos rfl, if_neg (by rw [strOfNums_size]; simp [be_length]), w16_str hB2, w16_str hB2, w16_str hB2, w16_str hB2, drop_strOfNums]
    show ((a1 / 256) % 256 * 256 + a1 % 256, (a2 / 256) % 256 * 256 + a2 % 256, (a3 / 256) % 256 * 256 + a3 % 256, (a4 / 256) % 256 * 256 + a4 % 256, (tailP (strOfNums ((2 * a4) :: be l)) false ((a4 / 256) % 256 * 256 + a4 % 256)).1, (tailP (strOfNums ((2 * a4) :: be l)) false ((a4 / 256) % 256 * 256 + a4 % 256)).2) = _
    rw [be_two (by omega) (by omega), be_two (by omega) (by omega), be_two (by omega) (by omega), be_two (by omega) (by omega), tail_form hB, if_pos (by rw [be_length]; omega), if_neg (by decide), getAll_be hg]
theorem be_lit4 {p q r t : Int} (hB : By [p, q, r, t]) : be [p * 256 + q, r * 256 + t] = [p, q, r, t] := by
  rw [two_be (hB p (by simp)) (hB q (by simp)), two_be (hB r (by simp)) (hB t (by simp))]; rfl
theorem four_of {zs : List Int} (h : 4 ≤ zs.length) : ∃ p q r t ys, zs = p :: q :: r :: t :: ys := by
  match zs, h with
  | p :: q :: r :: t :: ys, _ => exact ⟨p, q, r, t, ys, rfl⟩
theorem one_of {ys : List Int} (h : ys.length ≠ 0) : ∃ n rest, ys = n :: rest := by
  match ys, h with
  | n :: rest, _ => exact ⟨n, rest, rfl⟩
theorem tail_nil (bits : Bool) (many : Int) : tailP (strOfNums []) bits many = ([], false) := by
  unfold tailP
  rw [if_pos (.inl rfl)]
theorem all_back {rest l : List Int} (hB : By rest) (h : getAll (strOfNums rest) = (l, true)) : be l = rest ∧ rest.length = 2 * l.length := by
  unfold getAll at h
  rw [strOfNums_size, bytesOf_strOfNums hB] at h
  by_cases c : rest.length % 2 = 1
  · rw [if_pos c] at h; cases h
  · rw [if_neg c] at h
    injection h with h1 h2
    subst h1
    have e : rest.length = 2 * (rest.length / 2) := by omega
    have hl := (un_rg _ _ e hB).2
    exact ⟨be_un _ _ e hB, by omega⟩
theorem bits_back {rest l : List Int} {n : Int} (hB : By rest) (h : get (strOfNums rest) n = (l, true)) : pack l = rest ∧ (rest.length : Nat) = (l.length + 7) / 8 := by
  unfold Go.Proofs.Ytinoabkfekomcaa.CoilAskSizes.get at h
  split at h
  · rename_i c
    obtain ⟨h0, h1, h2, h3⟩ := c
    injection h with e1 e2
    subst e1
    have e := pack_bitsOf h2 h3
    have e2 := congrArg bytesOf e
    rw [bytesOf_strOfNums (pack_bound (bitsOf_bits _ _)), bytesOf_strOfNums hB] at e2
    refine ⟨e2, ?_⟩
    rw [bitsOf_length]
    rw [strOfNums_size] at h2
    exact h2
  · cases h
theorem back_put {fc r1 r2 r3 r4 : Int} {l zs : List Int} (hk : Knows fc) (hB : By zs) (hr : readP fc (strOfNums zs) = (r1, r2, r3, r4, l, true)) (h : rightP fc r1 r2 r3 r4 l = true) : putL fc r1 r2 r3 r4 l = fc :: zs := by
  have ht := rt_of h
  unfold readP at hr
  have hsz := strOfNums_size zs
  rw [hsz] at hr
  by_cases c22 : fc = 22
  · subst c22
    rw [if_pos rfl] at hr
    by_cases c : zs.length < 6
    · rw [if_pos c] at hr; cases hr
    · rw [if_neg c, w16_str hB, w16_str hB, w16_str hB] at hr
      simp only [Prod.mk.injEq] at hr
      obtain ⟨rfl, rfl, rfl, rfl, rfl, e⟩ := hr
      have e := eq_of_beq e
      obtain ⟨p, q, r, t, ys, rfl⟩ := four_of (zs := zs) (by omega)
      obtain ⟨x, y, rfl⟩ : ∃ x y, ys = [x, y] := by
        match ys, e with
        | [x, y], _ => exact ⟨x, y, rfl⟩
        | [], e => simp at e
        | [_], e => simp at e
        | _ :: _ :: _ :: _, e => simp at e; omega
      show [22] ++ be [p * 256 + q, r * 256 + t, x * 256 + y] = _
      rw [two_be (hB p (by simp)) (hB q (by simp)), two_be (hB r (by simp)) (hB t (by simp)), two_be (hB x (by simp)) (hB y (by simp))]; rfl
  rw [if_neg c22] at hr
  by_cases c23 : fc = 23
  · subst c23
    rw [if_pos rfl] at hr
    by_cases c : zs.length < 8
    · rw [if_pos c] at hr; cases hr
    · rw [if_neg c, w16_str hB, w16_str hB, w16_str hB, w16_str hB] at hr
      obtain ⟨p, q, r, t, ys, rfl⟩ := four_of (zs := zs) (by omega)
      obtain ⟨p', q', r', t', ys, rfl⟩ := four_of (zs := ys) (by simp at c; omega)
      rw [← hsz, drop_strOfNums] at hr
      simp only [Prod.mk.injEq] at hr
      obtain ⟨rfl, rfl, rfl, rfl, e1, e2⟩ := hr
      have hBy : By ys := fun x hx => hB x (by simp [hx])
      have e : tailP (strOfNums ys) false (r' * 256 + t') = (l, true) := Prod.ext e1 e2
      by_cases hy : ys.length = 0
      · obtain rfl := List.eq_nil_of_length_eq_zero hy
        rw [tail_nil] at e; cases e
      · obtain ⟨nb, rest, rfl⟩ := one_of hy
        rw [tail_form hBy] at e
        by_cases hn : (rest.length : Int) = nb
        · rw [if_pos hn, if_neg (by decide)] at e
          obtain ⟨b1, b2⟩ := all_back (fun x hx => hBy x (List.mem_cons_of_mem _ hx)) e
          have hl : (l.length : Int) = r' * 256 + t' := by
            rcases ht with ⟨h0, _⟩ | ⟨h0, _⟩ | ⟨h0, _⟩ | ⟨h0, _⟩ | ⟨h0, _⟩ | ⟨h0, _⟩ | ⟨h0, _⟩ | ⟨h0, _, _, hl, _⟩
            all_goals first | exact hl | (exfalso; omega)
          show [23] ++ be [p * 256 + q, r * 256 + t, p' * 256 + q', r' * 256 + t'] ++ [2 * (r' * 256 + t')] ++ be l = _
          rw [two_be (hB p (by simp)) (hB q (by simp)), two_be (hB r (by simp)) (hB t (by simp)), two_be (hB p' (by simp)) (hB q' (by simp)), two_be (hB r' (by simp)) (hB t' (by simp)), b1, show 2 * (r' * 256 + t') = nb from by omega]; rfl
        · rw [if_neg hn] at e; cases e
  rw [if_neg c23] at hr
  by_cases c : zs.length < 4
  · rw [if_pos c] at hr; cases hr
  rw [if_neg c, w16_str hB, w16_str hB] at hr
  obtain ⟨p, q, r, t, ys, rfl⟩ := four_of (zs := zs) (by omega)
  have hp := hB p (by simp)
  have hq := hB q (by simp)
  have hrr := hB r (by simp)
  have htt := hB t (by simp)
  have nil_of : (((p :: q :: r :: t :: ys).length : Int) == 4) = true → ys = [] := by
    intro e
    have e := eq_of_beq e
    exact List.eq_nil_of_length_eq_zero (by simp at e; omega)
  by_cases c4 : fc ≤ 4
  · rw [if_pos c4] at hr
    simp only [Prod.mk.injEq] at hr
    obtain ⟨rfl, rfl, rfl, rfl, rfl, e⟩ := hr
    obtain rfl := nil_of e
    unfold putL
    rw [if_pos c4]
    show [fc] ++ be [p * 256 + q, r * 256 + t] = _
    rw [two_be hp hq, two_be hrr htt]; rfl
  rw [if_neg c4] at hr
  by_cases c5 : fc = 5
  · subst c5
    rw [if_pos rfl] at hr
    simp only [Prod.mk.injEq] at hr
    obtain ⟨rfl, rfl, rfl, rfl, rfl, e⟩ := hr
    rw [Bool.and_eq_true] at e
    obtain rfl := nil_of e.1
    have e2 : (r * 256 + t) % 65280 = 0 := eq_of_beq e.2
    show [5] ++ be [p * 256 + q, (r * 256 + t) / 65280 * 65280] = _
    rw [show (r * 256 + t) / 65280 * 65280 = r * 256 + t from by omega, two_be hp hq, two_be hrr htt]; rfl
  rw [if_neg c5] at hr
  by_cases c6 : fc = 6
  · subst c6
    rw [if_pos rfl] at hr
    simp only [Prod.mk.injEq] at hr
    obtain ⟨rfl, rfl, rfl, rfl, rfl, e⟩ := hr
    obtain rfl := nil_of e
    show [6] ++ be [p * 256 + q, r * 256 + t] = _
    rw [two_be hp hq, two_be hrr htt]; rfl
  rw [if_neg c6, ← hsz, drop_strOfNums] at hr
  simp only [Prod.mk.injEq] at hr
  obtain ⟨rfl, rfl, rfl, rfl, e1, e2⟩ := hr
  have hBy : By ys := fun x hx => hB x (by simp [hx])
  have e : tailP (strOfNums ys) (fc == 15) (r * 256 + t) = (l, true) := Prod.ext e1 e2
  by_cases hy : ys.length = 0
  · obtain rfl := List.eq_nil_of_length_eq_zero hy
    rw [tail_nil] at e; cases e
  obtain ⟨nb, rest, rfl⟩ := one_of hy
  have hBr : By rest := fun x hx => hBy x (List.mem_cons_of_mem _ hx)
  rw [tail_form hBy] at e
  by_cases hn : (rest.length : Int) = nb
  · rw [if_pos hn] at e
    by_cases c15 : fc = 15
    · subst c15
      rw [if_pos (by decide)] at e
      obtain ⟨b1, b2⟩ := bits_back hBr e
      show [15] ++ be [p * 256 + q, r * 256 + t] ++ [(((l.length + 7) / 8 : Nat) : Int)] ++ pack l = _
      rw [two_be hp hq, two_be hrr htt, b1, show (((l.length + 7) / 8 : Nat) : Int) = nb from by omega]; rfl
    · have c16 : fc = 16 := by unfold Knows at hk; omega
      subst c16
      rw [if_neg (by decide)] at e
      obtain ⟨b1, b2⟩ := all_back hBr e
      have hl : (l.length : Int) = r * 256 + t := by
        rcases ht with ⟨h0, _⟩ | ⟨h0, _⟩ | ⟨h0, _⟩ | ⟨h0, _⟩ | ⟨h0, _⟩ | ⟨h0, _, _, hl, _⟩ | ⟨h0, _⟩ | ⟨h0, _⟩
        all_goals first | exact hl | (exfalso; omega)
      show [16] ++ be [p * 256 + q, r * 256 + t] ++ [2 * (r * 256 + t)] ++ be l = _
      rw [two_be hp hq, two_be hrr htt, b1, show 2 * (r * 256 + t) = nb from by omega]; rfl
  · rw [if_neg hn] at e; cases e
theorem get_back (s : ByteArray) : (∃ e : Int, e ≠ 0 ∧ getP s = (0, 0, 0, 0, 0, [], e)) ∨
    (∃ fc r1 r2 r3 r4 l, getP s = (fc, r1, r2, r3, r4, l, 0) ∧ rightP fc r1 r2 r3 r4 l = true ∧ Rt fc r1 r2 r3 r4 l ∧ strOfNums (putL fc r1 r2 r3 r4 l) = s) := by
  by_cases h1 : s.size = 0 ∨ knownP (bt s 0) = false
  · exact .inl ⟨2, by decide, by unfold getP; rw [if_pos h1]⟩
  have hk : knownP (bt s 0) = true := by
    cases h : knownP (bt s 0)
    · exact absurd (.inr h) h1
    · rfl
  have hK := knows hk
  have hlen : (bytesOf s).length = s.size := bytesOf_length s
  obtain ⟨fc, zs, hz⟩ := one_of (ys := bytesOf s) (by rw [hlen]; exact fun e => h1 (.inl e))
  have hBs : By (bytesOf s) := bytes_bound s
  rw [hz] at hBs
  have hs : strOfNums (fc :: zs) = s := by rw [← hz]; exact str_bytes s
  have hB : By zs := fun x hx => hBs x (List.mem_cons_of_mem _ hx)
  have hb : bt s 0 = fc := by rw [← hs]; exact bt_str hBs 0
  have hd : s.extract 1 s.size = strOfNums zs := by
    have := drop_strOfNums (fc :: zs) 1
    rwa [hs] at this
  obtain ⟨r, hr⟩ : ∃ r, readP fc (strOfNums zs) = r := ⟨_, rfl⟩
  obtain ⟨r1, r2, r3, r4, l, ok⟩ := r
  have hg : getP s = if ok = false ∨ formedP fc r1 r2 r3 r4 l = false then (0, 0, 0, 0, 0, [], 4) else if endsP r1 r2 r3 r4 = false then (0, 0, 0, 0, 0, [], 3) else (fc, r1, r2, r3, r4, l, 0) := by
    unfold getP
    rw [if_neg h1, hb, hd, hr]
  by_cases h2 : ok = false ∨ formedP fc r1 r2 r3 r4 l = false
  · exact .inl ⟨4, by decide, by rw [hg, if_pos h2]⟩
  by_cases h3 : endsP r1 r2 r3 r4 = false
  · exact .inl ⟨3, by decide, by rw [hg, if_neg h2, if_pos h3]⟩
  have hok : ok = true := by
    cases h : ok
    · exact absurd (.inl h) h2
    · rfl
  have hf : formedP fc r1 r2 r3 r4 l = true := by
    cases h : formedP fc r1 r2 r3 r4 l
    · exact absurd (.inr h) h2
    · rfl
  have he : endsP r1 r2 r3 r4 = true := by
    cases h : endsP r1 r2 r3 r4
    · exact absurd h h3
    · rfl
  have hright : rightP fc r1 r2 r3 r4 l = true := by
    show (formedP fc r1 r2 r3 r4 l && endsP r1 r2 r3 r4) = true
    rw [hf, he]; rfl
  subst hok
  rw [hb] at hK
  refine .inr ⟨fc, r1, r2, r3, r4, l, by rw [hg, if_neg h2, if_neg h3], hright, rt_of hright, ?_⟩
  rw [back_put hK hB hr hright, hs]
theorem ints_loop (l : List Int) (hl : l.length ≤ 9223372036854775806) (d : Nat) : ∀ (k i : Nat), i ≤ l.length → l.length - i = d → d < k → gatewardenref01_Ints.l0 k l l (i : Int) = some true := by
  induction d with
  | zero =>
    intro k i hi hd hk
    obtain ⟨k, rfl⟩ : ∃ m, k = m + 1 := ⟨k - 1, by omega⟩
    simp only [gatewardenref01_Ints.l0]
    rw [if_neg (by omega)]
  | succ d ih =>
    intro k i hi hd hk
    obtain ⟨k, rfl⟩ : ∃ m, k = m + 1 := ⟨k - 1, by omega⟩
    have hw : wrap64 ((i : Int) + 1) = ((i + 1 : Nat) : Int) := by rw [w64 (by omega) (by omega)]; omega
    simp only [gatewardenref01_Ints.l0]
    rw [if_pos (by omega), if_pos (by omega), if_pos (by omega), if_pos True.intro, hw]
    exact ih k (i + 1) (by omega) (by omega) (by omega)
theorem ints_same (l : List Int) (hl : l.length ≤ 9223372036854775806) (k : Nat) (hk : l.length < k) : gatewardenref01_Ints.f k l l = some true := by
  unfold gatewardenref01_Ints.f
  rw [if_pos rfl]
  exact ints_loop l hl l.length k 0 (by omega) (by omega) hk
theorem same_one (a0 a1 a2 a3 a4 : Int) (l : List Int) (h : l.length ≤ 4000) : gatewardenref06_Same.f 5000 a0 a1 a2 a3 a4 l a0 a1 a2 a3 a4 l = some true := by
  unfold gatewardenref06_Same.f
  rw [if_pos rfl, if_pos rfl, if_pos rfl, if_pos rfl, if_pos rfl, ints_same l (by omega) 5000 (by omega)]
  rfl
theorem put_none (a0 a1 a2 a3 a4 : Int) (l : List Int) (h : rightP a0 a1 a2 a3 a4 l = false) : ask_Right.f 5000 a0 a1 a2 a3 a4 l = some false := by
  rw [right_eq a0 a1 a2 a3 a4 l 5000 (by omega), h]
theorem get_empty : getP ⟨#[]⟩ = (0, 0, 0, 0, 0, [], 2) := by
  unfold getP
  rw [if_pos (.inl rfl)]
theorem AskBack_calls (a0 a1 a2 a3 a4 : Int) (A0 : Option Addr) (c0 : Nat) (l0 : List Int) (s : ByteArray) (w : World) (hr0 : Kd.C (Kd.int .i64) w A0 l0.length l0) (hc0 : l0.length ≤ c0) :
    Calls Try.prog 3 #[.agg #[.int .i64 a0, .int .i64 a1, .int .i64 a2, .int .i64 a3, .int .i64 a4, .slice A0 l0.length c0], .string s] w fun e w' => e = .returned (.bool true) ∧ Below w.heap.size w w' := by
  obtain ⟨T, hT⟩ : ∃ T : Ending → World → Prop, T = fun e w' => e = .returned (.bool true) ∧ Below w.heap.size w w' := ⟨_, rfl⟩
  have HT := Aside0.mk hT
  rw [← hT]
  clear hT
  have HR0 := Aside0.mk (And.intro hc0 (Kd.C_below hr0 (below_alloc (Below.refl _ _) (.cells #[.int .i64 a0, .int .i64 a1, .int .i64 a2, .int .i64 a3, .int .i64 a4, .slice A0 l0.length c0] 24))))
  clear hr0 hc0
  by_cases hlen : (l0.length : Int) > 3000
  · go_enter Try.func3, Try.ntmps3
    go_wp2_with fail
    refine (awake_calls _).mono ?_
    rintro e w2 ⟨rfl, hb2⟩
    go_wp2
    rw [HT.out]
    exact ⟨rfl, below_step (below_alloc (Below.refl _ _) _) hb2⟩
  by_cases hsl : (s.size : Int) > 300
  · go_enter Try.func3, Try.ntmps3
    go_wp2_with fail
    refine (awake_calls _).mono ?_
    rintro e w2 ⟨rfl, hb2⟩
    go_wp2
    rw [HT.out]
    exact ⟨rfl, below_step (below_alloc (Below.refl _ _) _) hb2⟩
  have HSL := Aside0.mk (show s.size ≤ 300 by omega)
  rcases put_told a0 a1 a2 a3 a4 l0 with ⟨hr, ht, hp⟩ | ⟨hr, hp⟩
  · obtain ⟨S, hS⟩ : ∃ S, S = strOfNums (putL a0 a1 a2 a3 a4 l0) := ⟨_, rfl⟩
    have HLE := Aside0.mk (len_le ht)
    have HG := Aside0.mk (back_get ht hr)
    have HIN := Aside0.mk (same_one a0 a1 a2 a3 a4 l0 (by omega))
    have HRI := Aside0.mk (right_eq a0 a1 a2 a3 a4 l0 5000 (by omega))
    rw [hr] at HRI
    rw [← hS] at hp HLE HG
    have HP := Aside0.mk hp
    have hle : ¬ (S.size : Int) > 253 := by have := HLE.out; omega
    clear hr ht hp hS
    rcases get_back s with ⟨ee, hee, hgs⟩ | ⟨fc, r1, r2, r3, r4, l, hgs, hrs, hts, hss⟩
    · have HGS := Aside0.mk hgs
      clear hgs
      go_enter Try.func3, Try.ntmps3
      go_wp2_with fail
      refine (ask_Put.calls 5000 a0 a1 a2 a3 a4 A0 c0 l0 S true _ HR0.out.2 HR0.out.1 HP.out).mono ?_
      rintro e w1 ⟨rfl, hb1⟩
      have K1 := Aside0.mk (blk_below (blk_new w (.cells #[.int .i64 a0, .int .i64 a1, .int .i64 a2, .int .i64 a3, .int .i64 a4, .slice A0 l0.length c0] 24)) hb1)
      have D1 := Aside0.mk (below_step (below_alloc (Below.refl w.heap.size w) _) hb1)
      have C1 := Aside0.mk (Kd.C_below HR0.out.2 hb1)
      clear hb1
      obtain ⟨⟨c40, c41, c42, c43, c44, c45⟩, f4⟩ := six_cells K1.out
      go_wp2_with fail
      refine (ask_Right.calls 5000 a0 a1 a2 a3 a4 A0 c0 l0 true _ C1.out HR0.out.1 HRI.out).mono ?_
      rintro e w2 ⟨rfl, hb2⟩
      have K2 := Aside0.mk (blk_below K1.out hb2)
      have D2 := Aside0.mk (below_step D1.out hb2)
      have C2 := Aside0.mk (Kd.C_below C1.out hb2)
      clear hb2 c40 c41 c42 c43 c44 c45 f4
      go_wp2_with fail
      refine (get_calls S (by have := HLE.out; omega) _).mono ?_
      rw [HG.out]
      rintro e w3 ⟨⟨v, rfl, ⟨A3, c3, rfl, h3, h4, -⟩⟩, hb3⟩
      have K3 := Aside0.mk (blk_alloc (blk_below K2.out hb3) (.cells #[.int .i64 a0, .int .i64 a1, .int .i64 a2, .int .i64 a3, .int .i64 a4, .slice A3 l0.length c3] 24))
      have D3 := Aside0.mk (below_step D2.out hb3)
      have C3 := Aside0.mk (Kd.C_below C2.out (below_alloc hb3 (.cells #[.int .i64 a0, .int .i64 a1, .int .i64 a2, .int .i64 a3, .int .i64 a4, .slice A3 l0.length c3] 24)))
      have E3 := Aside0.mk (And.intro h3 (Kd.C_below h4 (below_alloc (Below.refl _ _) (.cells #[.int .i64 a0, .int .i64 a1, .int .i64 a2, .int .i64 a3, .int .i64 a4, .slice A3 l0.length c3] 24))))
      clear hb3 h3 h4
      obtain ⟨⟨c40, c41, c42, c43, c44, c45⟩, f4⟩ := six_cells K3.out
      go_wp2_with fail
      refine (gatewardenref06_Same.calls 5000 a0 a1 a2 a3 a4 A0 c0 l0 a0 a1 a2 a3 a4 A3 c3 l0 true _ C3.out HR0.out.1 E3.out.2 E3.out.1 HIN.out).mono ?_
      rintro e w4 ⟨rfl, hb4⟩
      have D4 := Aside0.mk (below_step (below_alloc D3.out _) hb4)
      clear hb4 c40 c41 c42 c43 c44 c45 f4

      go_wp2_with fail
      refine (get_calls s (by have := HSL.out; omega) _).mono ?_
      rw [HGS.out]
      rintro e w5 ⟨⟨v, rfl, ⟨A5, c5, rfl, h5, h6, -⟩⟩, hb5⟩
      have D5 := Aside0.mk (below_step D4.out hb5)
      have Z5 := Aside0.mk (And.intro h5 h6)
      clear hb5 h5 h6
      go_wp2_with fail
      refine (awake_calls _).mono ?_
      rintro e w6 ⟨rfl, hb6⟩
      have K6 := Aside0.mk (blk_below (blk_new w5 (.cells #[.int .i64 0, .int .i64 0, .int .i64 0, .int .i64 0, .int .i64 0, .slice A5 0 c5] 24)) hb6)
      have Z6 := Aside0.mk (Kd.C_below Z5.out.2 (below_step (below_alloc (Below.refl _ _) _) hb6))
      have D6 := Aside0.mk (below_step (below_alloc D5.out _) hb6)
      clear hb6
      obtain ⟨⟨e40, e41, e42, e43, e44, e45⟩, g4⟩ := six_cells K6.out
      go_wp2_with fail
      refine (gatewardenref06_Same.calls 5000 0 0 0 0 0 A5 c5 [] 0 0 0 0 0 none 0 [] true _ Z6.out Z5.out.1 (Kd.C_nil _ _) (Nat.le_refl _) (same_one 0 0 0 0 0 [] (by simp))).mono ?_
      rintro e w7 ⟨rfl, hb7⟩
      have D7 := Aside0.mk (below_step D6.out hb7)
      clear hb7
      go_wp2
      rw [HT.out]
      exact ⟨rfl, D7.out⟩
    · have hrS := hrs
      have HGS := Aside0.mk hgs
      have HPS := Aside0.mk (show ask_Put.f 5000 fc r1 r2 r3 r4 l = some (s, true) from by rw [put_right hts hrs 5000 (by decide), hss])
      have HRS := Aside0.mk (show ask_Right.f 5000 fc r1 r2 r3 r4 l = some true from by rw [right_eq fc r1 r2 r3 r4 l 5000 (by omega), hrs])
      have hles : (s.size : Int) ≤ 253 := by have h := len_le hts; rw [hss] at h; omega
      clear hrs hgs hts hss hrS
      go_enter Try.func3, Try.ntmps3
      go_wp2_with fail
      refine (ask_Put.calls 5000 a0 a1 a2 a3 a4 A0 c0 l0 S true _ HR0.out.2 HR0.out.1 HP.out).mono ?_
      rintro e w1 ⟨rfl, hb1⟩
      have K1 := Aside0.mk (blk_below (blk_new w (.cells #[.int .i64 a0, .int .i64 a1, .int .i64 a2, .int .i64 a3, .int .i64 a4, .slice A0 l0.length c0] 24)) hb1)
      have D1 := Aside0.mk (below_step (below_alloc (Below.refl w.heap.size w) _) hb1)
      have C1 := Aside0.mk (Kd.C_below HR0.out.2 hb1)
      clear hb1
      obtain ⟨⟨c40, c41, c42, c43, c44, c45⟩, f4⟩ := six_cells K1.out
      go_wp2_with fail
      refine (ask_Right.calls 5000 a0 a1 a2 a3 a4 A0 c0 l0 true _ C1.out HR0.out.1 HRI.out).mono ?_
      rintro e w2 ⟨rfl, hb2⟩
      have K2 := Aside0.mk (blk_below K1.out hb2)
      have D2 := Aside0.mk (below_step D1.out hb2)
      have C2 := Aside0.mk (Kd.C_below C1.out hb2)
      clear hb2 c40 c41 c42 c43 c44 c45 f4
      go_wp2_with fail
      refine (get_calls S (by have := HLE.out; omega) _).mono ?_
      rw [HG.out]
      rintro e w3 ⟨⟨v, rfl, ⟨A3, c3, rfl, h3, h4, -⟩⟩, hb3⟩
      have K3 := Aside0.mk (blk_alloc (blk_below K2.out hb3) (.cells #[.int .i64 a0, .int .i64 a1, .int .i64 a2, .int .i64 a3, .int .i64 a4, .slice A3 l0.length c3] 24))
      have D3 := Aside0.mk (below_step D2.out hb3)
      have C3 := Aside0.mk (Kd.C_below C2.out (below_alloc hb3 (.cells #[.int .i64 a0, .int .i64 a1, .int .i64 a2, .int .i64 a3, .int .i64 a4, .slice A3 l0.length c3] 24)))
      have E3 := Aside0.mk (And.intro h3 (Kd.C_below h4 (below_alloc (Below.refl _ _) (.cells #[.int .i64 a0, .int .i64 a1, .int .i64 a2, .int .i64 a3, .int .i64 a4, .slice A3 l0.length c3] 24))))
      clear hb3 h3 h4
      obtain ⟨⟨c40, c41, c42, c43, c44, c45⟩, f4⟩ := six_cells K3.out
      go_wp2_with fail
      refine (gatewardenref06_Same.calls 5000 a0 a1 a2 a3 a4 A0 c0 l0 a0 a1 a2 a3 a4 A3 c3 l0 true _ C3.out HR0.out.1 E3.out.2 E3.out.1 HIN.out).mono ?_
      rintro e w4 ⟨rfl, hb4⟩
      have D4 := Aside0.mk (below_step (below_alloc D3.out _) hb4)
      clear hb4 c40 c41 c42 c43 c44 c45 f4

      go_wp2_with fail
      refine (get_calls s (by have := HSL.out; omega) _).mono ?_
      rw [HGS.out]
      rintro e w5 ⟨⟨v, rfl, ⟨A5, c5, rfl, h5, h6, -⟩⟩, hb5⟩
      have D5 := Aside0.mk (below_step D4.out hb5)
      have Z5 := Aside0.mk (And.intro h5 (Kd.C_below h6 (below_alloc (Below.refl _ _) (.cells #[.int .i64 fc, .int .i64 r1, .int .i64 r2, .int .i64 r3, .int .i64 r4, .slice A5 l.length c5] 24))))
      clear hb5 h5 h6
      go_wp2_with fail
      refine (ask_Put.calls 5000 fc r1 r2 r3 r4 A5 c5 l s true _ Z5.out.2 Z5.out.1 HPS.out).mono ?_
      rintro e w6 ⟨rfl, hb6⟩
      have K6 := Aside0.mk (blk_below (blk_new w5 (.cells #[.int .i64 fc, .int .i64 r1, .int .i64 r2, .int .i64 r3, .int .i64 r4, .slice A5 l.length c5] 24)) hb6)
      have Z6 := Aside0.mk (Kd.C_below Z5.out.2 hb6)
      have D6 := Aside0.mk (below_step (below_alloc D5.out _) hb6)
      clear hb6
      go_wp2_with fail
      refine (awake_calls _).mono ?_
      rintro e w7 ⟨rfl, hb7⟩
      have K7 := Aside0.mk (blk_below K6.out hb7)
      have Z7 := Aside0.mk (Kd.C_below Z6.out hb7)
      have D7 := Aside0.mk (below_step D6.out hb7)
      clear hb7
      obtain ⟨⟨e40, e41, e42, e43, e44, e45⟩, g4⟩ := six_cells K7.out
      go_wp2_with fail
      refine (ask_Right.calls 5000 fc r1 r2 r3 r4 A5 c5 l true _ Z7.out Z5.out.1 HRS.out).mono ?_
      rintro e w8 ⟨rfl, hb8⟩
      have D8 := Aside0.mk (below_step D7.out hb8)
      clear hb8
      go_wp2
      rw [HT.out]
      exact ⟨rfl, D8.out⟩
  · have HP := Aside0.mk hp
    have HRI := Aside0.mk (put_none a0 a1 a2 a3 a4 l0 hr)
    clear hr hp
    rcases get_back s with ⟨ee, hee, hgs⟩ | ⟨fc, r1, r2, r3, r4, l, hgs, hrs, hts, hss⟩
    · have HGS := Aside0.mk hgs
      clear hgs
      go_enter Try.func3, Try.ntmps3
      go_wp2_with fail
      refine (ask_Put.calls 5000 a0 a1 a2 a3 a4 A0 c0 l0 _ _ _ HR0.out.2 HR0.out.1 HP.out).mono ?_
      rintro e w1 ⟨rfl, hb1⟩
      have K1 := Aside0.mk (blk_below (blk_new w (.cells #[.int .i64 a0, .int .i64 a1, .int .i64 a2, .int .i64 a3, .int .i64 a4, .slice A0 l0.length c0] 24)) hb1)
      have D1 := Aside0.mk (below_step (below_alloc (Below.refl w.heap.size w) _) hb1)
      have C1 := Aside0.mk (Kd.C_below HR0.out.2 hb1)
      clear hb1
      obtain ⟨⟨c40, c41, c42, c43, c44, c45⟩, f4⟩ := six_cells K1.out
      go_wp2_with fail
      refine (ask_Right.calls 5000 a0 a1 a2 a3 a4 A0 c0 l0 false _ C1.out HR0.out.1 HRI.out).mono ?_
      rintro e w2 ⟨rfl, hb2⟩
      have D2 := Aside0.mk (below_step D1.out hb2)
      clear hb2 c40 c41 c42 c43 c44 c45 f4
      go_wp2_with fail
      refine (get_calls ⟨#[]⟩ (by decide) _).mono ?_
      rw [get_empty]
      rintro e w3 ⟨⟨v, rfl, ⟨A3, c3, rfl, -, -, -⟩⟩, hb3⟩
      have D4 := Aside0.mk (below_alloc (below_step D2.out hb3) (.cells #[.int .i64 0, .int .i64 0, .int .i64 0, .int .i64 0, .int .i64 0, .slice A3 0 c3] 24))
      clear hb3

      go_wp2_with fail
      refine (get_calls s (by have := HSL.out; omega) _).mono ?_
      rw [HGS.out]
      rintro e w5 ⟨⟨v, rfl, ⟨A5, c5, rfl, h5, h6, -⟩⟩, hb5⟩
      have D5 := Aside0.mk (below_step D4.out hb5)
      have Z5 := Aside0.mk (And.intro h5 h6)
      clear hb5 h5 h6
      go_wp2_with fail
      refine (awake_calls _).mono ?_
      rintro e w6 ⟨rfl, hb6⟩
      have K6 := Aside0.mk (blk_below (blk_new w5 (.cells #[.int .i64 0, .int .i64 0, .int .i64 0, .int .i64 0, .int .i64 0, .slice A5 0 c5] 24)) hb6)
      have Z6 := Aside0.mk (Kd.C_below Z5.out.2 (below_step (below_alloc (Below.refl _ _) _) hb6))
      have D6 := Aside0.mk (below_step (below_alloc D5.out _) hb6)
      clear hb6
      obtain ⟨⟨e40, e41, e42, e43, e44, e45⟩, g4⟩ := six_cells K6.out
      go_wp2_with fail
      refine (gatewardenref06_Same.calls 5000 0 0 0 0 0 A5 c5 [] 0 0 0 0 0 none 0 [] true _ Z6.out Z5.out.1 (Kd.C_nil _ _) (Nat.le_refl _) (same_one 0 0 0 0 0 [] (by simp))).mono ?_
      rintro e w7 ⟨rfl, hb7⟩
      have D7 := Aside0.mk (below_step D6.out hb7)
      clear hb7
      go_wp2
      rw [HT.out]
      exact ⟨rfl, D7.out⟩
    · have hrS := hrs
      have HGS := Aside0.mk hgs
      have HPS := Aside0.mk (show ask_Put.f 5000 fc r1 r2 r3 r4 l = some (s, true) from by rw [put_right hts hrs 5000 (by decide), hss])
      have HRS := Aside0.mk (show ask_Right.f 5000 fc r1 r2 r3 r4 l = some true from by rw [right_eq fc r1 r2 r3 r4 l 5000 (by omega), hrs])
      have hles : (s.size : Int) ≤ 253 := by have h := len_le hts; rw [hss] at h; omega
      clear hrs hgs hts hss hrS
      go_enter Try.func3, Try.ntmps3
      go_wp2_with fail
      refine (ask_Put.calls 5000 a0 a1 a2 a3 a4 A0 c0 l0 _ _ _ HR0.out.2 HR0.out.1 HP.out).mono ?_
      rintro e w1 ⟨rfl, hb1⟩
      have K1 := Aside0.mk (blk_below (blk_new w (.cells #[.int .i64 a0, .int .i64 a1, .int .i64 a2, .int .i64 a3, .int .i64 a4, .slice A0 l0.length c0] 24)) hb1)
      have D1 := Aside0.mk (below_step (below_alloc (Below.refl w.heap.size w) _) hb1)
      have C1 := Aside0.mk (Kd.C_below HR0.out.2 hb1)
      clear hb1
      obtain ⟨⟨c40, c41, c42, c43, c44, c45⟩, f4⟩ := six_cells K1.out
      go_wp2_with fail
      refine (ask_Right.calls 5000 a0 a1 a2 a3 a4 A0 c0 l0 false _ C1.out HR0.out.1 HRI.out).mono ?_
      rintro e w2 ⟨rfl, hb2⟩
      have D2 := Aside0.mk (below_step D1.out hb2)
      clear hb2 c40 c41 c42 c43 c44 c45 f4
      go_wp2_with fail
      refine (get_calls ⟨#[]⟩ (by decide) _).mono ?_
      rw [get_empty]
      rintro e w3 ⟨⟨v, rfl, ⟨A3, c3, rfl, -, -, -⟩⟩, hb3⟩
      have D4 := Aside0.mk (below_alloc (below_step D2.out hb3) (.cells #[.int .i64 0, .int .i64 0, .int .i64 0, .int .i64 0, .int .i64 0, .slice A3 0 c3] 24))
      clear hb3

      go_wp2_with fail
      refine (get_calls s (by have := HSL.out; omega) _).mono ?_
      rw [HGS.out]
      rintro e w5 ⟨⟨v, rfl, ⟨A5, c5, rfl, h5, h6, -⟩⟩, hb5⟩
      have D5 := Aside0.mk (below_step D4.out hb5)
      have Z5 := Aside0.mk (And.intro h5 (Kd.C_below h6 (below_alloc (Below.refl _ _) (.cells #[.int .i64 fc, .int .i64 r1, .int .i64 r2, .int .i64 r3, .int .i64 r4, .slice A5 l.length c5] 24))))
      clear hb5 h5 h6
      go_wp2_with fail
      refine (ask_Put.calls 5000 fc r1 r2 r3 r4 A5 c5 l s true _ Z5.out.2 Z5.out.1 HPS.out).mono ?_
      rintro e w6 ⟨rfl, hb6⟩
      have K6 := Aside0.mk (blk_below (blk_new w5 (.cells #[.int .i64 fc, .int .i64 r1, .int .i64 r2, .int .i64 r3, .int .i64 r4, .slice A5 l.length c5] 24)) hb6)
      have Z6 := Aside0.mk (Kd.C_below Z5.out.2 hb6)
      have D6 := Aside0.mk (below_step (below_alloc D5.out _) hb6)
      clear hb6
      go_wp2_with fail
      refine (awake_calls _).mono ?_
      rintro e w7 ⟨rfl, hb7⟩
      have K7 := Aside0.mk (blk_below K6.out hb7)
      have Z7 := Aside0.mk (Kd.C_below Z6.out hb7)
      have D7 := Aside0.mk (below_step D6.out hb7)
      clear hb7
      obtain ⟨⟨e40, e41, e42, e43, e44, e45⟩, g4⟩ := six_cells K7.out
      go_wp2_with fail
      refine (ask_Right.calls 5000 fc r1 r2 r3 r4 A5 c5 l true _ Z7.out Z5.out.1 HRS.out).mono ?_
      rintro e w8 ⟨rfl, hb8⟩
      have D8 := Aside0.mk (below_step D7.out hb8)
      clear hb8
      go_wp2
      rw [HT.out]
      exact ⟨rfl, D8.out⟩
end Go.Proofs.Ytinoabkfekomcaa.AskAskSizes
