/- Texts of this claim, put together (wip/pack.py): HofR, Base. -/
import Derived.Test.YtedmjfngpofoaaaK1
import Derived.Test.YtedmjfngpofoaaaK3
import Derived.Test.YtedmjfngpofoaaaWMore
import Derived.Laws.BitsLemmas
import Derived.Laws.Bits64
namespace Go.Proofs.Ytedmjfngpofoaaa.PSpanTells
open Go Go.RowKit Go.Proofs.YtedmjfngpofoaaaW.PrintWords Go.Proofs.YtedmjfngpofoaaaW.PrintLast
set_option maxHeartbeats 2000000
set_option maxRecDepth 100000
set_option linter.unusedVariables false
abbrev vR (x : S26) : Value := .agg #[.int .i64 x.f0, .int .i64 x.f1]
/-- A predicate's call, in every world in which all that lay in w lies unturned. -/
def PredR (g : Nat) (lb : Array Value) (p : S26 → Bool) (w : World) : Prop :=
  ∀ (W : World) (x : S26), Below w.heap.size w W → Calls Try.prog g (#[.agg #[.int .i64 x.f0, .int .i64 x.f1]] ++ lb) W fun e w' => e = .returned (.bool (p x)) ∧ Below W.heap.size W w'
def idxR {α : Type} (p : α → Bool) : List α → Nat → Int
  | [], _ => -1
  | x :: t, i => if p x then (i : Int) else idxR p t (i + 1)
theorem idxR_any {α : Type} (p : α → Bool) : ∀ (l : List α) (i : Nat), decide (idxR p l i ≥ 0) = l.any p := by
  intro l
  induction l with
  | nil => intro i; rfl
  | cons x t ih =>
    intro i
    rw [idxR, List.any_cons]
    cases h : p x with
    | true => rw [if_pos rfl, Bool.true_or]; exact decide_eq_true (by omega)
    | false => rw [if_neg (by decide), Bool.false_or]; exact ih (i + 1)
theorem IndexFuncR (A0 : Option Addr) (c0 : Nat) (l0 : List S26) (g : Nat) (lb : Array Value) (p : S26 → Bool) (w : World) (hr0 : Kd.C k26 w A0 l0.length l0) (hm : l0.length ≤ 1099511627776)
    (eg : ∀ args w, (callFunc g args).run Try.prog w = .ok (.enter g args) w) (hp : PredR g lb p w) :
    Calls Try.prog 51 #[.slice A0 l0.length c0, .func (.func g) #[] lb] w fun e w' => e = .returned (.int .i64 (idxR p l0 0)) ∧ Below w.heap.size w w' := by
  have HR0 := Aside0.mk hr0
  have HP := Aside0.mk hp
  clear hr0 hp
  go_enter Try.func51, Try.ntmps51
  go_wp2
  go_loopg [5, 8] l0.length (fun gg s5 s8 wr => ∃ kk : Nat, kk ≤ l0.length ∧ l0.length - kk ≤ gg ∧ s8 = .int .i64 kk ∧ Aside0 (Below w.heap.size w wr) ∧ Aside0 (idxR p l0 0 = idxR p (l0.drop kk) kk))
  case atStart => exact ⟨0, Nat.zero_le _, by omega, rfl, ⟨Below.refl _ _⟩, ⟨rfl⟩⟩
  case round =>
    obtain ⟨kk, hkk, hg, rfl, D, A⟩ := hrel
    by_cases hlt : kk < l0.length
    · have hltz : ((kk : Int) < (l0.length : Int)) := by omega
      obtain ⟨ad, hA, hc0, hc1⟩ := at_T26 (Kd.C_below HR0.out D.out) (kk : Int) (by omega) (by omega)
      subst hA
      rw [Int.toNat_natCast] at hc0 hc1
      obtain ⟨y, hy⟩ : ∃ y, y = rd_T26 l0 (kk : Int) := ⟨_, rfl⟩
      rw [← hy] at hc0 hc1
      have hcall := HP.out wr y D.out
      have hd : l0.drop kk = y :: l0.drop (kk + 1) := by
        rw [hy]
        have : rd_T26 l0 (kk : Int) = l0[kk] := by simp [rd_T26, List.getD_eq_getElem?_getD, List.getElem?_eq_getElem hlt]
        rw [this]; exact List.drop_eq_getElem_cons hlt
      have HD := Aside0.mk hd
      clear hd hy
      obtain ⟨y0, y1⟩ := y
      simp only at hc0 hc1 hcall
      cases hq : p ⟨y0, y1⟩ with
      | true =>
        rw [hq] at hcall
        have HQ := Aside0.mk hq
        clear hq
        go_wp2_with fail
        refine hcall.mono ?_
        rintro e w1 ⟨rfl, hw⟩
        go_wp2_with fail
        go_ret
        refine ⟨?_, below_step D.out hw⟩
        rw [A.out, HD.out, idxR, if_pos HQ.out]
        rfl
      | false =>
        rw [hq] at hcall
        have HQ := Aside0.mk hq
        clear hq
        go_wp2_with fail
        refine hcall.mono ?_
        rintro e w1 ⟨rfl, hw⟩
        go_wp2_with fail
        go_roundg (l0.length - (kk + 1))
        case measure => omega
        case rel =>
          refine ⟨kk + 1, by omega, by omega, by go_num, ⟨below_step D.out hw⟩, ⟨?_⟩⟩
          rw [A.out, HD.out, idxR, if_neg (by rw [HQ.out]; decide)]
    · have hltz : ¬ ((kk : Int) < (l0.length : Int)) := by omega
      go_wp2
      go_ret
      refine ⟨?_, D.out⟩
      rw [A.out, List.drop_of_length_le (by omega)]
      rfl
theorem ContainsFuncR (A0 : Option Addr) (c0 : Nat) (l0 : List S26) (g : Nat) (lb : Array Value) (p : S26 → Bool) (w : World) (hr0 : Kd.C k26 w A0 l0.length l0) (hm : l0.length ≤ 1099511627776)
    (eg : ∀ args w, (callFunc g args).run Try.prog w = .ok (.enter g args) w) (hp : PredR g lb p w) :
    Calls Try.prog 31 #[.slice A0 l0.length c0, .func (.func g) #[] lb] w fun e w' => e = .returned (.bool (l0.any p)) ∧ Below w.heap.size w w' := by
  have HC := Aside0.mk (IndexFuncR A0 c0 l0 g lb p w hr0 hm eg hp)
  have HA := Aside0.mk (idxR_any p l0 0)
  clear hr0 hp eg
  obtain ⟨i, hi⟩ : ∃ i, i = idxR p l0 0 := ⟨_, rfl⟩
  rw [← hi] at HC HA
  clear hi
  go_enter Try.func31, Try.ntmps31
  go_wp2_with fail
  refine HC.out.mono ?_
  rintro e w1 ⟨rfl, hw⟩
  go_wp2_with fail
  go_ret
  exact ⟨by rw [← HA.out]; rfl, hw⟩
/-- span.Has. -/
theorem span_Has_calls (A0 : Option Addr) (c0 : Nat) (l0 : List S26) (n : Int) (w : World) (hr0 : Kd.C k26 w A0 l0.length l0) (hm : l0.length ≤ 1099511627776) :
    Calls Try.prog 12 #[.slice A0 l0.length c0, .int .i64 n] w fun e w' => e = .returned (.bool (l0.any fun r => decide (r.f0 ≤ n) && decide (n ≤ r.f1))) ∧ Below w.heap.size w w' := by
  have eg : ∀ args w, (callFunc 32 args).run Try.prog w = .ok (.enter 32 args) w := fun args w => enters_ Try.func32 (by kernel_rfl) rfl args w
  have K := blk_new w (.cells #[.int .i64 n] 3)
  have hp : PredR 32 #[.pointer (some ⟨w.heap.size, 0, none⟩)] (fun r => decide (r.f0 ≤ n) && decide (n ≤ r.f1)) (w.alloc (.cells #[.int .i64 n] 3)) := by
    intro W x hb
    have KW := blk_below K hb
    have kc : W.cell? ⟨w.heap.size, 0, none⟩ = some (.int .i64 n) := blk_cell KW 0
    have hlt := blk_lt KW
    have hne : w.heap.size ≠ W.heap.size := by omega
    obtain ⟨a, b⟩ := x
    simp only
    clear hb K KW eg
    obtain ⟨g, hg⟩ : ∃ g, g = w.heap.size := ⟨_, rfl⟩
    rw [← hg] at kc hlt hne ⊢
    clear hg
    show Calls Try.prog 32 #[.agg #[.int .i64 a, .int .i64 b], .pointer (some ⟨g, 0, none⟩)] W _
    have HB : Aside0 (Below W.heap.size W (W.alloc (.cells #[.int .i64 a, .int .i64 b] 26))) := ⟨below_alloc (Below.refl _ _) _⟩
    by_cases h1 : a ≤ n
    · have e1 : decide (a ≤ n) = true := decide_eq_true h1
      by_cases h2 : n ≤ b
      · have e2 : decide (n ≤ b) = true := decide_eq_true h2
        go_enter Try.func32, Try.ntmps32
        go_wp2
        go_ret
        exact ⟨by rw [e1, e2]; rfl, HB.out⟩
      · have e2 : decide (n ≤ b) = false := decide_eq_false h2
        go_enter Try.func32, Try.ntmps32
        go_wp2
        go_ret
        exact ⟨rfl, HB.out⟩
    · have e1 : decide (a ≤ n) = false := decide_eq_false h1
      go_enter Try.func32, Try.ntmps32
      go_wp2
      go_ret
      exact ⟨rfl, HB.out⟩
  have HC := Aside0.mk (ContainsFuncR A0 c0 l0 32 #[.pointer (some ⟨w.heap.size, 0, none⟩)] (fun r => decide (r.f0 ≤ n) && decide (n ≤ r.f1)) (w.alloc (.cells #[.int .i64 n] 3)) (Kd.C_below hr0 (below_alloc (Below.refl _ _) _)) hm eg hp)
  clear hr0 hp K eg
  generalize (l0.any fun r => decide (r.f0 ≤ n) && decide (n ≤ r.f1)) = res at HC ⊢
  go_enter Try.func12, Try.ntmps12
  go_wp2_with fail
  refine HC.out.mono ?_
  rintro e w1 ⟨rfl, hw⟩
  go_wp2_with fail
  go_ret
  exact ⟨rfl, below_step (below_alloc (Below.refl _ w) _) hw⟩
end Go.Proofs.Ytedmjfngpofoaaa.PSpanTells
namespace Go.Proofs.Ytedmjfngpofoaaa.Base
open Go.RowKit Go.Proofs.YtedmjfngpofoaaaW.PrintWords

theorem w64 {n : Int} (h0 : -9223372036854775808 ≤ n) (h1 : n ≤ 9223372036854775807) : wrap64 n = n := by
  unfold wrap64; omega
theorem u64w {n : Int} (h0 : 0 ≤ n) (h1 : n < 18446744073709551616) : IntKind.u64.wrap n = n := by
  rw [IntKind.wrap_u64]; omega
theorem wraps_i64 (n : Int) (h₀ : 0 ≤ n) (h₁ : n < 2 ^ 63) : IntKind.i64.wrap n = n := by
  rw [IntKind.wrap_i64]; omega
theorem and7 (x : Int) (h0 : 0 ≤ x) (h1 : x < 9223372036854775808) : Go.bits .and .i64 x 7 = x % 8 :=
  bits_mask .i64 63 (by decide) wraps_i64 3 (by decide) x h0 (by omega)
theorem and1 (x : Int) (h0 : 0 ≤ x) (h1 : x < 9223372036854775808) : Go.bits .and .i64 x 1 = x % 2 :=
  bits_mask .i64 63 (by decide) wraps_i64 1 (by decide) x h0 (by omega)
theorem bits_or_comm (k : IntKind) (x y : Int) : Go.bits .or k x y = Go.bits .or k y x := by
  unfold Go.bits; simp only [BitVec.or_comm]
theorem two_pow_le (m n : Nat) (h : m ≤ n) : (2 : Int) ^ m ≤ 2 ^ n := by
  have := Nat.pow_le_pow_right (n := 2) (by decide) h
  exact_mod_cast this
theorem two_pow_pos (m : Nat) : (0 : Int) < 2 ^ m := by
  have := Nat.two_pow_pos m
  exact_mod_cast this
/-- A bit set above all that is there. -/
theorem or_top (a : Int) (m : Nat) (hm : m < 8) (h0 : 0 ≤ a) (h1 : a < 2 ^ m) : Go.bits .or .u8 a (2 ^ m) = a + 2 ^ m := by
  have hp := two_pow_le m 7 (by omega)
  have hp2 : (2 : Int) ^ 7 < 2 ^ 8 := by decide
  rw [bits_or_comm, bits_join .u8 8 (by decide) wraps_u8 m (2 ^ m) a (Int.pow_nonneg (by decide)) (Int.emod_self) (by omega) h0 h1 (by omega)]
  omega
theorem shl_one (m : Nat) (hm : m < 8) : shl .u8 1 (m : Int) = 2 ^ m := by
  have hp := two_pow_le m 7 (by omega)
  have h0 : (0 : Int) ≤ 2 ^ m := Int.pow_nonneg (by decide)
  unfold shl
  have e : min (m : Int).toNat IntKind.u8.bits = m := by simp [IntKind.bits]; omega
  rw [e, IntKind.wrap_u8]
  omega
theorem shl_i64 (x : Int) (m : Nat) (hm : m < 8) (hx : x = 0 ∨ x = 1) : shl .i64 x (m : Int) = x * 2 ^ m := by
  have hp := two_pow_le m 7 (by omega)
  have h0 : (0 : Int) ≤ 2 ^ m := Int.pow_nonneg (by decide)
  unfold shl
  have e : min (m : Int).toNat IntKind.i64.bits = m := by simp [IntKind.bits]; omega
  rw [e, IntKind.wrap_i64]
  rcases hx with rfl | rfl <;> omega
theorem shr_eq (k : IntKind) (x : Int) (m : Nat) (hm : m < 8) : shr k x (m : Int) = x / 2 ^ m := by
  unfold shr
  have e : min (m : Int).toNat k.bits = m := by cases k <;> simp [IntKind.bits] <;> omega
  rw [e]
theorem tdiv8 {x : Int} (h : 0 ≤ x) : Int.tdiv x 8 = x / 8 := Int.tdiv_eq_ediv_of_nonneg h
theorem tmod8 {x : Int} (h : 0 ≤ x) : Int.tmod x 8 = x % 8 := Int.tmod_eq_emod_of_nonneg h
theorem wf64 {n : Int} (h : (Lit.int .i64 n).wf = true) : -9223372036854775808 ≤ n ∧ n ≤ 9223372036854775807 := by
  simpa [Lit.wf, IntKind.min, IntKind.max, IntKind.signed, IntKind.bits] using h
theorem wf8 {n : Int} (h : (Lit.int .u8 n).wf = true) : 0 ≤ n ∧ n ≤ 255 := by
  simpa [Lit.wf, IntKind.min, IntKind.max, IntKind.signed, IntKind.bits] using h
theorem wf16 {n : Int} (h : (Lit.int .u16 n).wf = true) : 0 ≤ n ∧ n ≤ 65535 := by
  simpa [Lit.wf, IntKind.min, IntKind.max, IntKind.signed, IntKind.bits] using h
theorem rd_nat (xs : List Int) (i : Nat) : rd xs (i : Int) = xs.getD i 0 := by simp [rd]
theorem bt_nat (s : ByteArray) (i : Nat) (h : i < s.size) : bt s (i : Int) = (s[i].toNat : Int) := by simp [bt, h]
theorem bt_strOfNums (xs : List Int) (i : Nat) (h : i < xs.length) (hb : ∀ x ∈ xs, 0 ≤ x ∧ x ≤ 255) : bt (strOfNums xs) (i : Int) = xs.getD i 0 := by
  have hs : i < (strOfNums xs).size := by rw [strOfNums_size]; exact h
  have hx := hb xs[i] (List.getElem_mem h)
  rw [bt_nat _ _ hs, List.getD_eq_getElem?_getD, List.getElem?_eq_getElem h]
  simp only [strOfNums, ByteArray.getElem_eq_getElem_data, List.getElem_toArray, List.getElem_map, Option.getD_some]
  rw [UInt8.toNat_ofNat']
  omega
end Go.Proofs.Ytedmjfngpofoaaa.Base
