/- Texts of this claim, put together (wip/pack.py): RealWalk, RealOf, Fours. -/
import Derived.Test.YtcoaehhoiaijoaaK0
import Derived.Great.Walk
namespace Go.Proofs.Ytcoaehhoiaijoaa.Fl
open Go Go.RowKit Go.Proofs.YtcoaehhoiaijoaaW.PrintWords Go.Proofs.Ytcoaehhoiaijoaa.Base
attribute [-go_sem] binOp_float_cmp_eql binOp_float_cmp_neq binOp_float_cmp_lss binOp_float_cmp_leq
attribute [local go_sem] f_eql f_neq f_lss f_leq
theorem bits_run (a : Nat) (w : World) : (callFunc 49 #[.float .f64 a]).run Try.prog w = .ok (.value (.int .u64 a)) w := by
  rw [run_callFunc_extern Try.func49 (by kernel_rfl) (by kernel_rfl) (by kernel_rfl) (e := Extern.MathFloatBits.float64bits) (by rfl)]
  rfl
theorem frombits_run (n : Int) (w : World) : (callFunc 50 #[.int .u64 n]).run Try.prog w = .ok (.value (.float .f64 n.toNat)) w := by
  rw [run_callFunc_extern Try.func50 (by kernel_rfl) (by kernel_rfl) (by kernel_rfl) (e := Extern.MathFloatBits.float64frombits) (by rfl)]
  rfl
attribute [local go_sem] bits_run frombits_run
set_option maxHeartbeats 4000000
set_option maxRecDepth 100000
theorem within_calls (x lo hi : Nat) (w : World) : Calls Try.prog 27 #[.float .f64 x, .float .f64 lo, .float .f64 hi] w fun e w' => e = .returned (.bool (leF lo x && leF x hi)) ∧ Below w.heap.size w w' := by
  cases h : leF lo x
  · go_enter Try.func27, Try.ntmps27
    go_wp2
    go_ret
    exact ⟨rfl, Below.refl _ _⟩
  · go_enter Try.func27, Try.ntmps27
    go_wp2
    go_ret
    exact ⟨by rw [Bool.true_and]; rfl, Below.refl _ _⟩
theorem isnan_calls (x : Nat) (w : World) : Calls Try.prog 48 #[.float .f64 x] w fun e w' => e = .returned (.bool (!eqF x x)) ∧ Below w.heap.size w w' := by
  go_enter Try.func48, Try.ntmps48
  go_wp2
  go_ret
  exact ⟨rfl, Below.refl _ _⟩
def sameF (a b : Nat) : Bool := if eqF a a && eqF b b then a == b else !eqF a a && !eqF b b
theorem same_calls (a b : Nat) (w : World) : Calls Try.prog 29 #[.float .f64 a, .float .f64 b] w fun e w' => e = .returned (.bool (sameF a b)) ∧ Below w.heap.size w w' := by
  cases ha : eqF a a
  · cases hb : eqF b b
    · have HS := Aside0.mk (show sameF a b = true by unfold sameF; rw [ha, hb]; rfl)
      go_enter Try.func29, Try.ntmps29
      go_wp2_with fail
      refine (isnan_calls _ _).mono ?_
      rintro e w1 ⟨rfl, hw1⟩
      rw [ha]
      go_wp2_with fail
      refine (isnan_calls _ _).mono ?_
      rintro e w2 ⟨rfl, hw2⟩
      rw [ha]
      go_wp2_with fail
      refine (isnan_calls _ _).mono ?_
      rintro e w3 ⟨rfl, hw3⟩
      rw [hb]
      go_wp2_with fail
      go_ret
      exact ⟨by rw [HS.out]; rfl, below_step (below_step hw1 hw2) hw3⟩
    · have HS := Aside0.mk (show sameF a b = false by unfold sameF; rw [ha, hb]; rfl)
      go_enter Try.func29, Try.ntmps29
      go_wp2_with fail
      refine (isnan_calls _ _).mono ?_
      rintro e w1 ⟨rfl, hw1⟩
      rw [ha]
      go_wp2_with fail
      refine (isnan_calls _ _).mono ?_
      rintro e w2 ⟨rfl, hw2⟩
      rw [ha]
      go_wp2_with fail
      refine (isnan_calls _ _).mono ?_
      rintro e w3 ⟨rfl, hw3⟩
      rw [hb]
      go_wp2_with fail
      go_ret
      exact ⟨by rw [HS.out]; rfl, below_step (below_step hw1 hw2) hw3⟩
  · cases hb : eqF b b
    · have HS := Aside0.mk (show sameF a b = false by unfold sameF; rw [ha, hb]; rfl)
      go_enter Try.func29, Try.ntmps29
      go_wp2_with fail
      refine (isnan_calls _ _).mono ?_
      rintro e w1 ⟨rfl, hw1⟩
      rw [ha]
      go_wp2_with fail
      refine (isnan_calls _ _).mono ?_
      rintro e w2 ⟨rfl, hw2⟩
      rw [hb]
      go_wp2_with fail
      refine (isnan_calls _ _).mono ?_
      rintro e w3 ⟨rfl, hw3⟩
      rw [ha]
      go_wp2_with fail
      go_ret
      exact ⟨by rw [HS.out]; rfl, below_step (below_step hw1 hw2) hw3⟩
    · have HS := Aside0.mk (show sameF a b = (a == b) by unfold sameF; rw [ha, hb]; rfl)
      go_enter Try.func29, Try.ntmps29
      go_wp2_with fail
      refine (isnan_calls _ _).mono ?_
      rintro e w1 ⟨rfl, hw1⟩
      rw [ha]
      go_wp2_with fail
      refine (isnan_calls _ _).mono ?_
      rintro e w2 ⟨rfl, hw2⟩
      rw [hb]
      go_wp2
      go_ret
      refine ⟨?_, below_step hw1 hw2⟩
      rw [HS.out]
      simp
      by_cases h : a = b
      · subst h; simp
      · rw [beq_eq_false_iff_ne.2 h, beq_eq_false_iff_ne.2 (by omega)]
end Go.Proofs.Ytcoaehhoiaijoaa.Fl
namespace Go.Proofs.Ytcoaehhoiaijoaa.Fl
open Go Go.RowKit Go.Proofs.YtcoaehhoiaijoaaW.PrintWords Go.Proofs.Ytcoaehhoiaijoaa.Base
attribute [-go_sem] binOp_float_cmp_eql binOp_float_cmp_neq binOp_float_cmp_lss binOp_float_cmp_leq
attribute [local go_sem] f_eql f_neq f_lss f_leq bits_run frombits_run
set_option maxHeartbeats 8000000
set_option maxRecDepth 100000
/-- A number more behind. -/
def more (b n : Int) : Int := Go.bits .or .u64 (IntKind.u64.wrap (b * 65536)) n
/-- The float of numbers, from those that are left on. -/
def ofL : List Int → Int → Nat × Bool
  | [], b => (b.toNat, true)
  | n :: t, b => if n < 0 ∨ 65535 < n then (0, false) else ofL t (more b n)
def ofF (l : List Int) : Nat × Bool := if l.length = 4 then ofL l 0 else (0, false)
theorem of_calls (A0 : Option Addr) (c0 : Nat) (l0 : List Int) (w : World) (hr0 : Kd.C (Kd.int .i64) w A0 l0.length l0) :
    Calls Try.prog 30 #[.slice A0 l0.length c0] w fun e w' => e = .returned (.tuple #[.float .f64 (ofF l0).1, .bool (ofF l0).2]) ∧ Below w.heap.size w w' := by
  by_cases h4 : l0.length = 4
  · have HR0 := Aside0.mk hr0
    clear hr0
    obtain ⟨res, hres⟩ : ∃ res, res = ofF l0 := ⟨_, rfl⟩
    have HF := Aside0.mk (show res = ofL l0 0 by rw [hres]; unfold ofF; rw [if_pos h4])
    rw [← hres, h4]
    clear hres
    go_enter Try.func30, Try.ntmps30
    go_wp2
    go_loopg [4, 6, 12] 4 (fun gg s4 s6 s12 wr => ∃ (kk : Nat) (b : Int), kk ≤ 4 ∧ 4 - kk ≤ gg ∧ s12 = .int .i64 kk ∧ s4 = .int .u64 b ∧ Aside0 (Below w.heap.size w wr) ∧ Aside0 (res = ofL (l0.drop kk) b))
    case atStart => exact ⟨0, 0, Nat.zero_le _, by omega, rfl, rfl, ⟨Below.refl _ _⟩, ⟨HF.out⟩⟩
    case round =>
      obtain ⟨kk, b, hkk, hg, rfl, rfl, D, A⟩ := hrel
      by_cases hlt : kk < 4
      · have hltz : ((kk : Int) < 4) := by omega
        obtain ⟨ad, hA, hcell⟩ := Kd.at_int (Kd.C_below HR0.out D.out) (kk : Int) (by omega) (by omega)
        subst hA
        rw [Int.toNat_natCast] at hcell
        obtain ⟨y, hy⟩ : ∃ y, y = rd l0 (kk : Int) := ⟨_, rfl⟩
        rw [← hy] at hcell
        have HY := Aside0.mk hy
        clear hy
        have hd : l0.drop kk = y :: l0.drop (kk + 1) := by
          rw [HY.out]
          have : rd l0 (kk : Int) = l0[kk]'(by omega) := by simp [rd, List.getD_eq_getElem?_getD, List.getElem?_eq_getElem (show kk < l0.length by omega)]
          rw [this]; exact List.drop_eq_getElem_cons (by omega)
        have HD := Aside0.mk hd
        clear hd
        by_cases h0 : y < 0
        · have HX := Aside0.mk (show res = (0, false) by rw [A.out, HD.out]; exact if_pos (.inl h0))
          go_wp2
          go_ret2
          exact ⟨by rw [HX.out]; rfl, D.out⟩
        · by_cases h1 : y > 65535
          · have HX := Aside0.mk (show res = (0, false) by rw [A.out, HD.out]; exact if_pos (.inr h1))
            go_wp2
            go_ret2
            exact ⟨by rw [HX.out]; rfl, D.out⟩
          · have HX := Aside0.mk (show res = ofL (l0.drop (kk + 1)) (more b y) by rw [A.out, HD.out]; exact if_neg (by omega))
            go_wp2
            go_roundg (4 - (kk + 1))
            case measure => omega
            case rel =>
              refine ⟨kk + 1, more b y, by omega, by omega, by go_num, ?_, ⟨D.out⟩, ⟨HX.out⟩⟩
              rfl
      · have hltz : ¬ ((kk : Int) < 4) := by omega
        have HX := Aside0.mk (show res = (b.toNat, true) by rw [A.out, List.drop_of_length_le (by omega)]; rfl)
        go_wp2
        go_ret2
        exact ⟨by rw [HX.out]; rfl, D.out⟩
  · have h4z : ¬ (l0.length : Int) = 4 := by omega
    have HF := Aside0.mk (show ofF l0 = (0, false) by unfold ofF; rw [if_neg h4])
    go_enter Try.func30, Try.ntmps30
    go_wp2
    go_ret2
    exact ⟨by rw [HF.out]; rfl, Below.refl _ _⟩
end Go.Proofs.Ytcoaehhoiaijoaa.Fl
namespace Go.Proofs.Ytcoaehhoiaijoaa.Range
open Go Go.RowKit Go.Shelf Go.Proofs.YtcoaehhoiaijoaaW.PrintWords
attribute [local go_sem] Oper.semAt_some
set_option maxHeartbeats 8000000
set_option maxRecDepth 100000
set_option linter.unusedVariables false
/-- How many numbers are left, by the cell. -/
def leftAt (bc : Nat) (w : World) : Nat := match w.cell? ⟨bc, 0, none⟩ with
  | some (.slice _ n _) => n
  | _ => 0
theorem leftAt_eq {bc n c : Nat} {A : Option Addr} {w : World} (h : w.cell? ⟨bc, 0, none⟩ = some (.slice A n c)) : leftAt bc w = n := by unfold leftAt; rw [h]
/-- What is left behind k rounds. -/
def Left (ad : Addr) (len c0 bc k : Nat) (A : Option Addr) (n c : Nat) : Prop := n + 4 * k = len ∧ n ≤ c ∧ (0 < n → A = some (ad.add (4 * k)) ∧ c + 4 * k = c0)
theorem add_four (ad : Addr) (k : Nat) : (⟨(ad.add (4 * k)).block, (ad.add (4 * k)).off + 4, none⟩ : Addr) = ad.add (4 * (k + 1)) := by
  unfold Addr.add
  rw [if_neg (show ¬4 * (k + 1) = 0 from by omega)]
  by_cases h : 4 * k = 0
  · rw [if_pos h]; obtain rfl : k = 0 := by omega
    rfl
  · rw [if_neg h]; show (⟨ad.block, ad.off + 4 * k + 4, none⟩ : Addr) = ⟨ad.block, ad.off + 4 * (k + 1), none⟩
    rw [show ad.off + 4 * k + 4 = ad.off + 4 * (k + 1) from by omega]
theorem fours_in (F : Fence) (n : Nat) (h67 : F.fn 67) (hro : F.round = none) (hn : 1 ≤ n) (ad : Addr) (len c0 bc m : Nat) (hm : len = 4 * m) (hlen : len ≤ 9223372036854775807) (I I' Ix : Nat → World → Prop)
    (hI : ∀ k W, I k W → k ≤ m ∧ ∃ A r c, W.cell? ⟨bc, 0, none⟩ = some (.slice A r c) ∧ W.frozen? ⟨bc, 0, none⟩ = false ∧ Left ad len c0 bc k A r c)
    (hI' : ∀ k W, I' k W → k < m → ∃ A r c, W.cell? ⟨bc, 0, none⟩ = some (.slice A r c) ∧ W.frozen? ⟨bc, 0, none⟩ = false ∧ Left ad len c0 bc k A r c)
    (hstep : ∀ k W A r c, I' k W → k < m → Left ad len c0 bc (k + 1) A r c → I (k + 1) (W.setCell ⟨bc, 0, none⟩ (.slice A r c)))
    (l : Nat) (Rec RecX : World → Prop) (W : World) (hs : ∀ W' v, Rec W' → Rec (W'.setCell ⟨bc, 0, none⟩ v))
    (hY : ∀ k W1, I k W1 → Rec W1 → k < m → YieldAt F (n - 1) Try.prog l #[.slice (some (ad.add (4 * k))) 4 (c0 - 4 * k)] W1 fun e W' => (e = .returned (.bool true) ∧ I' k W' ∧ Rec W') ∨ (e = .returned (.bool false) ∧ Ix k W' ∧ RecX W'))
    (h0 : I 0 W) (hR : Rec W) :
    CallsIn F n Try.prog 67 #[.func (.yield l) #[] #[], .pointer (some ⟨bc, 0, none⟩)] W fun e W' => (∃ v, e = .returned v) ∧ ((I m W' ∧ Rec W') ∨ (∃ k, Ix k W' ∧ RecX W')) := by
  have HI := Aside0.mk hI
  have HI' := Aside0.mk hI'
  have HST := Aside0.mk hstep
  have HS := Aside0.mk hs
  have HY := Aside0.mk hY
  clear hI hI' hstep hs hY
  refine callsIn_of_wp Try.func67 rfl h67 ?_ hro
  simp only [Try.ntmps67, List.size_toArray, List.length_cons, List.length_nil, Nat.reduceAdd, Nat.reduceSub, Array.replicate_succ, Array.replicate_zero, List.push_toArray, List.append_toArray, List.nil_append, List.cons_append]
  gi_wp2
  gi_loopw [12] (fun s wr => ∃ k, I k wr ∧ Rec wr) (fun s wr => leftAt bc wr)
  case atStart => exact ⟨0, h0, hR⟩
  case round =>
    obtain ⟨k, hi, hr⟩ := hrel
    obtain ⟨hkm, A, r, c, hc, hf, hl⟩ := HI.out k wr hi
    by_cases hlt : k < m
    · obtain ⟨e1, e2, e3⟩ := hl
      obtain ⟨rfl, e4⟩ := e3 (by omega)
      have hr4 : 4 ≤ r := by omega
      have hr4' : decide ((r : Int) ≥ 4) = true := decide_eq_true (by omega)
      have hr5 : (4 : Int) ≤ (r : Int) := by omega
      have hr6 : r ≤ 9223372036854775807 := by omega
      have hc4 : 4 ≤ c := by omega
      have hc5 : (4 : Int) ≤ (c : Int) := by omega
      obtain ⟨fn, tmps, assign, body, hy, hRn⟩ := HY.out k wr hi hr hlt
      rw [show c0 - 4 * k = c from by omega] at hy
      have HRN := Aside0.mk hRn
      have HE := Aside0.mk (And.intro e1 e4)
      clear hRn e1 e2 e3 e4
      gi_wp2
      refine HRN.out.mono ?_
      rintro e W3 (⟨rfl, hi3, hr3⟩ | ⟨rfl, hx3, hrx3⟩)
      · obtain ⟨A3, r3, c3, hc3, hf3, hl3⟩ := HI'.out k W3 hi3 hlt
        obtain ⟨e1, e2, e3⟩ := hl3
        have e5 := HE.out.1
        obtain rfl : r3 = r := by omega
        obtain ⟨rfl, e6⟩ := e3 (by omega)
        have e7 := HE.out.2
        obtain rfl : c3 = c := by omega
        have hkey : Left ad len c0 bc (k + 1) (if c3 = 4 then some (ad.add (4 * k)) else some ⟨(ad.add (4 * k)).block, (ad.add (4 * k)).off + 4, none⟩) (r3 - 4) (c3 - 4) := by
          refine ⟨by omega, by omega, fun h => ?_⟩
          rw [if_neg (by omega), add_four]
          exact ⟨rfl, by omega⟩
        have hr4'' : (4 : Int) ≤ (r3 : Int) := by omega
        have hc3' : (r3 : Int) ≤ (c3 : Int) := by omega
        dsimp only
        gi_wp2
        refine ⟨⟨k + 1, HST.out k W3 _ _ _ hi3 hlt hkey, HS.out _ _ hr3⟩, ?_⟩
        rw [leftAt_eq (World.cell?_setCell_same _ _ _ hc3), leftAt_eq hc]
        omega
      · gi_wp2
        refine Go.Great.bodyPost_end0 rfl rfl ?_
        exact ⟨⟨_, rfl⟩, .inr ⟨k, hx3, hrx3⟩⟩
    · obtain ⟨e1, e2, e3⟩ := hl
      obtain rfl : r = 0 := by omega
      have hr4 : decide (((0 : Nat) : Int) ≥ 4) = false := rfl
      gi_wp2
      refine ⟨by simp, ?_⟩
      gi_wp2
      refine Go.Great.bodyPost_end0 rfl rfl ?_
      exact ⟨⟨_, rfl⟩, .inl ⟨by rw [show m = k from by omega]; exact hi, hr⟩⟩
end Go.Proofs.Ytcoaehhoiaijoaa.Range
