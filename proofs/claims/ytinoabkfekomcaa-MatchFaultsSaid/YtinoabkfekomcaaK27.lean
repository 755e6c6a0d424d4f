/- Texts of this claim, put together (wip/pack.py): PAskSizesm6. -/
import Derived.Test.YtinoabkfekomcaaK1
import Derived.Test.YtinoabkfekomcaaK23
import Derived.Test.YtinoabkfekomcaaK26
import Derived.Test.YtinoabkfekomcaaK20
namespace Go.Proofs.Ytinoabkfekomcaa.PAskSizes
open Go.RowKit Go.Proofs.YtinoabkfekomcaaW.PrintWords Go.Proofs.YtinoabkfekomcaaW.PrintLast Go.Proofs.YtinoabkfekomcaaW.PrintMore
attribute [local go_sem] max2_int min2_int max_two min_two max_three min_three max_four min_four   -- for this text's walks alone
set_option linter.unusedVariables false
set_option linter.unusedSimpArgs false

/-! ### pend.Find, walked by hand -/
/-- The cells of one that waits. -/
abbrev pv (x : S56) (A : Option Addr) (c : Nat) : Array Value := #[.int .i64 x.f0, .int .i64 x.f1, .int .i64 x.f2, .int .i64 x.f3, .int .i64 x.f4, .int .i64 x.f5.f0, .int .i64 x.f5.f1, .int .i64 x.f5.f2, .int .i64 x.f5.f3, .int .i64 x.f5.f4, .slice A x.f5.f5.length c, .int .i64 x.f6]
/-- A predicate's call, in every world in which all that lay in w lies unturned. -/
def PredOn56 (g : Nat) (lb : Array Value) (p : S56 → Bool) (w : World) : Prop :=
 ∀ (W : World) (x : S56) (A : Option Addr) (c : Nat), Below w.heap.size w W → Kd.C (Kd.int .i64) W A x.f5.f5.length x.f5.f5 → x.f5.f5.length ≤ c →
  Calls Try.prog g (#[.agg #[.int .i64 x.f0, .int .i64 x.f1, .int .i64 x.f2, .int .i64 x.f3, .int .i64 x.f4, .int .i64 x.f5.f0, .int .i64 x.f5.f1, .int .i64 x.f5.f2, .int .i64 x.f5.f3, .int .i64 x.f5.f4, .slice A x.f5.f5.length c, .int .i64 x.f6]] ++ lb) W fun e w' => e = .returned (.bool (p x)) ∧ Below W.heap.size W w'
def idx56 (p : S56 → Bool) : List S56 → Nat → Int
 | [], _ => -1
 | x :: t, i => if p x then (i : Int) else idx56 p t (i + 1)
set_option maxHeartbeats 8000000 in
set_option maxRecDepth 100000 in
theorem IndexFunc_56.calls (A0 : Option Addr) (c0 : Nat) (l0 : List S56) (g : Nat) (lb : Array Value) (p : S56 → Bool) (w : World) (hr0 : Kd.C k56 w A0 l0.length l0) (_hc0 : l0.length ≤ c0) (hm : l0.length ≤ 9223372036854775807)
  (eg : ∀ args w, (callFunc g args).run Try.prog w = .ok (.enter g args) w) (hp : PredOn56 g lb p w) :
  Calls Try.prog 85 #[.slice A0 l0.length c0, .func (.func g) #[] lb] w fun e w' => e = .returned (.int .i64 (idx56 p l0 0)) ∧ Below w.heap.size w w' := by
 have HR0 := Aside0.mk hr0
 have HP := Aside0.mk hp
 clear hr0 hp
 go_enter Try.func85, Try.ntmps85
 go_wp2
 go_loopg [5, 8] l0.length (fun gg s5 s8 wr => ∃ kk : Nat, kk ≤ l0.length ∧ l0.length - kk ≤ gg ∧ s8 = .int .i64 kk ∧ Aside0 (Below w.heap.size w wr) ∧ Aside0 (idx56 p l0 0 = idx56 p (l0.drop kk) kk))
 case atStart => exact ⟨0, Nat.zero_le _, by omega, rfl, ⟨Below.refl _ _⟩, ⟨rfl⟩⟩
 case round =>
  obtain ⟨kk, hkk, hg, rfl, D, A⟩ := hrel
  by_cases hlt : kk < l0.length
  ·have hltz : ((kk : Int) < (l0.length : Int)) := by omega
   obtain ⟨ad, A10, c10, rfl, x0, x1, x2, x3, x4, x5, x6, x7, x8, x9, x10, x11, hl10, hi10⟩ := at_T56 (Kd.C_below HR0.out D.out) (kk : Int) (by omega) (by omega)
   have hd : l0.drop kk = rd_T56 l0 (kk : Int) :: l0.drop (kk + 1) := by
    have : rd_T56 l0 (kk : Int) = l0[kk] := by simp [rd_T56, List.getD_eq_getElem?_getD, List.getElem?_eq_getElem hlt]
    rw [this]; exact List.drop_eq_getElem_cons hlt
   generalize rd_T56 l0 (kk : Int) = y at x0 x1 x2 x3 x4 x5 x6 x7 x8 x9 x10 x11 hl10 hi10 hd
   rw [Int.toNat_natCast] at x0 x1 x2 x3 x4 x5 x6 x7 x8 x9 x10 x11
   have hcall := HP.out wr y A10 c10 D.out hi10 hl10
   clear hi10 hl10
   have HD := Aside0.mk hd
   clear hd
   cases hq : p y with
   | true =>
    rw [hq] at hcall
    have HQ := Aside0.mk hq
    clear hq
    go_wp2_with fail
    refine hcall.mono ?_
    rintro e w1 ⟨rfl, hw⟩
    go_wp2_with fail
    go_ret
    refine ⟨?_, ?_⟩
    ·rw [A.out, HD.out, idx56, if_pos HQ.out]
     rfl
    ·exact below_step D.out hw
   | false =>
    rw [hq] at hcall
    have HQ := Aside0.mk hq
    clear hq
    go_wp2_with fail
    refine hcall.mono ?_
    rintro e w1 ⟨rfl, hw⟩
    go_wp2_with fail
    go_roundg (l0.length - (kk + 1))
    case measure => omega
    case rel =>
     refine ⟨kk + 1, by omega, by omega, by go_num, ⟨below_step D.out hw⟩, ⟨?_⟩⟩
     rw [A.out, HD.out, idx56, if_neg (by rw [HQ.out]; decide)]
  ·have hltz : ¬ ((kk : Int) < (l0.length : Int)) := by omega
   go_wp2
   go_ret
   refine ⟨?_, D.out⟩
   rw [A.out, List.drop_of_length_le (by omega)]
   rfl
set_option maxHeartbeats 8000000 in
theorem pend_pred (outer : Int) (B : Nat) (w : World) (hB : B < w.heap.size) (hc : w.cell? ⟨B, 0, none⟩ = some (.int .i64 outer)) : PredOn56 86 #[.pointer (some ⟨B, 0, none⟩)] (fun x => x.f0 == outer) w := by
 intro W x A c hb hC hl
 have h0 : W.cell? ⟨B, 0, none⟩ = some (.int .i64 outer) := (hb.cell (p := ⟨B, 0, none⟩) hB).trans hc
 have hBW : B < W.heap.size := Nat.lt_of_lt_of_le hB hb.size
 have hne : B ≠ W.heap.size := by omega
 clear hC hl hc hb
 show Calls Try.prog 86 #[.agg #[.int .i64 x.f0, .int .i64 x.f1, .int .i64 x.f2, .int .i64 x.f3, .int .i64 x.f4, .int .i64 x.f5.f0, .int .i64 x.f5.f1, .int .i64 x.f5.f2, .int .i64 x.f5.f3, .int .i64 x.f5.f4, .slice A x.f5.f5.length c, .int .i64 x.f6], .pointer (some ⟨B, 0, none⟩)] W _
 go_enter Try.func86, Try.ntmps86
 go_wp2
 go_ret
 exact ⟨rfl, below_alloc (Below.refl _ _) _⟩
/-- The place of the first that has an outer number. -/
def findP (l : List S56) (outer : Int) : Int := idx56 (fun x => x.f0 == outer) l 0
set_option maxHeartbeats 8000000 in
theorem pend_Find.calls (A0 : Option Addr) (c0 : Nat) (l0 : List S56) (outer : Int) (w : World) (hr0 : Kd.C k56 w A0 l0.length l0) (hc0 : l0.length ≤ c0) (hm : l0.length ≤ 9223372036854775807) :
  Calls Try.prog 67 #[.slice A0 l0.length c0, .int .i64 outer] w fun e w' => e = .returned (.int .i64 (findP l0 outer)) ∧ Below w.heap.size w w' := by
 have eg : ∀ args w, (callFunc 86 args).run Try.prog w = .ok (.enter 86 args) w := enters_ Try.func86 rfl rfl
 have HCON := Aside0.mk (IndexFunc_56.calls A0 c0 l0 86 #[.pointer (some ⟨w.heap.size, 0, none⟩)] (fun x => x.f0 == outer) (w.alloc (.cells #[.int .i64 outer] 3)) (Kd.C_below hr0 (below_alloc (Below.refl _ _) _)) hc0 hm eg
  (pend_pred outer w.heap.size _ (by simp) ((blk_cell (blk_new w (.cells #[.int .i64 outer] 3)) 0).trans rfl)))
 clear hr0 hc0 hm eg
 unfold findP
 generalize idx56 (fun x => x.f0 == outer) l0 0 = r at HCON ⊢
 go_enter Try.func67, Try.ntmps67
 go_wp2_with fail
 refine HCON.out.mono ?_
 rintro e w' ⟨rfl, hb⟩
 go_wp2
 go_ret
 exact ⟨rfl, below_step (below_alloc (Below.refl _ _) _) hb⟩

/-! ### match.Find, walked by hand -/
theorem idx56_lt (p : S56 → Bool) : ∀ (l : List S56) (i : Nat), idx56 p l i < ((i + l.length : Nat) : Int) ∧ (idx56 p l i < 0 ∨ (i : Int) ≤ idx56 p l i)
 | [], i => by simp only [idx56]; omega
 | x :: t, i => by
  have h := idx56_lt p t (i + 1)
  simp only [idx56, List.length_cons]
  split <;> omega
/-- What match.Find tells (k: rounds of what it asks). -/
def matchF (k : Nat) (l : List S56) (id unit : Int) (pdu : ByteArray) : Option (Int × Bool) :=
 if findP l id < 0 then some (0, false) else
  (match_answers.f k (rd_T56 l (findP l id)).f0 (rd_T56 l (findP l id)).f1 (rd_T56 l (findP l id)).f2 (rd_T56 l (findP l id)).f3 (rd_T56 l (findP l id)).f4 (rd_T56 l (findP l id)).f5.f0 (rd_T56 l (findP l id)).f5.f1 (rd_T56 l (findP l id)).f5.f2 (rd_T56 l (findP l id)).f5.f3 (rd_T56 l (findP l id)).f5.f4 (rd_T56 l (findP l id)).f5.f5 (rd_T56 l (findP l id)).f6 id unit pdu).bind fun b => some (if b = true then (findP l id, true) else (0, false))
set_option maxHeartbeats 8000000 in
set_option maxRecDepth 100000 in
theorem match_Find.calls (k : Nat) (A0 : Option Addr) (c0 : Nat) (l0 : List S56) (id unit : Int) (pdu : ByteArray) (r : Int) (ok : Bool) (w : World) (hr0 : Kd.C k56 w A0 l0.length l0) (hc0 : l0.length ≤ c0) (hm : l0.length ≤ 9223372036854775807) (h : matchF k l0 id unit pdu = some (r, ok)) :
  Calls Try.prog 40 #[.slice A0 l0.length c0, .agg #[.int .i64 id, .int .i64 unit, .string pdu]] w fun e w' => e = .returned (.tuple #[.int .i64 r, .bool ok]) ∧ Below w.heap.size w w' := by
 obtain ⟨T, hT⟩ : ∃ T : Ending → World → Prop, T = fun e w' => e = .returned (.tuple #[.int .i64 r, .bool ok]) ∧ Below w.heap.size w w' := ⟨_, rfl⟩
 have HT := Aside0.mk hT
 rw [← hT]
 clear hT
 have HC := Aside0.mk hc0
 have HR := Aside0.mk (Kd.C_below hr0 (below_alloc (Below.refl _ _) (.cells #[.int .i64 id, .int .i64 unit, .string pdu] 49)))
 have HF := Aside0.mk (pend_Find.calls A0 c0 l0 id (w.alloc (.cells #[.int .i64 id, .int .i64 unit, .string pdu] 49)) HR.out hc0 hm)
 have hlt := (idx56_lt (fun x => x.f0 == id) l0 0).1
 have hlt' := (idx56_lt (fun x => x.f0 == id) l0 0).2
 rw [show idx56 (fun x => x.f0 == id) l0 0 = findP l0 id from rfl] at hlt hlt'
 unfold matchF at h
 generalize findP l0 id = f at h hlt hlt' HF
 rw [Nat.zero_add] at hlt
 clear hr0 hc0 hm
 by_cases hn : f < 0
 ·rw [if_pos hn] at h
  obtain ⟨rfl, rfl⟩ := Prod.mk.inj (Option.some.inj h)
  have hn' : decide (f < 0) = true := decide_eq_true hn
  clear h hn hlt hlt'
  go_enter Try.func40, Try.ntmps40
  go_wp2_with fail
  refine HF.out.mono ?_
  rintro e w1 ⟨rfl, hb⟩
  have K1 := Aside0.mk (blk_below (blk_new w (.cells #[.int .i64 id, .int .i64 unit, .string pdu] 49)) hb)
  have D1 := Aside0.mk (below_step (below_alloc (Below.refl w.heap.size w) (.cells #[.int .i64 id, .int .i64 unit, .string pdu] 49)) hb)
  have C1 := Aside0.mk (Kd.C_below HR.out hb)
  clear hb
  have HB := Aside0.mk (below_drew1 (Below.refl w1.heap.size w1))
  go_upto_region 2 with (fail)
  refine reg_start (List.range 11) 11 (fun _ => True) (by kernel_rfl) rfl trivial (fun hHeld => ?_)
  generalize w1.drew = w2 at HB hHeld ⊢
  repeat (first | (refine reg_pure (v := ?_) (a' := ?_) rfl rfl rfl (by kernel_rfl) (fun _ _ _ h => h) (by rfl) ?_ ?_ ?_; rotate_left; (solve | (intro w'; go_simp; with_reducible rfl)); rotate_left; (solve | (simp only [Act.put, List.setIfInBounds_toArray, List.set_cons_zero, List.set_cons_succ, i64_w, i32_w]; rfl))) | (refine reg_skip (a' := ?_) rfl rfl rfl (by rfl) (by kernel_rfl) (fun _ _ _ h => h) ?_ ?_; rotate_left; (solve | (simp only [Act.put, List.setIfInBounds_toArray, List.set_cons_zero, List.set_cons_succ, i64_w, i32_w]; rfl))))
  refine reg_done (by kernel_rfl) ?_
  go_wp2
  rw [HT.out]
  refine ⟨rfl, ?_⟩
  have D0 := below_step D1.out HB.out
  with_reducible (repeat (first | exact D0 | apply below_drew1 | apply pw_below_drewN))
 ·rw [if_neg hn] at h
  obtain ⟨b, hb, h⟩ := Option.bind_eq_some_iff.1 h
  have HA := Aside0.mk hb
  have HH := Aside0.mk h
  have hn' : decide (f < 0) = false := decide_eq_false hn
  have hn0 : 0 ≤ f := by omega
  clear h hb hn hlt'
  go_enter Try.func40, Try.ntmps40
  go_wp2_with fail
  refine HF.out.mono ?_
  rintro e w1 ⟨rfl, hb⟩
  have K1 := Aside0.mk (blk_below (blk_new w (.cells #[.int .i64 id, .int .i64 unit, .string pdu] 49)) hb)
  have D1 := Aside0.mk (below_step (below_alloc (Below.refl w.heap.size w) (.cells #[.int .i64 id, .int .i64 unit, .string pdu] 49)) hb)
  have C1 := Aside0.mk (Kd.C_below HR.out hb)
  clear hb
  have HB := Aside0.mk (below_drew1 (Below.refl w1.heap.size w1))
  obtain ⟨x, hx⟩ : ∃ x, x = rd_T56 l0 f := ⟨_, rfl⟩
  rw [← hx] at HA
  obtain ⟨ad, A10, c10, hA, x0, x1, x2, x3, x4, x5, x6, x7, x8, x9, x10, x11, hl10, hi10⟩ := at_T56 C1.out f hn0 hlt
  rw [← hx] at x0 x1 x2 x3 x4 x5 x6 x7 x8 x9 x10 x11 hl10 hi10
  subst hA
  have HL := Aside0.mk hl10
  have HI := Aside0.mk hi10
  clear hl10 hi10 hx
  have HKS : Aside0 (∀ w' : World, Below w1.heap.size w1 w' → (w'.cell? ⟨w.heap.size, 0, none⟩ = some (.int .i64 id) ∧ w'.cell? ⟨w.heap.size, 1, none⟩ = some (.int .i64 unit) ∧ w'.cell? ⟨w.heap.size, 2, none⟩ = some (.string pdu) ∧ w'.cell? (ad.add (f.toNat * 12)) = some (.int .i64 x.f0) ∧ w'.cell? ⟨(ad.add (f.toNat * 12)).block, (ad.add (f.toNat * 12)).off + 1, none⟩ = some (.int .i64 x.f1) ∧ w'.cell? ⟨(ad.add (f.toNat * 12)).block, (ad.add (f.toNat * 12)).off + 2, none⟩ = some (.int .i64 x.f2) ∧ w'.cell? ⟨(ad.add (f.toNat * 12)).block, (ad.add (f.toNat * 12)).off + 3, none⟩ = some (.int .i64 x.f3) ∧ w'.cell? ⟨(ad.add (f.toNat * 12)).block, (ad.add (f.toNat * 12)).off + 4, none⟩ = some (.int .i64 x.f4) ∧ w'.cell? ⟨(ad.add (f.toNat * 12)).block, (ad.add (f.toNat * 12)).off + 5, none⟩ = some (.int .i64 x.f5.f0) ∧ w'.cell? ⟨(ad.add (f.toNat * 12)).block, (ad.add (f.toNat * 12)).off + 6, none⟩ = some (.int .i64 x.f5.f1) ∧ w'.cell? ⟨(ad.add (f.toNat * 12)).block, (ad.add (f.toNat * 12)).off + 7, none⟩ = some (.int .i64 x.f5.f2) ∧ w'.cell? ⟨(ad.add (f.toNat * 12)).block, (ad.add (f.toNat * 12)).off + 8, none⟩ = some (.int .i64 x.f5.f3) ∧ w'.cell? ⟨(ad.add (f.toNat * 12)).block, (ad.add (f.toNat * 12)).off + 9, none⟩ = some (.int .i64 x.f5.f4) ∧ w'.cell? ⟨(ad.add (f.toNat * 12)).block, (ad.add (f.toNat * 12)).off + 10, none⟩ = some (.slice A10 x.f5.f5.length c10) ∧ w'.cell? ⟨(ad.add (f.toNat * 12)).block, (ad.add (f.toNat * 12)).off + 11, none⟩ = some (.int .i64 x.f6))) := Aside0.mk (fun w' hb => ⟨(blk_cell (blk_below K1.out hb) 0).trans rfl, (blk_cell (blk_below K1.out hb) 1).trans rfl, (blk_cell (blk_below K1.out hb) 2).trans rfl, pw_cell_below hb x0, pw_cell_below hb x1, pw_cell_below hb x2, pw_cell_below hb x3, pw_cell_below hb x4, pw_cell_below hb x5, pw_cell_below hb x6, pw_cell_below hb x7, pw_cell_below hb x8, pw_cell_below hb x9, pw_cell_below hb x10, pw_cell_below hb x11⟩)
  clear x0 x1 x2 x3 x4 x5 x6 x7 x8 x9 x10 x11
  go_upto_region 2 with (fail)
  refine reg_start (List.range 11) 11 (fun w' => w'.cell? ⟨w.heap.size, 0, none⟩ = some (.int .i64 id) ∧ w'.cell? ⟨w.heap.size, 1, none⟩ = some (.int .i64 unit) ∧ w'.cell? ⟨w.heap.size, 2, none⟩ = some (.string pdu) ∧ w'.cell? (ad.add (f.toNat * 12)) = some (.int .i64 x.f0) ∧ w'.cell? ⟨(ad.add (f.toNat * 12)).block, (ad.add (f.toNat * 12)).off + 1, none⟩ = some (.int .i64 x.f1) ∧ w'.cell? ⟨(ad.add (f.toNat * 12)).block, (ad.add (f.toNat * 12)).off + 2, none⟩ = some (.int .i64 x.f2) ∧ w'.cell? ⟨(ad.add (f.toNat * 12)).block, (ad.add (f.toNat * 12)).off + 3, none⟩ = some (.int .i64 x.f3) ∧ w'.cell? ⟨(ad.add (f.toNat * 12)).block, (ad.add (f.toNat * 12)).off + 4, none⟩ = some (.int .i64 x.f4) ∧ w'.cell? ⟨(ad.add (f.toNat * 12)).block, (ad.add (f.toNat * 12)).off + 5, none⟩ = some (.int .i64 x.f5.f0) ∧ w'.cell? ⟨(ad.add (f.toNat * 12)).block, (ad.add (f.toNat * 12)).off + 6, none⟩ = some (.int .i64 x.f5.f1) ∧ w'.cell? ⟨(ad.add (f.toNat * 12)).block, (ad.add (f.toNat * 12)).off + 7, none⟩ = some (.int .i64 x.f5.f2) ∧ w'.cell? ⟨(ad.add (f.toNat * 12)).block, (ad.add (f.toNat * 12)).off + 8, none⟩ = some (.int .i64 x.f5.f3) ∧ w'.cell? ⟨(ad.add (f.toNat * 12)).block, (ad.add (f.toNat * 12)).off + 9, none⟩ = some (.int .i64 x.f5.f4) ∧ w'.cell? ⟨(ad.add (f.toNat * 12)).block, (ad.add (f.toNat * 12)).off + 10, none⟩ = some (.slice A10 x.f5.f5.length c10) ∧ w'.cell? ⟨(ad.add (f.toNat * 12)).block, (ad.add (f.toNat * 12)).off + 11, none⟩ = some (.int .i64 x.f6)) (by kernel_rfl) rfl (HKS.out _ HB.out) (fun hHeld => ?_)
  generalize w1.drew = w2 at HB hHeld ⊢
  cases b
  ·obtain ⟨rfl, rfl⟩ := Prod.mk.inj (Option.some.inj HH.out)
   repeat (first | (refine reg_pure (v := ?_) (a' := ?_) rfl rfl rfl (by kernel_rfl) (fun _ _ _ h => h) (by rfl) ?_ ?_ ?_; rotate_left; (solve | (intro w'; go_simp; with_reducible rfl)); rotate_left; (solve | (simp only [Act.put, List.setIfInBounds_toArray, List.set_cons_zero, List.set_cons_succ, i64_w, i32_w]; rfl))) | (refine reg_skip (a' := ?_) rfl rfl rfl (by rfl) (by kernel_rfl) (fun _ _ _ h => h) ?_ ?_; rotate_left; (solve | (simp only [Act.put, List.setIfInBounds_toArray, List.set_cons_zero, List.set_cons_succ, i64_w, i32_w]; rfl))) | (refine reg_load (v := ?_) (a' := ?_) rfl rfl rfl (by kernel_rfl) (fun _ _ _ h => h) (by rfl) ?_ hHeld ?_ ?_; rotate_left; (solve | (rintro w' ⟨s0, s1, s2, s3, s4, s5, s6, s7, s8, s9, s10, s11, s12, s13, s14⟩; go_simp; with_reducible rfl)); rotate_left; (solve | (simp only [Act.put, List.setIfInBounds_toArray, List.set_cons_zero, List.set_cons_succ, i64_w, i32_w]; rfl)); intro hHeld))
   refine reg_call rfl rfl rfl (by kernel_rfl) (by rfl) Try.func68 (by kernel_rfl) rfl #[.agg #[.int .i64 x.f0, .int .i64 x.f1, .int .i64 x.f2, .int .i64 x.f3, .int .i64 x.f4, .int .i64 x.f5.f0, .int .i64 x.f5.f1, .int .i64 x.f5.f2, .int .i64 x.f5.f3, .int .i64 x.f5.f4, .slice A10 x.f5.f5.length c10, .int .i64 x.f6], .agg #[.int .i64 id, .int .i64 unit, .string pdu]] rfl (by (try simp only [List.map_toArray, List.map_cons, List.map_nil]); first | done | rfl) ?_
   refine (match_answers.calls k x.f0 x.f1 x.f2 x.f3 x.f4 x.f5.f0 x.f5.f1 x.f5.f2 x.f5.f3 x.f5.f4 A10 c10 x.f5.f5 x.f6 id unit pdu false _ (Kd.C_below HI.out HB.out) HL.out HA.out).mono ?_
   rintro e w5 ⟨rfl, hb⟩
   have HN := Aside0.mk (below_step HB.out hb)
   clear HB hb
   have HB := Aside0.mk HN.out
   clear HN
   refine ⟨_, rfl, HKS.out _ HB.out, fun hHeld => ?_⟩
   rintro a' ha'
   simp only [Act.put, List.setIfInBounds_toArray, List.set_cons_zero, List.set_cons_succ, i64_w, i32_w] at ha'
   subst ha'
   repeat (first | (refine reg_pure (v := ?_) (a' := ?_) rfl rfl rfl (by kernel_rfl) (fun _ _ _ h => h) (by rfl) ?_ ?_ ?_; rotate_left; (solve | (intro w'; go_simp; with_reducible rfl)); rotate_left; (solve | (simp only [Act.put, List.setIfInBounds_toArray, List.set_cons_zero, List.set_cons_succ, i64_w, i32_w]; rfl))) | (refine reg_skip (a' := ?_) rfl rfl rfl (by rfl) (by kernel_rfl) (fun _ _ _ h => h) ?_ ?_; rotate_left; (solve | (simp only [Act.put, List.setIfInBounds_toArray, List.set_cons_zero, List.set_cons_succ, i64_w, i32_w]; rfl))) | (refine reg_load (v := ?_) (a' := ?_) rfl rfl rfl (by kernel_rfl) (fun _ _ _ h => h) (by rfl) ?_ hHeld ?_ ?_; rotate_left; (solve | (rintro w' ⟨s0, s1, s2, s3, s4, s5, s6, s7, s8, s9, s10, s11, s12, s13, s14⟩; go_simp; with_reducible rfl)); rotate_left; (solve | (simp only [Act.put, List.setIfInBounds_toArray, List.set_cons_zero, List.set_cons_succ, i64_w, i32_w]; rfl)); intro hHeld))
   refine reg_done (by kernel_rfl) ?_
   go_wp2
   rw [HT.out]
   refine ⟨rfl, ?_⟩
   have D0 := below_step D1.out HB.out
   with_reducible (repeat (first | exact D0 | apply below_drew1 | apply pw_below_drewN))
  ·obtain ⟨rfl, rfl⟩ := Prod.mk.inj (Option.some.inj HH.out)
   repeat (first | (refine reg_pure (v := ?_) (a' := ?_) rfl rfl rfl (by kernel_rfl) (fun _ _ _ h => h) (by rfl) ?_ ?_ ?_; rotate_left; (solve | (intro w'; go_simp; with_reducible rfl)); rotate_left; (solve | (simp only [Act.put, List.setIfInBounds_toArray, List.set_cons_zero, List.set_cons_succ, i64_w, i32_w]; rfl))) | (refine reg_skip (a' := ?_) rfl rfl rfl (by rfl) (by kernel_rfl) (fun _ _ _ h => h) ?_ ?_; rotate_left; (solve | (simp only [Act.put, List.setIfInBounds_toArray, List.set_cons_zero, List.set_cons_succ, i64_w, i32_w]; rfl))) | (refine reg_load (v := ?_) (a' := ?_) rfl rfl rfl (by kernel_rfl) (fun _ _ _ h => h) (by rfl) ?_ hHeld ?_ ?_; rotate_left; (solve | (rintro w' ⟨s0, s1, s2, s3, s4, s5, s6, s7, s8, s9, s10, s11, s12, s13, s14⟩; go_simp; with_reducible rfl)); rotate_left; (solve | (simp only [Act.put, List.setIfInBounds_toArray, List.set_cons_zero, List.set_cons_succ, i64_w, i32_w]; rfl)); intro hHeld))
   refine reg_call rfl rfl rfl (by kernel_rfl) (by rfl) Try.func68 (by kernel_rfl) rfl #[.agg #[.int .i64 x.f0, .int .i64 x.f1, .int .i64 x.f2, .int .i64 x.f3, .int .i64 x.f4, .int .i64 x.f5.f0, .int .i64 x.f5.f1, .int .i64 x.f5.f2, .int .i64 x.f5.f3, .int .i64 x.f5.f4, .slice A10 x.f5.f5.length c10, .int .i64 x.f6], .agg #[.int .i64 id, .int .i64 unit, .string pdu]] rfl (by (try simp only [List.map_toArray, List.map_cons, List.map_nil]); first | done | rfl) ?_
   refine (match_answers.calls k x.f0 x.f1 x.f2 x.f3 x.f4 x.f5.f0 x.f5.f1 x.f5.f2 x.f5.f3 x.f5.f4 A10 c10 x.f5.f5 x.f6 id unit pdu true _ (Kd.C_below HI.out HB.out) HL.out HA.out).mono ?_
   rintro e w5 ⟨rfl, hb⟩
   have HN := Aside0.mk (below_step HB.out hb)
   clear HB hb
   have HB := Aside0.mk HN.out
   clear HN
   refine ⟨_, rfl, HKS.out _ HB.out, fun hHeld => ?_⟩
   rintro a' ha'
   simp only [Act.put, List.setIfInBounds_toArray, List.set_cons_zero, List.set_cons_succ, i64_w, i32_w] at ha'
   subst ha'
   repeat (first | (refine reg_pure (v := ?_) (a' := ?_) rfl rfl rfl (by kernel_rfl) (fun _ _ _ h => h) (by rfl) ?_ ?_ ?_; rotate_left; (solve | (intro w'; go_simp; with_reducible rfl)); rotate_left; (solve | (simp only [Act.put, List.setIfInBounds_toArray, List.set_cons_zero, List.set_cons_succ, i64_w, i32_w]; rfl))) | (refine reg_skip (a' := ?_) rfl rfl rfl (by rfl) (by kernel_rfl) (fun _ _ _ h => h) ?_ ?_; rotate_left; (solve | (simp only [Act.put, List.setIfInBounds_toArray, List.set_cons_zero, List.set_cons_succ, i64_w, i32_w]; rfl))) | (refine reg_load (v := ?_) (a' := ?_) rfl rfl rfl (by kernel_rfl) (fun _ _ _ h => h) (by rfl) ?_ hHeld ?_ ?_; rotate_left; (solve | (rintro w' ⟨s0, s1, s2, s3, s4, s5, s6, s7, s8, s9, s10, s11, s12, s13, s14⟩; go_simp; with_reducible rfl)); rotate_left; (solve | (simp only [Act.put, List.setIfInBounds_toArray, List.set_cons_zero, List.set_cons_succ, i64_w, i32_w]; rfl)); intro hHeld))
   refine reg_done (by kernel_rfl) ?_
   go_wp2
   rw [HT.out]
   refine ⟨rfl, ?_⟩
   have D0 := below_step D1.out HB.out
   with_reducible (repeat (first | exact D0 | apply below_drew1 | apply pw_below_drewN))
end Go.Proofs.Ytinoabkfekomcaa.PAskSizes
