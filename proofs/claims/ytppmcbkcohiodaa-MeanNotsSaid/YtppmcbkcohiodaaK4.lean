/- Texts of this claim, put together (wip/pack.py): RealOf5, Fours, Reals, HofR, AtomPure. -/
import Derived.Test.YtppmcbkcohiodaaK3
import Derived.Great.Walk
import Derived.Maps.AppendAt
import Derived.Test.YtppmcbkcohiodaaK0
import Derived.Test.YtppmcbkcohiodaaK1
import Derived.Test.YtppmcbkcohiodaaK2
namespace Go.Proofs.Ytppmcbkcohiodaa.Fl
open Go Go.RowKit Go.Proofs.YtppmcbkcohiodaaW.PrintWords Go.Proofs.Ytppmcbkcohiodaa.Base
attribute [-go_sem] binOp_float_cmp_eql binOp_float_cmp_neq binOp_float_cmp_lss binOp_float_cmp_leq
attribute [local go_sem] f_eql f_neq f_lss f_leq frombits_run
set_option maxHeartbeats 8000000
set_option maxRecDepth 100000
/-- A number more behind. -/
def more (b n : Int) : Int := Go.bits .or .u64 (IntKind.u64.wrap (b * 65536)) n
/-- The float of numbers, from those that are left on. -/
def ofL : List Int → Int → Nat × Bool
  | [], b => (b.toNat, true)
  | n :: t, b => if n < 0 ∨ 65535 < n then (0, false) else ofL t (more b n)
def ofF (l : List Int) : Nat × Bool := if l.length = 4 then ofL l 0 else (0, false)
theorem of_calls (A0 : Option Addr) (c0 : Nat) (l0 : List Int) (w : World) (hr0 : Kd.C (Kd.int .i64) w A0 l0.length l0) :
    Calls Try.prog 75 #[.slice A0 l0.length c0] w fun e w' => e = .returned (.tuple #[.float .f64 (ofF l0).1, .bool (ofF l0).2]) ∧ Below w.heap.size w w' := by
  by_cases h4 : l0.length = 4
  · have HR0 := Aside0.mk hr0
    clear hr0
    obtain ⟨res, hres⟩ : ∃ res, res = ofF l0 := ⟨_, rfl⟩
    have HF := Aside0.mk (show res = ofL l0 0 by rw [hres]; unfold ofF; rw [if_pos h4])
    rw [← hres, h4]
    clear hres
    go_enter Try.func75, Try.ntmps75
    go_wp2
    go_loopg [4, 6, 12] 4 (fun gg s4 s6 s12 wr => ∃ (kk : Nat) (b : Int), kk ≤ 4 ∧ 4 - kk ≤ gg ∧ s12 = .int .i64 kk ∧ s4 = .int .u64 b ∧ Aside0 (Below w.heap.size w wr) ∧ Aside0 (res = ofL (l0.drop kk) b))
    case atStart => exact ⟨0, 0, Nat.zero_le _, by omega, rfl, rfl, ⟨Below.refl _ _⟩, ⟨HF.out⟩⟩
    case round =>
      obtain ⟨kk, b, hkk, hg, rfl, rfl, D, A⟩ := hrel
      by_cases hlt : kk < 4
      · have hltz : ((kk : Int) < 4) := by omega
        obtain ⟨ad, hA, hcell⟩ := Kd.at_int (Kd.C_below HR0.out D.out) (kk : Int) (by omega) (by omega)
        subst hA
        rw [Int.toNat_natCast] at hcell
        obtain ⟨y, hy⟩ : ∃ y, y = rd l0 (kk : Int) := ⟨_, rfl⟩
        rw [← hy] at hcell
        have HY := Aside0.mk hy
        clear hy
        have hd : l0.drop kk = y :: l0.drop (kk + 1) := by
          rw [HY.out]
          have : rd l0 (kk : Int) = l0[kk]'(by omega) := by simp [rd, List.getD_eq_getElem?_getD, List.getElem?_eq_getElem (show kk < l0.length by omega)]
          rw [this]; exact List.drop_eq_getElem_cons (by omega)
        have HD := Aside0.mk hd
        clear hd
        by_cases h0 : y < 0
        · have HX := Aside0.mk (show res = (0, false) by rw [A.out, HD.out]; exact if_pos (.inl h0))
          go_wp2
          go_ret2
          exact ⟨by rw [HX.out]; rfl, D.out⟩
        · by_cases h1 : y > 65535
          · have HX := Aside0.mk (show res = (0, false) by rw [A.out, HD.out]; exact if_pos (.inr h1))
            go_wp2
            go_ret2
            exact ⟨by rw [HX.out]; rfl, D.out⟩
          · have HX := Aside0.mk (show res = ofL (l0.drop (kk + 1)) (more b y) by rw [A.out, HD.out]; exact if_neg (by omega))
            go_wp2
            go_roundg (4 - (kk + 1))
            case measure => omega
            case rel =>
              refine ⟨kk + 1, more b y, by omega, by omega, by go_num, ?_, ⟨D.out⟩, ⟨HX.out⟩⟩
              rfl
      · have hltz : ¬ ((kk : Int) < 4) := by omega
        have HX := Aside0.mk (show res = (b.toNat, true) by rw [A.out, List.drop_of_length_le (by omega)]; rfl)
        go_wp2
        go_ret2
        exact ⟨by rw [HX.out]; rfl, D.out⟩
  · have h4z : ¬ (l0.length : Int) = 4 := by omega
    have HF := Aside0.mk (show ofF l0 = (0, false) by unfold ofF; rw [if_neg h4])
    go_enter Try.func75, Try.ntmps75
    go_wp2
    go_ret2
    exact ⟨by rw [HF.out]; rfl, Below.refl _ _⟩
end Go.Proofs.Ytppmcbkcohiodaa.Fl
namespace Go.Proofs.Ytppmcbkcohiodaa.Range
open Go Go.RowKit Go.Shelf Go.Proofs.YtppmcbkcohiodaaW.PrintWords
attribute [local go_sem] Oper.semAt_some
set_option maxHeartbeats 8000000
set_option maxRecDepth 100000
set_option linter.unusedVariables false
/-- How many numbers are left, by the cell. -/
def leftAt (bc : Nat) (w : World) : Nat := match w.cell? ⟨bc, 0, none⟩ with
  | some (.slice _ n _) => n
  | _ => 0
theorem leftAt_eq {bc n c : Nat} {A : Option Addr} {w : World} (h : w.cell? ⟨bc, 0, none⟩ = some (.slice A n c)) : leftAt bc w = n := by unfold leftAt; rw [h]
/-- What is left behind k rounds. -/
def Left (ad : Addr) (len c0 bc k : Nat) (A : Option Addr) (n c : Nat) : Prop := n + 4 * k = len ∧ n ≤ c ∧ (0 < n → A = some (ad.add (4 * k)) ∧ c + 4 * k = c0)
theorem add_four (ad : Addr) (k : Nat) : (⟨(ad.add (4 * k)).block, (ad.add (4 * k)).off + 4, none⟩ : Addr) = ad.add (4 * (k + 1)) := by
  unfold Addr.add
  rw [if_neg (show ¬4 * (k + 1) = 0 from by omega)]
  by_cases h : 4 * k = 0
  · rw [if_pos h]; obtain rfl : k = 0 := by omega
    rfl
  · rw [if_neg h]; show (⟨ad.block, ad.off + 4 * k + 4, none⟩ : Addr) = ⟨ad.block, ad.off + 4 * (k + 1), none⟩
    rw [show ad.off + 4 * k + 4 = ad.off + 4 * (k + 1) from by omega]
theorem fours_in (F : Fence) (n : Nat) (h67 : F.fn 87) (hro : F.round = none) (hn : 1 ≤ n) (ad : Addr) (len c0 bc m : Nat) (hm : len = 4 * m) (hlen : len ≤ 9223372036854775807) (I I' Ix : Nat → World → Prop)
    (hI : ∀ k W, I k W → k ≤ m ∧ ∃ A r c, W.cell? ⟨bc, 0, none⟩ = some (.slice A r c) ∧ W.frozen? ⟨bc, 0, none⟩ = false ∧ Left ad len c0 bc k A r c)
    (hI' : ∀ k W, I' k W → k < m → ∃ A r c, W.cell? ⟨bc, 0, none⟩ = some (.slice A r c) ∧ W.frozen? ⟨bc, 0, none⟩ = false ∧ Left ad len c0 bc k A r c)
    (hstep : ∀ k W A r c, I' k W → k < m → Left ad len c0 bc (k + 1) A r c → I (k + 1) (W.setCell ⟨bc, 0, none⟩ (.slice A r c)))
    (l : Nat) (Rec RecX : World → Prop) (W : World) (hs : ∀ W' v, Rec W' → Rec (W'.setCell ⟨bc, 0, none⟩ v))
    (hY : ∀ k W1, I k W1 → Rec W1 → k < m → YieldAt F (n - 1) Try.prog l #[.slice (some (ad.add (4 * k))) 4 (c0 - 4 * k)] W1 fun e W' => (e = .returned (.bool true) ∧ I' k W' ∧ Rec W') ∨ (e = .returned (.bool false) ∧ Ix k W' ∧ RecX W'))
    (h0 : I 0 W) (hR : Rec W) :
    CallsIn F n Try.prog 87 #[.func (.yield l) #[] #[], .pointer (some ⟨bc, 0, none⟩)] W fun e W' => (∃ v, e = .returned v) ∧ ((I m W' ∧ Rec W') ∨ (∃ k, Ix k W' ∧ RecX W')) := by
  have HI := Aside0.mk hI
  have HI' := Aside0.mk hI'
  have HST := Aside0.mk hstep
  have HS := Aside0.mk hs
  have HY := Aside0.mk hY
  clear hI hI' hstep hs hY
  refine callsIn_of_wp Try.func87 rfl h67 ?_ hro
  simp only [Try.ntmps87, List.size_toArray, List.length_cons, List.length_nil, Nat.reduceAdd, Nat.reduceSub, Array.replicate_succ, Array.replicate_zero, List.push_toArray, List.append_toArray, List.nil_append, List.cons_append]
  gi_wp2
  gi_loopw [12] (fun s wr => ∃ k, I k wr ∧ Rec wr) (fun s wr => leftAt bc wr)
  case atStart => exact ⟨0, h0, hR⟩
  case round =>
    obtain ⟨k, hi, hr⟩ := hrel
    obtain ⟨hkm, A, r, c, hc, hf, hl⟩ := HI.out k wr hi
    by_cases hlt : k < m
    · obtain ⟨e1, e2, e3⟩ := hl
      obtain ⟨rfl, e4⟩ := e3 (by omega)
      have hr4 : 4 ≤ r := by omega
      have hr4' : decide ((r : Int) ≥ 4) = true := decide_eq_true (by omega)
      have hr5 : (4 : Int) ≤ (r : Int) := by omega
      have hr6 : r ≤ 9223372036854775807 := by omega
      have hc4 : 4 ≤ c := by omega
      have hc5 : (4 : Int) ≤ (c : Int) := by omega
      obtain ⟨fn, tmps, assign, body, hy, hRn⟩ := HY.out k wr hi hr hlt
      rw [show c0 - 4 * k = c from by omega] at hy
      have HRN := Aside0.mk hRn
      have HE := Aside0.mk (And.intro e1 e4)
      clear hRn e1 e2 e3 e4
      gi_wp2
      refine HRN.out.mono ?_
      rintro e W3 (⟨rfl, hi3, hr3⟩ | ⟨rfl, hx3, hrx3⟩)
      · obtain ⟨A3, r3, c3, hc3, hf3, hl3⟩ := HI'.out k W3 hi3 hlt
        obtain ⟨e1, e2, e3⟩ := hl3
        have e5 := HE.out.1
        obtain rfl : r3 = r := by omega
        obtain ⟨rfl, e6⟩ := e3 (by omega)
        have e7 := HE.out.2
        obtain rfl : c3 = c := by omega
        have hkey : Left ad len c0 bc (k + 1) (if c3 = 4 then some (ad.add (4 * k)) else some ⟨(ad.add (4 * k)).block, (ad.add (4 * k)).off + 4, none⟩) (r3 - 4) (c3 - 4) := by
          refine ⟨by omega, by omega, fun h => ?_⟩
          rw [if_neg (by omega), add_four]
          exact ⟨rfl, by omega⟩
        have hr4'' : (4 : Int) ≤ (r3 : Int) := by omega
        have hc3' : (r3 : Int) ≤ (c3 : Int) := by omega
        dsimp only
        gi_wp2
        refine ⟨⟨k + 1, HST.out k W3 _ _ _ hi3 hlt hkey, HS.out _ _ hr3⟩, ?_⟩
        rw [leftAt_eq (World.cell?_setCell_same _ _ _ hc3), leftAt_eq hc]
        omega
      · gi_wp2
        refine Go.Great.bodyPost_end0 rfl rfl ?_
        exact ⟨⟨_, rfl⟩, .inr ⟨k, hx3, hrx3⟩⟩
    · obtain ⟨e1, e2, e3⟩ := hl
      obtain rfl : r = 0 := by omega
      have hr4 : decide (((0 : Nat) : Int) ≥ 4) = false := rfl
      gi_wp2
      refine ⟨by simp, ?_⟩
      gi_wp2
      refine Go.Great.bodyPost_end0 rfl rfl ?_
      exact ⟨⟨_, rfl⟩, .inl ⟨by rw [show m = k from by omega]; exact hi, hr⟩⟩
end Go.Proofs.Ytppmcbkcohiodaa.Range
namespace Go.Proofs.Ytppmcbkcohiodaa.Range
open Go Go.RowKit Go.Shelf Go.Proofs.YtppmcbkcohiodaaW.PrintWords Go.Proofs.Ytppmcbkcohiodaa.Fl
attribute [local go_sem] Oper.semAt_some
set_option maxHeartbeats 8000000
set_option maxRecDepth 100000
set_option linter.unusedVariables false
/-- The four numbers of round k. -/
def chunk (l : List Int) (k : Nat) : List Int := (l.drop (4 * k)).take 4
def vals (l : List Int) (k : Nat) : List Nat := (List.range k).map fun j => (ofF (chunk l j)).1
def okUpto (l : List Int) (k : Nat) : Prop := ∀ j, j < k → (ofF (chunk l j)).2 = true
def fls (xs : List Nat) : List Value := xs.map (Value.float .f64)
theorem chunk_length (l : List Int) (k : Nat) (h : 4 * k + 4 ≤ l.length) : (chunk l k).length = 4 := by
  unfold chunk; rw [List.length_take, List.length_drop]; omega
theorem vals_succ (l : List Int) (k : Nat) : fls (vals l (k + 1)) = fls (vals l k) ++ [.float .f64 (ofF (chunk l k)).1] := by
  unfold fls vals; rw [List.range_succ]; simp
theorem okUpto_succ {l : List Int} {k : Nat} (h : okUpto l k) (h1 : (ofF (chunk l k)).2 = true) : okUpto l (k + 1) := fun j hj => by
  by_cases e : j = k
  · rw [e]; exact h1
  · exact h j (by omega)
theorem add_add' (a : Addr) (i j : Nat) : (a.add i).add j = a.add (i + j) := by
  unfold Addr.add
  by_cases h1 : i = 0 <;> by_cases h2 : j = 0 <;> simp [h1, h2, Nat.add_assoc]
theorem chunk_C {W : World} {ad : Addr} {l : List Int} (h : Kd.C (Kd.int .i64) W (some ad) l.length l) (k : Nat) (hk : 4 * k + 4 ≤ l.length) : Kd.C (Kd.int .i64) W (some (ad.add (4 * k))) (chunk l k).length (chunk l k) := by
  refine ⟨rfl, by rw [chunk_length l k hk]; omega, fun _ => ⟨_, rfl, fun j p hp => ?_⟩⟩
  obtain ⟨ad', e, hc⟩ := h.2.2 (by omega)
  cases e
  have hj : j < 4 := by rw [← chunk_length l k hk]; exact (List.getElem?_eq_some_iff.1 hp).1
  have hp' : l[4 * k + j]? = some p := by
    unfold chunk at hp
    rw [List.getElem?_take, if_pos hj, List.getElem?_drop] at hp
    exact hp
  obtain ⟨c, h1, h2, h3⟩ := hc _ _ hp'
  refine ⟨c, h1, h2, fun i u hu => ?_⟩
  have := h3 i u hu
  rw [add_add', show 4 * k + (j * (Kd.int .i64).sz + i) = (4 * k + j) * (Kd.int .i64).sz + i from by rw [Nat.add_mul]; show 4 * k + (j * 1 + i) = 4 * k * 1 + j * 1 + i; omega]
  exact this
/-- Behind i floats, k rounds of numbers being taken away. -/
structure J (n0 : Nat) (w0 : World) (ad : Addr) (c0 : Nat) (l : List Int) (i k : Nat) (W : World) : Prop where
  out : ∃ v, Boxed W (n0 + 2) 76 v ∧ W.ownsRow n0 23 1 v i (fls (vals l i))
  left : ∃ A r c, Boxed W (n0 + 3) 28 (.slice A r c) ∧ Left ad l.length c0 (n0 + 3) k A r c
  r1 : Boxed W n0 76 (.slice none 0 0)
  r2 : Boxed W (n0 + 1) 4 (.bool false)
  ok : okUpto l i
  below : Below n0 w0 W
theorem J.kept {n0 : Nat} {w0 : World} {ad : Addr} {c0 : Nat} {l : List Int} {i k : Nat} {W W' : World} {row : Option Nat} (h : J n0 w0 ad c0 l i k W) (hg : W.grownBy W' row) (hr : ∀ r, row = some r → n0 ≤ r ∧ ∃ o : Obj, W.heap[r]? = some o ∧ o.isCells = false) : J n0 w0 ad c0 l i k W' := by
  have hne : ∀ {B t v}, Boxed W B t v → some B ≠ row := fun {B t v} hb e => by
    obtain ⟨_, o, ho, hc⟩ := hr B e.symm
    rw [show W.heap[B]? = _ from hb] at ho; cases ho; cases hc
  obtain ⟨v, hv, hrow⟩ := h.out
  obtain ⟨A, r, c, hb, hl⟩ := h.left
  refine ⟨⟨v, hv.kept hg (hne hv), hrow.kept hg ?_⟩, ⟨A, r, c, hb.kept hg (hne hb), hl⟩, h.r1.kept hg (hne h.r1), h.r2.kept hg (hne h.r2), h.ok, h.below.trans ⟨hg.os, hg.tape, hg.output, hg.size, fun b hb => hg.block b (by have := h.r1.lt; omega) (fun e => by have := (hr b e.symm).1; omega)⟩⟩
  rcases hrow.2 with ⟨rfl, _⟩ | ⟨g, cap, cur, rfl, _, hgb, _⟩
  · exact .inl rfl
  · refine .inr (fun e => ?_)
    obtain ⟨_, o, ho, hc⟩ := hr g (by rw [← e]; rfl)
    rw [hgb] at ho; cases ho; cases hc
theorem J.put {n0 : Nat} {w0 : World} {ad : Addr} {c0 : Nat} {l : List Int} {i k : Nat} {W : World} (h : J n0 w0 ad c0 l i k W) (b : Nat) (o : Obj) (hb : n0 ≤ b) (ho : ∃ o', W.heap[b]? = some o' ∧ o'.isCells = false) : J n0 w0 ad c0 l i k (W.putObj b o) :=
  h.kept (grownBy_putObj' W b o) (fun r e => by cases e; exact ⟨hb, ho⟩)
theorem J.alloc {n0 : Nat} {w0 : World} {ad : Addr} {c0 : Nat} {l : List Int} {i k : Nat} {W : World} (h : J n0 w0 ad c0 l i k W) (o : Obj) : J n0 w0 ad c0 l i k (W.alloc o) :=
  h.kept (World.grownBy_alloc W o none) (fun r e => by cases e)
theorem J.grow {n0 : Nat} {w0 : World} {ad : Addr} {c0 : Nat} {l : List Int} {i k : Nat} {W W' : World} (h : J n0 w0 ad c0 l i k W) (hb : Below W.heap.size W W') : J n0 w0 ad c0 l i k W' :=
  h.kept (row := none) ⟨hb.os, hb.tape, hb.output, hb.size, fun k hk _ => hb.block k hk⟩ (fun r e => by cases e)
theorem J.took {n0 : Nat} {w0 : World} {ad : Addr} {c0 : Nat} {l : List Int} {i k k' : Nat} {W : World} {A : Option Addr} {r c : Nat} (h : J n0 w0 ad c0 l i k W) (hl : Left ad l.length c0 (n0 + 3) k' A r c) : J n0 w0 ad c0 l i k' (W.setCell ⟨n0 + 3, 0, none⟩ (.slice A r c)) := by
  obtain ⟨v, hv, hrow⟩ := h.out
  obtain ⟨A', r', c', hb, _⟩ := h.left
  have hg := grownBy_setCell' W (n0 + 3) (.slice A r c)
  refine ⟨⟨v, hv.other (by omega) _, hrow.kept hg ?_⟩, ⟨A, r, c, hb.set _, hl⟩, h.r1.other (by omega) _, h.r2.other (by omega) _, h.ok, h.below.trans ((Below.refl n0 W).setCell (p := ⟨n0 + 3, 0, none⟩) (by show n0 ≤ n0 + 3; omega) _)⟩
  have := hb.not_row (by decide) hrow
  exact .inr (fun e => this e.symm)
/-- A round has returned. -/
structure Jx (n0 : Nat) (w0 : World) (l : List Int) (k : Nat) (W : World) : Prop where
  r1 : Boxed W n0 76 (.slice none 0 0)
  r2 : Boxed W (n0 + 1) 4 (.bool false)
  no : k < l.length / 4 ∧ (ofF (chunk l k)).2 = false
  below : Below n0 w0 W
theorem Jx.put {n0 : Nat} {w0 : World} {l : List Int} {k : Nat} {W : World} (h : Jx n0 w0 l k W) (b : Nat) (o : Obj) (hb : n0 ≤ b) (ho : ∃ o', W.heap[b]? = some o' ∧ o'.isCells = false) : Jx n0 w0 l k (W.putObj b o) := by
  have hg := grownBy_putObj' W b o
  have hne : ∀ {B t v}, Boxed W B t v → some B ≠ some b := fun {B t v} hb e => by
    obtain ⟨o, ho, hc⟩ := ho
    have e' : B = b := by injection e
    have hb' : W.heap[B]? = _ := hb
    rw [e', ho] at hb'; cases hb'; cases hc
  exact ⟨h.r1.kept hg (hne h.r1), h.r2.kept hg (hne h.r2), h.no, h.below.trans ⟨hg.os, hg.tape, hg.output, hg.size, fun k hk => hg.block k (by have := h.r1.lt; omega) (fun e => by cases e; omega)⟩⟩
end Go.Proofs.Ytppmcbkcohiodaa.Range
namespace Go.Proofs.Ytppmcbkcohiodaa.PMeanTells
open Go Go.RowKit Go.Proofs.YtppmcbkcohiodaaW.PrintWords Go.Proofs.YtppmcbkcohiodaaW.PrintLast
set_option maxHeartbeats 2000000
set_option maxRecDepth 100000
set_option linter.unusedVariables false
abbrev vR (x : S55) : Value := .agg #[.int .i64 x.f0, .int .i64 x.f1]
/-- A predicate's call, in every world in which all that lay in w lies unturned. -/
def PredR (g : Nat) (lb : Array Value) (p : S55 → Bool) (w : World) : Prop :=
  ∀ (W : World) (x : S55), Below w.heap.size w W → Calls Try.prog g (#[.agg #[.int .i64 x.f0, .int .i64 x.f1]] ++ lb) W fun e w' => e = .returned (.bool (p x)) ∧ Below W.heap.size W w'
def idxR {α : Type} (p : α → Bool) : List α → Nat → Int
  | [], _ => -1
  | x :: t, i => if p x then (i : Int) else idxR p t (i + 1)
theorem idxR_any {α : Type} (p : α → Bool) : ∀ (l : List α) (i : Nat), decide (idxR p l i ≥ 0) = l.any p := by
  intro l
  induction l with
  | nil => intro i; rfl
  | cons x t ih =>
    intro i
    rw [idxR, List.any_cons]
    cases h : p x with
    | true => rw [if_pos rfl, Bool.true_or]; exact decide_eq_true (by omega)
    | false => rw [if_neg (by decide), Bool.false_or]; exact ih (i + 1)
theorem IndexFuncR (A0 : Option Addr) (c0 : Nat) (l0 : List S55) (g : Nat) (lb : Array Value) (p : S55 → Bool) (w : World) (hr0 : Kd.C k55 w A0 l0.length l0) (hm : l0.length ≤ 1099511627776)
    (eg : ∀ args w, (callFunc g args).run Try.prog w = .ok (.enter g args) w) (hp : PredR g lb p w) :
    Calls Try.prog 70 #[.slice A0 l0.length c0, .func (.func g) #[] lb] w fun e w' => e = .returned (.int .i64 (idxR p l0 0)) ∧ Below w.heap.size w w' := by
  have HR0 := Aside0.mk hr0
  have HP := Aside0.mk hp
  clear hr0 hp
  go_enter Try.func70, Try.ntmps70
  go_wp2
  go_loopg [5, 8] l0.length (fun gg s5 s8 wr => ∃ kk : Nat, kk ≤ l0.length ∧ l0.length - kk ≤ gg ∧ s8 = .int .i64 kk ∧ Aside0 (Below w.heap.size w wr) ∧ Aside0 (idxR p l0 0 = idxR p (l0.drop kk) kk))
  case atStart => exact ⟨0, Nat.zero_le _, by omega, rfl, ⟨Below.refl _ _⟩, ⟨rfl⟩⟩
  case round =>
    obtain ⟨kk, hkk, hg, rfl, D, A⟩ := hrel
    by_cases hlt : kk < l0.length
    · have hltz : ((kk : Int) < (l0.length : Int)) := by omega
      obtain ⟨ad, hA, hc0, hc1⟩ := at_T55 (Kd.C_below HR0.out D.out) (kk : Int) (by omega) (by omega)
      subst hA
      rw [Int.toNat_natCast] at hc0 hc1
      obtain ⟨y, hy⟩ : ∃ y, y = rd_T55 l0 (kk : Int) := ⟨_, rfl⟩
      rw [← hy] at hc0 hc1
      have hcall := HP.out wr y D.out
      have hd : l0.drop kk = y :: l0.drop (kk + 1) := by
        rw [hy]
        have : rd_T55 l0 (kk : Int) = l0[kk] := by simp [rd_T55, List.getD_eq_getElem?_getD, List.getElem?_eq_getElem hlt]
        rw [this]; exact List.drop_eq_getElem_cons hlt
      have HD := Aside0.mk hd
      clear hd hy
      obtain ⟨y0, y1⟩ := y
      simp only at hc0 hc1 hcall
      cases hq : p ⟨y0, y1⟩ with
      | true =>
        rw [hq] at hcall
        have HQ := Aside0.mk hq
        clear hq
        go_wp2_with fail
        refine hcall.mono ?_
        rintro e w1 ⟨rfl, hw⟩
        go_wp2_with fail
        go_ret
        refine ⟨?_, below_step D.out hw⟩
        rw [A.out, HD.out, idxR, if_pos HQ.out]
        rfl
      | false =>
        rw [hq] at hcall
        have HQ := Aside0.mk hq
        clear hq
        go_wp2_with fail
        refine hcall.mono ?_
        rintro e w1 ⟨rfl, hw⟩
        go_wp2_with fail
        go_roundg (l0.length - (kk + 1))
        case measure => omega
        case rel =>
          refine ⟨kk + 1, by omega, by omega, by go_num, ⟨below_step D.out hw⟩, ⟨?_⟩⟩
          rw [A.out, HD.out, idxR, if_neg (by rw [HQ.out]; decide)]
    · have hltz : ¬ ((kk : Int) < (l0.length : Int)) := by omega
      go_wp2
      go_ret
      refine ⟨?_, D.out⟩
      rw [A.out, List.drop_of_length_le (by omega)]
      rfl
theorem ContainsFuncR (A0 : Option Addr) (c0 : Nat) (l0 : List S55) (g : Nat) (lb : Array Value) (p : S55 → Bool) (w : World) (hr0 : Kd.C k55 w A0 l0.length l0) (hm : l0.length ≤ 1099511627776)
    (eg : ∀ args w, (callFunc g args).run Try.prog w = .ok (.enter g args) w) (hp : PredR g lb p w) :
    Calls Try.prog 50 #[.slice A0 l0.length c0, .func (.func g) #[] lb] w fun e w' => e = .returned (.bool (l0.any p)) ∧ Below w.heap.size w w' := by
  have HC := Aside0.mk (IndexFuncR A0 c0 l0 g lb p w hr0 hm eg hp)
  have HA := Aside0.mk (idxR_any p l0 0)
  clear hr0 hp eg
  obtain ⟨i, hi⟩ : ∃ i, i = idxR p l0 0 := ⟨_, rfl⟩
  rw [← hi] at HC HA
  clear hi
  go_enter Try.func50, Try.ntmps50
  go_wp2_with fail
  refine HC.out.mono ?_
  rintro e w1 ⟨rfl, hw⟩
  go_wp2_with fail
  go_ret
  exact ⟨by rw [← HA.out]; rfl, hw⟩
/-- span.Has. -/
theorem span_Has_calls (A0 : Option Addr) (c0 : Nat) (l0 : List S55) (n : Int) (w : World) (hr0 : Kd.C k55 w A0 l0.length l0) (hm : l0.length ≤ 1099511627776) :
    Calls Try.prog 49 #[.slice A0 l0.length c0, .int .i64 n] w fun e w' => e = .returned (.bool (l0.any fun r => decide (r.f0 ≤ n) && decide (n ≤ r.f1))) ∧ Below w.heap.size w w' := by
  have eg : ∀ args w, (callFunc 69 args).run Try.prog w = .ok (.enter 69 args) w := fun args w => enters_ Try.func69 (by kernel_rfl) rfl args w
  have K := blk_new w (.cells #[.int .i64 n] 3)
  have hp : PredR 69 #[.pointer (some ⟨w.heap.size, 0, none⟩)] (fun r => decide (r.f0 ≤ n) && decide (n ≤ r.f1)) (w.alloc (.cells #[.int .i64 n] 3)) := by
    intro W x hb
    have KW := blk_below K hb
    have kc : W.cell? ⟨w.heap.size, 0, none⟩ = some (.int .i64 n) := blk_cell KW 0
    have hlt := blk_lt KW
    have hne : w.heap.size ≠ W.heap.size := by omega
    obtain ⟨a, b⟩ := x
    simp only
    clear hb K KW eg
    obtain ⟨g, hg⟩ : ∃ g, g = w.heap.size := ⟨_, rfl⟩
    rw [← hg] at kc hlt hne ⊢
    clear hg
    show Calls Try.prog 69 #[.agg #[.int .i64 a, .int .i64 b], .pointer (some ⟨g, 0, none⟩)] W _
    have HB : Aside0 (Below W.heap.size W (W.alloc (.cells #[.int .i64 a, .int .i64 b] 55))) := ⟨below_alloc (Below.refl _ _) _⟩
    by_cases h1 : a ≤ n
    · have e1 : decide (a ≤ n) = true := decide_eq_true h1
      by_cases h2 : n ≤ b
      · have e2 : decide (n ≤ b) = true := decide_eq_true h2
        go_enter Try.func69, Try.ntmps69
        go_wp2
        go_ret
        exact ⟨by rw [e1, e2]; rfl, HB.out⟩
      · have e2 : decide (n ≤ b) = false := decide_eq_false h2
        go_enter Try.func69, Try.ntmps69
        go_wp2
        go_ret
        exact ⟨rfl, HB.out⟩
    · have e1 : decide (a ≤ n) = false := decide_eq_false h1
      go_enter Try.func69, Try.ntmps69
      go_wp2
      go_ret
      exact ⟨rfl, HB.out⟩
  have HC := Aside0.mk (ContainsFuncR A0 c0 l0 69 #[.pointer (some ⟨w.heap.size, 0, none⟩)] (fun r => decide (r.f0 ≤ n) && decide (n ≤ r.f1)) (w.alloc (.cells #[.int .i64 n] 3)) (Kd.C_below hr0 (below_alloc (Below.refl _ _) _)) hm eg hp)
  clear hr0 hp K eg
  generalize (l0.any fun r => decide (r.f0 ≤ n) && decide (n ≤ r.f1)) = res at HC ⊢
  go_enter Try.func49, Try.ntmps49
  go_wp2_with fail
  refine HC.out.mono ?_
  rintro e w1 ⟨rfl, hw⟩
  go_wp2_with fail
  go_ret
  exact ⟨rfl, below_step (below_alloc (Below.refl _ w) _) hw⟩
end Go.Proofs.Ytppmcbkcohiodaa.PMeanTells
namespace Go.Proofs.Ytppmcbkcohiodaa.PMeanTells
open Go Go.RowKit Go.Proofs.YtppmcbkcohiodaaW.PrintWords Go.Proofs.YtppmcbkcohiodaaW.PrintLast Go.Proofs.Ytppmcbkcohiodaa.Spans Go.Proofs.Ytppmcbkcohiodaa.Fl Go.Proofs.Ytppmcbkcohiodaa.Range
set_option linter.unusedVariables false
/-- Are ranges of Go's numbers? -/
def fitD (l : List R) : Bool := l.all fun x => (decide (-9223372036854775808 ≤ x.f0) && decide (x.f0 ≤ 9223372036854775807)) && (decide (-9223372036854775808 ≤ x.f1) && decide (x.f1 ≤ 9223372036854775807))
theorem fitD_iff (l : List R) : fitD l = true ↔ Fit l := by
  unfold fitD Fit
  simp only [List.all_eq_true, Bool.and_eq_true, decide_eq_true_eq]
/-- What covers a range, as the document tells it. -/
def covD (l : List R) (r : R) : Bool := if r.f0 > r.f1 then true else coversB (l.foldl refStep []) r
theorem covD_iff {l : List R} (hf : Fit l) (r : R) : covD l r = true ↔ ∀ n, r.f0 ≤ n → n ≤ r.f1 → hasB l n = true := by
  unfold covD
  by_cases h : r.f0 > r.f1
  · rw [if_pos h]
    exact ⟨fun _ n h1 h2 => by omega, fun _ => rfl⟩
  · rw [if_neg h, covers_iff (refNorm_of hf).rt (by omega)]
    exact ⟨fun h n h1 h2 => by rw [← (refNorm_of hf).has]; exact h n h1 h2, fun h n h1 h2 => by rw [(refNorm_of hf).has]; exact h n h1 h2⟩
/-- Are numbers floats'? -/
def realsD (l : List Int) : Bool := decide (l.length % 4 = 0) && (List.range (l.length / 4)).all fun j => (ofF (chunk l j)).2
/-- What one test answers. -/
def atomB (fl : Int) (rg : List R) (lo hi : Nat) (cl un fn : Int) (sp : List R) (vs rs : List Int) : Bool :=
  if fl = 1 then hasB rg cl else if fl = 2 then hasB rg un else if fl = 3 then hasB rg fn else if fl = 4 then sp.all (covD rg) else if fl = 5 then vs.all (hasB rg)
  else realsD rs && (vals rs (rs.length / 4)).all fun x => leF lo x && leF x hi
/-- What one test answers, where that is shown. -/
def atomP (kd fl : Int) (rg : List R) (lo hi : Nat) (of : List S26) (cl un fn : Int) (sp : List R) (vs rs : List Int) : Option Bool :=
  if (fitD rg = true ∧ rg.length ≤ 1000000) ∧ (sp.length ≤ 1000000 ∧ vs.length ≤ 1000000 ∧ rs.length ≤ 4000) then some (atomB fl rg lo hi cl un fn sp vs rs) else none
structure AtomOk (fl : Int) (rg : List R) (lo hi : Nat) (cl un fn : Int) (sp : List R) (vs rs : List Int) (r : Bool) : Prop where
  fit : Fit rg
  lr : rg.length ≤ 1000000
  ls : sp.length ≤ 1000000
  lv : vs.length ≤ 1000000
  lg : rs.length ≤ 4000
  ans : atomB fl rg lo hi cl un fn sp vs rs = r
theorem atomP_ok {kd fl : Int} {rg : List R} {lo hi : Nat} {of : List S26} {cl un fn : Int} {sp : List R} {vs rs : List Int} {r : Bool} (h : atomP kd fl rg lo hi of cl un fn sp vs rs = some r) : AtomOk fl rg lo hi cl un fn sp vs rs r := by
  unfold atomP at h
  split at h
  · rename_i hg
    exact ⟨(fitD_iff _).1 hg.1.1, hg.1.2, hg.2.1, hg.2.2.1, hg.2.2.2, Option.some.inj h⟩
  · cases h
/-- Facts that lie somewhere. -/
structure FaC (w : World) (A1_3 : Option Addr) (c1_3 : Nat) (l1_3 : List (S55)) (A1_4 : Option Addr) (c1_4 : Nat) (l1_4 : List Int) (A1_5 : Option Addr) (c1_5 : Nat) (l1_5 : List Int) : Prop where
  r3 : Kd.C k55 w A1_3 l1_3.length l1_3
  h3 : l1_3.length ≤ c1_3
  r4 : Kd.C (Kd.int .i64) w A1_4 l1_4.length l1_4
  h4 : l1_4.length ≤ c1_4
  r5 : Kd.C (Kd.int .i64) w A1_5 l1_5.length l1_5
  h5 : l1_5.length ≤ c1_5
theorem FaC.on {w w' : World} {A1_3 : Option Addr} {c1_3 : Nat} {l1_3 : List (S55)} {A1_4 : Option Addr} {c1_4 : Nat} {l1_4 : List Int} {A1_5 : Option Addr} {c1_5 : Nat} {l1_5 : List Int} (h : FaC w A1_3 c1_3 l1_3 A1_4 c1_4 l1_4 A1_5 c1_5 l1_5) (hb : Below w.heap.size w w') : FaC w' A1_3 c1_3 l1_3 A1_4 c1_4 l1_4 A1_5 c1_5 l1_5 :=
  ⟨Kd.C_below h.r3 hb, h.h3, Kd.C_below h.r4 hb, h.h4, Kd.C_below h.r5 hb, h.h5⟩
theorem bcellA {W w1 : World} (hb : Below W.heap.size W w1) : (∀ p : Addr, p.block < W.heap.size → w1.cell? p = W.cell? p) ∧ (∀ p : Addr, p.block < W.heap.size → w1.frozen? p = W.frozen? p) :=
  ⟨fun p h => hb.cell (p := p) h, fun p h => hb.frozen (p := p) h⟩
theorem idxO_some {α : Type} (p : α → Bool) : ∀ (l : List α) (i : Nat), idxO (fun x => some (p x)) l i = some (idxR p l i)
  | [], _ => rfl
  | x :: t, i => by
    rw [idxO, idxR]
    simp only [Option.bind_some]
    cases p x with
    | true => rfl
    | false => exact idxO_some p t (i + 1)
theorem all_any {α : Type} (p : α → Bool) (l : List α) : l.all p = !(l.any fun x => !p x) := by
  induction l with
  | nil => rfl
  | cons x t ih => rw [List.all_cons, List.any_cons, ih]; cases p x <;> simp
end Go.Proofs.Ytppmcbkcohiodaa.PMeanTells
