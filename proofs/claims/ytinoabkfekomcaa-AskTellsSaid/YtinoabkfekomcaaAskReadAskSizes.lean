/- ask.read, walked by hand. -/
import Derived.Test.YtinoabkfekomcaaPAskSizesx4
import Derived.Test.YtinoabkfekomcaaMapRead
import Derived.Test.YtinoabkfekomcaaBase
import Derived.BigRegion
namespace Go.Proofs.Ytinoabkfekomcaa.AskAskSizes
open Go Go.RowKit Go.Proofs.Ytinoabkfekomcaa.PAskSizes Go.Proofs.YtinoabkfekomcaaW.PrintWords Go.Proofs.YtinoabkfekomcaaW.PrintLast Go.Proofs.Ytinoabkfekomcaa.Base
attribute [local go_sem] read_m0 read_m1 read_m2 read_look
set_option maxHeartbeats 8000000
set_option maxRecDepth 100000
/-- A row that is read. -/
def Rdr (w : World) (base : Nat) (v : Value) (l : List Int) : Prop := ∃ A c, v = .slice A l.length c ∧ l.length ≤ c ∧ Kd.C (Kd.int .i64) w A l.length l ∧ ∀ ad, A = some ad → base ≤ ad.block
theorem rdr_nil (w : World) (base : Nat) : Rdr w base (.slice none 0 0) [] := ⟨none, 0, rfl, Nat.le_refl _, Kd.C_nil _ _, fun ad e => by cases e⟩
theorem base_of {w : World} {base : Nat} {ok : Nat → Prop} {ad : Addr} {n c : Nat} {l : List Int} (h : Kd.R (Kd.int .i64) 3 w base ok (.slice (some ad) n c) l) : base ≤ ad.block := by
  obtain ⟨inner, ho⟩ := Kd.R_own h
  exact own_base ho ad.block (by simp [Value.ownBlock])
def Told (w : World) (r1 r2 r3 r4 r5 : Int) (r6 : List Int) (r7 : Bool) (e : Ending) (w' : World) : Prop :=
  (∃ v, e = .returned (.tuple #[.agg #[.int .i64 r1, .int .i64 r2, .int .i64 r3, .int .i64 r4, .int .i64 r5, v], .bool r7]) ∧ Rdr w' w.heap.size v r6) ∧ Below w.heap.size w w'
theorem six_cells {w : World} {g : Nat} {t : TypeId} {v0 v1 v2 v3 v4 v5 : Value} (h : w.heap[g]? = some (.cells #[v0, v1, v2, v3, v4, v5] t (0, 0))) :
    (w.cell? ⟨g, 0, none⟩ = some v0 ∧ w.cell? ⟨g, 1, none⟩ = some v1 ∧ w.cell? ⟨g, 2, none⟩ = some v2 ∧ w.cell? ⟨g, 3, none⟩ = some v3 ∧ w.cell? ⟨g, 4, none⟩ = some v4 ∧ w.cell? ⟨g, 5, none⟩ = some v5) ∧ ∀ i, w.frozen? ⟨g, i, none⟩ = false :=
  ⟨⟨blk_cell h 0, blk_cell h 1, blk_cell h 2, blk_cell h 3, blk_cell h 4, blk_cell h 5⟩, fun i => blk_frozen h i⟩
abbrev Z6 : Array Value := #[.int .i64 0, .int .i64 0, .int .i64 0, .int .i64 0, .int .i64 0, .slice none 0 0]
abbrev F6 (fc : Int) : Array Value := #[.int .i64 fc, .int .i64 0, .int .i64 0, .int .i64 0, .int .i64 0, .slice none 0 0]
abbrev W0 (w : World) (fc : Int) (M : Obj) : World := ((w.alloc (.cells Z6 24)).alloc (.cells (F6 fc) 24)).alloc M
theorem start_heap (w w1 : World) (fc : Int) {M : Obj} (hb : Below (W0 w fc M).heap.size (W0 w fc M) w1) :
    w1.heap[w.heap.size + 1]? = some (.cells (F6 fc) 24 (0, 0)) ∧ w1.heap[w.heap.size]? = some (.cells Z6 24 (0, 0)) := by
  have e : (w.alloc (.cells Z6 24)).heap.size = w.heap.size + 1 := by simp
  constructor
  · have h := blk_new (w.alloc (.cells Z6 24)) (.cells (F6 fc) 24)
    rw [e] at h
    exact blk_below (blk_alloc h M) hb
  · have h := blk_new w (.cells Z6 24)
    exact blk_below (blk_alloc (blk_alloc h _) M) hb
theorem below0 (w : World) (fc : Int) {M : Obj} {w1 : World} (hb : Below (W0 w fc M).heap.size (W0 w fc M) w1) : Below w.heap.size w w1 :=
  below_step (below_alloc (below_alloc (below_alloc (Below.refl _ _) _) _) _) hb
theorem below_cell {B : Nat} {w w' : World} {g i : Nat} (h : Below B w w') (hg : B ≤ g) (u : Value) : Below B w (w'.setCell ⟨g, i, none⟩ u) := h.setCell (p := ⟨g, i, none⟩) hg u
theorem put6 {w : World} {g : Nat} {t : TypeId} {y0 y1 y2 y3 y4 y5 x0 x1 x2 x3 x4 x5 : Value} (h : w.heap[g]? = some (.cells #[y0, y1, y2, y3, y4, y5] t (0, 0))) :
    ((((((w.setCell ⟨g, 0, none⟩ x0).setCell ⟨g, 1, none⟩ x1).setCell ⟨g, 2, none⟩ x2).setCell ⟨g, 3, none⟩ x3).setCell ⟨g, 4, none⟩ x4).setCell ⟨g, 5, none⟩ x5).heap[g]? = some (.cells #[x0, x1, x2, x3, x4, x5] t (0, 0)) :=
  blk_put (blk_put (blk_put (blk_put (blk_put (blk_put h 0 x0 rfl) 1 x1 rfl) 2 x2 rfl) 3 x3 rfl) 4 x4 rfl) 5 x5 rfl
theorem c_set {w : World} {ad : Addr} {n : Nat} {l : List Int} (h : Kd.C (Kd.int .i64) w (some ad) n l) {g i : Nat} (hne : ad.block ≠ g) (u : Value) : Kd.C (Kd.int .i64) (w.setCell ⟨g, i, none⟩ u) (some ad) n l := by
  obtain ⟨h1, h2, h3⟩ := h
  refine ⟨h1, h2, fun hn => ?_⟩
  obtain ⟨ad', e, hc⟩ := h3 hn
  cases e
  refine ⟨_, rfl, fun j p hp => ?_⟩
  obtain ⟨c, hcl, hk, hcc⟩ := hc j p hp
  refine ⟨c, hcl, hk, fun i' u' hu => ?_⟩
  have hb : ∀ q, (ad.add q).block = ad.block := by intro q; unfold Addr.add; split <;> rfl
  exact (World.cell?_of_block (Below.heap_setCell w ⟨g, i, none⟩ u _ (by rw [hb]; exact hne))).trans (hcc i' u' hu)
theorem c_setA {w : World} {blk off : Nat} {n : Nat} {l : List Int} (h : Kd.C (Kd.int .i64) w (some ⟨blk, off, none⟩) n l) {g i : Nat} (hne : blk ≠ g) (u : Value) : Kd.C (Kd.int .i64) (w.setCell ⟨g, i, none⟩ u) (some ⟨blk, off, none⟩) n l := c_set h hne u
theorem c_drew {w : World} {A : Option Addr} {n : Nat} {l : List Int} (h : Kd.C (Kd.int .i64) w A n l) : Kd.C (Kd.int .i64) w.drew A n l := Kd.C_below h (below_drew1 (Below.refl _ _))
theorem c_tail {w : World} {ad : Addr} {n : Nat} {x : Int} {l : List Int} (h : Kd.C (Kd.int .i64) w (some ad) (n + 1) (x :: l)) : Kd.C (Kd.int .i64) w (some ⟨ad.block, ad.off + 1, none⟩) n l := by
  obtain ⟨h1, h2, h3⟩ := h
  refine ⟨by simpa using h1, by omega, fun hn => ⟨_, rfl, fun j p hp => ?_⟩⟩
  obtain ⟨ad', e, hc⟩ := h3 (by omega)
  cases e
  obtain ⟨c, hcl, hk, hcc⟩ := hc (j + 1) p (by simpa using hp)
  refine ⟨c, hcl, hk, fun i u hu => ?_⟩
  have := hcc i u hu
  rw [← this]
  congr 1
  have e1 : (Kd.int .i64).sz = 1 := rfl
  rw [e1]
  unfold Addr.add
  by_cases h0 : j * 1 + i = 0
  · rw [if_pos h0, if_neg (by omega)]
    show (⟨ad.block, ad.off + 1, none⟩ : Addr) = ⟨ad.block, ad.off + ((j + 1) * 1 + i), none⟩
    rw [show (j + 1) * 1 + i = 1 from by omega]
  · rw [if_neg h0, if_neg (by omega)]
    show (⟨ad.block, ad.off + 1 + (j * 1 + i), none⟩ : Addr) = ⟨ad.block, ad.off + ((j + 1) * 1 + i), none⟩
    rw [show ad.off + 1 + (j * 1 + i) = ad.off + ((j + 1) * 1 + i) from by omega]
theorem slices_lit (W : World) (xs : List Int) (T : TypeId) (hm : xs.length ≤ 1000) : Kd.R (Kd.int .i64) T (W.alloc (.cells (nums .i64 xs).toArray T)) W.heap.size (fun _ => True) (.slice (some ⟨W.heap.size, 0, none⟩) xs.length xs.length) xs :=
  Kd.R_of_own (enc := Value.int .i64) (h1 := fun _ => rfl) (ok := fun _ => True) (World.ownsRow_lit (e := T) (size := 1) W (nums .i64 xs).toArray xs.length (Nat.le_refl _) (by unfold maxLen; omega) (by simp [nums])) (fun _ _ => trivial)
theorem rset {w : World} {base : Nat} {ok : Nat → Prop} {v : Value} {l : List Int} (h : Kd.R (Kd.int .i64) 3 w base ok v l) {g : Nat} {cs : Array Value} (hb : w.heap[g]? = some (.cells cs 24 (0, 0))) (j : Nat) (u : Value) : Kd.R (Kd.int .i64) 3 (w.setCell ⟨g, j, none⟩ u) base ok v l :=
  Kd.R_set h hb (by intro q hq; have : q = 3 := by simpa [Kd.int, Kd.scalar] using hq
                    subst this; decide) j u
theorem rset6 {w : World} {base : Nat} {ok : Nat → Prop} {v : Value} {l : List Int} (h : Kd.R (Kd.int .i64) 3 w base ok v l) {g : Nat} {cs : Array Value} (hb : w.heap[g]? = some (.cells cs 24 (0, 0))) (x0 x1 x2 x3 x4 x5 : Value) :
    Kd.R (Kd.int .i64) 3 ((((((w.setCell ⟨g, 0, none⟩ x0).setCell ⟨g, 1, none⟩ x1).setCell ⟨g, 2, none⟩ x2).setCell ⟨g, 3, none⟩ x3).setCell ⟨g, 4, none⟩ x4).setCell ⟨g, 5, none⟩ x5) base ok v l :=
  (rset (rset (rset (rset (rset (rset h hb _ _) (blk_set hb _ _) _ _) (blk_set (blk_set hb _ _) _ _) _ _) (blk_set (blk_set (blk_set hb _ _) _ _) _ _) _ _) (blk_set (blk_set (blk_set (blk_set hb _ _) _ _) _ _) _ _) _ _) (blk_set (blk_set (blk_set (blk_set (blk_set hb _ _) _ _) _ _) _ _) _ _) _ _)
theorem rdr_of {w : World} {base b0 : Nat} {ok : Nat → Prop} {v : Value} {l : List Int} (h : Kd.R (Kd.int .i64) 3 w base ok v l) (hb : b0 ≤ base) : Rdr w b0 v l := by
  obtain ⟨A, c, rfl, hl, hC⟩ := Kd.R_reads h
  exact ⟨A, c, rfl, hl, hC, fun ad e => by subst e; exact Nat.le_trans hb (base_of h)⟩
theorem readA (k : Nat) (fc : Int) (s : ByteArray) (a b : Int) (w : World) (hfc : fc = 1 ∨ fc = 2 ∨ fc = 3 ∨ fc = 4) (hn : ask_numbers.f k s 2 = some ([a, b], true)) (T : Ending → World → Prop) (hT : T = Told w fc a b 0 0 [] ((s.size : Int) == 4)) :
    Calls Try.prog 52 #[.int .i64 fc, .string s] w T := by
  have HN := Aside0.mk hn
  have HT := Aside0.mk hT
  clear hn hT
  rcases hfc with rfl | rfl | rfl | rfl
  · have hin : inTwo 22 23 1 = false := rfl
    go_enter Try.func52, Try.ntmps52
    go_wp2_with fail
    refine (ask_numbers.calls k s 2 _ true _ HN.out).mono ?_
    rintro e w1 ⟨v, rfl, hR, hb⟩
    obtain ⟨A, c, rfl, hc, hC⟩ := Kd.R_reads hR
    have R1 := Aside0.mk hR
    have C1 := Aside0.mk (And.intro hc hC)
    have B1 := Aside0.mk hb
    obtain ⟨ad0, hA0, hc0⟩ := Kd.at_int hC 0 (by omega) (by simp)
    obtain ⟨ad1, hA1, hc1⟩ := Kd.at_int hC 1 (by omega) (by simp)
    subst hA0
    cases hA1
    clear hR hb hc hC
    have hc0 : w1.cell? ad0 = some (.int .i64 a) := hc0
    have hc1 : w1.cell? ⟨ad0.block, ad0.off + 1, none⟩ = some (.int .i64 b) := hc1
    obtain ⟨g6, hg6⟩ : ∃ g6, g6 = w.heap.size + 1 := ⟨_, rfl⟩
    obtain ⟨g4, hg4⟩ : ∃ g4, g4 = w.heap.size := ⟨_, rfl⟩
    obtain ⟨H6, H4⟩ := start_heap w w1 1 B1.out
    rw [← hg6] at H6
    rw [← hg4] at H4
    obtain ⟨⟨c60, c61, c62, c63, c64, c65⟩, f6⟩ := six_cells H6
    obtain ⟨⟨c40, c41, c42, c43, c44, c45⟩, f4⟩ := six_cells H4
    have K6 := Aside0.mk H6
    have K4 := Aside0.mk H4
    have G6 := Aside0.mk hg6
    have G4 := Aside0.mk hg4
    have hs4 : g4 ≠ g6 := by omega
    have hne : ad0.block ≠ g6 := by
      have h := OwnRow.ne_block R1.out.2 H6 (by decide)
      intro e
      exact h (by simp [Value.ownBlock, e])
    clear H6 H4
    go_upto_region 16 with (fail)
    rw [← hg6, ← hg4]
    clear hg6 hg4
    go_region
    go_wp2
    refine bodyPost_ret (results_ct rfl _ _ g4 24 _ (0, 0) _ rfl (blk_drew (put6 (blk_far (blk_far (K4.out) hs4 _) hs4 _))) Try.underlying24 rfl (by kernel_rfl)) rfl ?_
    rw [HT.out]
    exact ⟨⟨_, rfl, rdr_nil _ _⟩, by
      have D0 := below0 w 1 B1.out
      have e6 : w.heap.size ≤ g6 := by have := G6.out; omega
      have e4 : w.heap.size ≤ g4 := by have := G4.out; omega
      with_reducible (repeat (first | exact D0 | apply below_drew1 | refine below_cell ?_ (by assumption) _))⟩
  · have hin : inTwo 22 23 2 = false := rfl
    go_enter Try.func52, Try.ntmps52
    go_wp2_with fail
    refine (ask_numbers.calls k s 2 _ true _ HN.out).mono ?_
    rintro e w1 ⟨v, rfl, hR, hb⟩
    obtain ⟨A, c, rfl, hc, hC⟩ := Kd.R_reads hR
    have R1 := Aside0.mk hR
    have C1 := Aside0.mk (And.intro hc hC)
    have B1 := Aside0.mk hb
    obtain ⟨ad0, hA0, hc0⟩ := Kd.at_int hC 0 (by omega) (by simp)
    obtain ⟨ad1, hA1, hc1⟩ := Kd.at_int hC 1 (by omega) (by simp)
    subst hA0
    cases hA1
    clear hR hb hc hC
    have hc0 : w1.cell? ad0 = some (.int .i64 a) := hc0
    have hc1 : w1.cell? ⟨ad0.block, ad0.off + 1, none⟩ = some (.int .i64 b) := hc1
    obtain ⟨g6, hg6⟩ : ∃ g6, g6 = w.heap.size + 1 := ⟨_, rfl⟩
    obtain ⟨g4, hg4⟩ : ∃ g4, g4 = w.heap.size := ⟨_, rfl⟩
    obtain ⟨H6, H4⟩ := start_heap w w1 2 B1.out
    rw [← hg6] at H6
    rw [← hg4] at H4
    obtain ⟨⟨c60, c61, c62, c63, c64, c65⟩, f6⟩ := six_cells H6
    obtain ⟨⟨c40, c41, c42, c43, c44, c45⟩, f4⟩ := six_cells H4
    have K6 := Aside0.mk H6
    have K4 := Aside0.mk H4
    have G6 := Aside0.mk hg6
    have G4 := Aside0.mk hg4
    have hs4 : g4 ≠ g6 := by omega
    have hne : ad0.block ≠ g6 := by
      have h := OwnRow.ne_block R1.out.2 H6 (by decide)
      intro e
      exact h (by simp [Value.ownBlock, e])
    clear H6 H4
    go_upto_region 16 with (fail)
    rw [← hg6, ← hg4]
    clear hg6 hg4
    go_region
    go_wp2
    refine bodyPost_ret (results_ct rfl _ _ g4 24 _ (0, 0) _ rfl (blk_drew (put6 (blk_far (blk_far (K4.out) hs4 _) hs4 _))) Try.underlying24 rfl (by kernel_rfl)) rfl ?_
    rw [HT.out]
    exact ⟨⟨_, rfl, rdr_nil _ _⟩, by
      have D0 := below0 w 2 B1.out
      have e6 : w.heap.size ≤ g6 := by have := G6.out; omega
      have e4 : w.heap.size ≤ g4 := by have := G4.out; omega
      with_reducible (repeat (first | exact D0 | apply below_drew1 | refine below_cell ?_ (by assumption) _))⟩
  · have hin : inTwo 22 23 3 = false := rfl
    go_enter Try.func52, Try.ntmps52
    go_wp2_with fail
    refine (ask_numbers.calls k s 2 _ true _ HN.out).mono ?_
    rintro e w1 ⟨v, rfl, hR, hb⟩
    obtain ⟨A, c, rfl, hc, hC⟩ := Kd.R_reads hR
    have R1 := Aside0.mk hR
    have C1 := Aside0.mk (And.intro hc hC)
    have B1 := Aside0.mk hb
    obtain ⟨ad0, hA0, hc0⟩ := Kd.at_int hC 0 (by omega) (by simp)
    obtain ⟨ad1, hA1, hc1⟩ := Kd.at_int hC 1 (by omega) (by simp)
    subst hA0
    cases hA1
    clear hR hb hc hC
    have hc0 : w1.cell? ad0 = some (.int .i64 a) := hc0
    have hc1 : w1.cell? ⟨ad0.block, ad0.off + 1, none⟩ = some (.int .i64 b) := hc1
    obtain ⟨g6, hg6⟩ : ∃ g6, g6 = w.heap.size + 1 := ⟨_, rfl⟩
    obtain ⟨g4, hg4⟩ : ∃ g4, g4 = w.heap.size := ⟨_, rfl⟩
    obtain ⟨H6, H4⟩ := start_heap w w1 3 B1.out
    rw [← hg6] at H6
    rw [← hg4] at H4
    obtain ⟨⟨c60, c61, c62, c63, c64, c65⟩, f6⟩ := six_cells H6
    obtain ⟨⟨c40, c41, c42, c43, c44, c45⟩, f4⟩ := six_cells H4
    have K6 := Aside0.mk H6
    have K4 := Aside0.mk H4
    have G6 := Aside0.mk hg6
    have G4 := Aside0.mk hg4
    have hs4 : g4 ≠ g6 := by omega
    have hne : ad0.block ≠ g6 := by
      have h := OwnRow.ne_block R1.out.2 H6 (by decide)
      intro e
      exact h (by simp [Value.ownBlock, e])
    clear H6 H4
    go_upto_region 16 with (fail)
    rw [← hg6, ← hg4]
    clear hg6 hg4
    go_region
    go_wp2
    refine bodyPost_ret (results_ct rfl _ _ g4 24 _ (0, 0) _ rfl (blk_drew (put6 (blk_far (blk_far (K4.out) hs4 _) hs4 _))) Try.underlying24 rfl (by kernel_rfl)) rfl ?_
    rw [HT.out]
    exact ⟨⟨_, rfl, rdr_nil _ _⟩, by
      have D0 := below0 w 3 B1.out
      have e6 : w.heap.size ≤ g6 := by have := G6.out; omega
      have e4 : w.heap.size ≤ g4 := by have := G4.out; omega
      with_reducible (repeat (first | exact D0 | apply below_drew1 | refine below_cell ?_ (by assumption) _))⟩
  · have hin : inTwo 22 23 4 = false := rfl
    go_enter Try.func52, Try.ntmps52
    go_wp2_with fail
    refine (ask_numbers.calls k s 2 _ true _ HN.out).mono ?_
    rintro e w1 ⟨v, rfl, hR, hb⟩
    obtain ⟨A, c, rfl, hc, hC⟩ := Kd.R_reads hR
    have R1 := Aside0.mk hR
    have C1 := Aside0.mk (And.intro hc hC)
    have B1 := Aside0.mk hb
    obtain ⟨ad0, hA0, hc0⟩ := Kd.at_int hC 0 (by omega) (by simp)
    obtain ⟨ad1, hA1, hc1⟩ := Kd.at_int hC 1 (by omega) (by simp)
    subst hA0
    cases hA1
    clear hR hb hc hC
    have hc0 : w1.cell? ad0 = some (.int .i64 a) := hc0
    have hc1 : w1.cell? ⟨ad0.block, ad0.off + 1, none⟩ = some (.int .i64 b) := hc1
    obtain ⟨g6, hg6⟩ : ∃ g6, g6 = w.heap.size + 1 := ⟨_, rfl⟩
    obtain ⟨g4, hg4⟩ : ∃ g4, g4 = w.heap.size := ⟨_, rfl⟩
    obtain ⟨H6, H4⟩ := start_heap w w1 4 B1.out
    rw [← hg6] at H6
    rw [← hg4] at H4
    obtain ⟨⟨c60, c61, c62, c63, c64, c65⟩, f6⟩ := six_cells H6
    obtain ⟨⟨c40, c41, c42, c43, c44, c45⟩, f4⟩ := six_cells H4
    have K6 := Aside0.mk H6
    have K4 := Aside0.mk H4
    have G6 := Aside0.mk hg6
    have G4 := Aside0.mk hg4
    have hs4 : g4 ≠ g6 := by omega
    have hne : ad0.block ≠ g6 := by
      have h := OwnRow.ne_block R1.out.2 H6 (by decide)
      intro e
      exact h (by simp [Value.ownBlock, e])
    clear H6 H4
    go_upto_region 16 with (fail)
    rw [← hg6, ← hg4]
    clear hg6 hg4
    go_region
    go_wp2
    refine bodyPost_ret (results_ct rfl _ _ g4 24 _ (0, 0) _ rfl (blk_drew (put6 (blk_far (blk_far (K4.out) hs4 _) hs4 _))) Try.underlying24 rfl (by kernel_rfl)) rfl ?_
    rw [HT.out]
    exact ⟨⟨_, rfl, rdr_nil _ _⟩, by
      have D0 := below0 w 4 B1.out
      have e6 : w.heap.size ≤ g6 := by have := G6.out; omega
      have e4 : w.heap.size ≤ g4 := by have := G4.out; omega
      with_reducible (repeat (first | exact D0 | apply below_drew1 | refine below_cell ?_ (by assumption) _))⟩
theorem readB (k : Nat) (fc : Int) (s : ByteArray) (a b : Int) (w : World) (hfc : fc = 5) (hn : ask_numbers.f k s 2 = some ([a, b], true)) (hb0 : 0 ≤ b) (hb1 : b ≤ 65535) (T : Ending → World → Prop) (hT : T = Told w fc 0 0 a 1 [b / 65280] ((s.size : Int) == 4 && b % 65280 == 0)) :
    Calls Try.prog 52 #[.int .i64 fc, .string s] w T := by
  have HN := Aside0.mk hn
  have HT := Aside0.mk hT
  clear hn hT
  subst hfc
  have hin : inTwo 22 23 5 = false := rfl
  go_enter Try.func52, Try.ntmps52
  go_wp2_with fail
  refine (ask_numbers.calls k s 2 _ true _ HN.out).mono ?_
  rintro e w1 ⟨v, rfl, hR, hb⟩
  obtain ⟨A, c, rfl, hc, hC⟩ := Kd.R_reads hR
  have R1 := Aside0.mk hR
  have C1 := Aside0.mk (And.intro hc hC)
  have B1 := Aside0.mk hb
  obtain ⟨ad0, hA0, hc0⟩ := Kd.at_int hC 0 (by omega) (by simp)
  obtain ⟨ad1, hA1, hc1⟩ := Kd.at_int hC 1 (by omega) (by simp)
  subst hA0
  cases hA1
  clear hR hb hc hC
  have hc0 : w1.cell? ad0 = some (.int .i64 a) := hc0
  have hc1 : w1.cell? ⟨ad0.block, ad0.off + 1, none⟩ = some (.int .i64 b) := hc1
  obtain ⟨g6, hg6⟩ : ∃ g6, g6 = w.heap.size + 1 := ⟨_, rfl⟩
  obtain ⟨g4, hg4⟩ : ∃ g4, g4 = w.heap.size := ⟨_, rfl⟩
  obtain ⟨H6, H4⟩ := start_heap w w1 5 B1.out
  rw [← hg6] at H6
  rw [← hg4] at H4
  obtain ⟨⟨c60, c61, c62, c63, c64, c65⟩, f6⟩ := six_cells H6
  obtain ⟨⟨c40, c41, c42, c43, c44, c45⟩, f4⟩ := six_cells H4
  have K6 := Aside0.mk H6
  have K4 := Aside0.mk H4
  have G6 := Aside0.mk hg6
  have G4 := Aside0.mk hg4
  have hs4 : g4 ≠ g6 := by omega
  have hne : ad0.block ≠ g6 := by
    have h := OwnRow.ne_block R1.out.2 H6 (by decide)
    intro e
    exact h (by simp [Value.ownBlock, e])
  clear H6 H4
  have hl6 : g6 < w1.heap.size := blk_lt K6.out
  have hl4 : g4 < w1.heap.size := blk_lt K4.out
  have hl0 : ad0.block < w1.heap.size := Kd.R_lt R1.out _ (by simp [Value.ownBlock])
  have hq : wrap64 (Int.tdiv b 65280) = b / 65280 := by rw [Int.tdiv_eq_ediv_of_nonneg hb0, w64 (by omega) (by omega)]
  have hr : Int.tmod b 65280 = b % 65280 := Int.tmod_eq_emod_of_nonneg hb0
  have a0 : ∀ o, (w1.alloc o).cell? ad0 = some (.int .i64 a) := fun o => (World.cell?_of_block (Below.heap_alloc w1 o _ hl0)).trans hc0
  have a1 : ∀ o, (w1.alloc o).cell? ⟨ad0.block, ad0.off + 1, none⟩ = some (.int .i64 b) := by
    intro o
    have h : (w1.alloc o).cell? ⟨ad0.block, ad0.off + 1, none⟩ = w1.cell? ⟨ad0.block, ad0.off + 1, none⟩ := World.cell?_of_block (Below.heap_alloc w1 o _ hl0)
    exact h.trans hc1
  go_upto_region 19 with (fail)
  rw [← hg6, ← hg4]
  clear hg6 hg4
  go_region
  obtain ⟨W, hW⟩ : ∃ W, W = ((((w1.setCell ⟨g6, 3, none⟩ (.int .i64 a)).setCell ⟨g6, 4, none⟩ (.int .i64 1)).setCell ⟨g6, 5, none⟩ (.slice (some ⟨w1.heap.size, 0, none⟩) 1 1)).alloc (.cells #[.int .i64 (b / 65280)] 3)).drew := ⟨_, rfl⟩
  rw [← hW]
  have H6 : W.heap[g6]? = some (.cells #[.int .i64 5, .int .i64 0, .int .i64 0, .int .i64 a, .int .i64 1, .slice (some ⟨w1.heap.size, 0, none⟩) 1 1] 24 (0, 0)) := by
    rw [hW]; exact blk_drew (blk_alloc (blk_put (blk_put (blk_put K6.out 3 _ rfl) 4 _ rfl) 5 _ rfl) _)
  have H4 : W.heap[g4]? = some (.cells Z6 24 (0, 0)) := by
    rw [hW]; exact blk_drew (blk_alloc (blk_far (blk_far (blk_far K4.out hs4 _) hs4 _) hs4 _) _)
  have DW : Below w.heap.size w W := by
    rw [hW]
    have D0 := below0 w 5 B1.out
    have e6 : w.heap.size ≤ g6 := by have := G6.out; omega
    exact (below_alloc (below_cell (below_cell (below_cell D0 e6 _) e6 _) e6 _) _).drew
  have C0 : Kd.C (Kd.int .i64) W (some ad0) [a, b].length [a, b] := by
    rw [hW]; exact c_drew (Kd.C_below (c_set (c_set (c_set C1.out.2 hne _) hne _) hne _) (below_alloc (Below.refl _ _) _))
  have CV : Kd.C (Kd.int .i64) W (some ⟨w1.heap.size, 0, none⟩) [b / 65280].length [b / 65280] := by
    rw [hW]
    refine c_drew ?_
    have h := Kd.R_reads' (slices_lit ((w1.setCell ⟨g6, 3, none⟩ (.int .i64 a)).setCell ⟨g6, 4, none⟩ (.int .i64 1) |>.setCell ⟨g6, 5, none⟩ (.slice (some ⟨w1.heap.size, 0, none⟩) 1 1)) [b / 65280] 3 (by simp))
    have e : (((w1.setCell ⟨g6, 3, none⟩ (.int .i64 a)).setCell ⟨g6, 4, none⟩ (.int .i64 1)).setCell ⟨g6, 5, none⟩ (.slice (some ⟨w1.heap.size, 0, none⟩) 1 1)).heap.size = w1.heap.size := by simp
    rw [e] at h
    exact h.2.2
  have hvl : w1.heap.size < W.heap.size := by rw [hW]; simp
  have hv6 : w1.heap.size ≠ g6 := by omega
  have hv4 : w1.heap.size ≠ g4 := by omega
  have hne4 : ad0.block ≠ g4 := by
    have h := OwnRow.ne_block R1.out.2 K4.out (by decide)
    intro e
    exact h (by simp [Value.ownBlock, e])
  clear hW
  obtain ⟨⟨c60, c61, c62, c63, c64, c65⟩, f6⟩ := six_cells H6
  obtain ⟨⟨c40, c41, c42, c43, c44, c45⟩, f4⟩ := six_cells H4
  obtain ⟨ad1, hA1, hc1⟩ := Kd.at_int C0 1 (by omega) (by simp)
  cases hA1
  have hc1 : W.cell? ⟨ad0.block, ad0.off + 1, none⟩ = some (.int .i64 b) := hc1
  have K6 := Aside0.mk H6
  have K4 := Aside0.mk H4
  have DW := Aside0.mk DW
  have CW := Aside0.mk CV
  have NV := Aside0.mk hv4
  clear H6 H4 C0 CV hv4 hq a0 a1 hl6 hl4 hl0
  by_cases hs : (s.size : Int) = 4
  · have hd : ((s.size : Int) == 4) = true := beq_iff_eq.2 hs
    go_upto_region 20 with (fail)
    go_region
    go_wp2
    refine bodyPost_ret (results_ct rfl _ _ g4 24 _ (0, 0) _ rfl (blk_drew (put6 K4.out)) Try.underlying24 rfl (by kernel_rfl)) rfl ?_
    rw [HT.out, hd]
    refine ⟨⟨_, rfl, ⟨_, _, rfl, Nat.le_refl _, ?_, fun ad e => by cases e; exact (below0 w 5 B1.out).size⟩⟩, ?_⟩
    · have n4 := NV.out
      have hC := CW.out
      with_reducible (repeat (first | exact hC | apply c_drew | refine c_setA ?_ n4 _))
    · have D0 := DW.out
      have e4 : w.heap.size ≤ g4 := by have := G4.out; omega
      with_reducible (repeat (first | exact D0 | apply below_drew1 | refine below_cell ?_ (by assumption) _))
  · have hd : ((s.size : Int) == 4) = false := beq_eq_false_iff_ne.2 hs
    go_upto_region 20 with (fail)
    go_region
    go_wp2
    refine bodyPost_ret (results_ct rfl _ _ g4 24 _ (0, 0) _ rfl (blk_drew (put6 K4.out)) Try.underlying24 rfl (by kernel_rfl)) rfl ?_
    rw [HT.out, hd]
    refine ⟨⟨_, rfl, ⟨_, _, rfl, Nat.le_refl _, ?_, fun ad e => by cases e; exact (below0 w 5 B1.out).size⟩⟩, ?_⟩
    · have n4 := NV.out
      have hC := CW.out
      with_reducible (repeat (first | exact hC | apply c_drew | refine c_setA ?_ n4 _))
    · have D0 := DW.out
      have e4 : w.heap.size ≤ g4 := by have := G4.out; omega
      with_reducible (repeat (first | exact D0 | apply below_drew1 | refine below_cell ?_ (by assumption) _))
theorem readC6 (k : Nat) (fc : Int) (s : ByteArray) (a b : Int) (w : World) (hfc : fc = 6) (hn : ask_numbers.f k s 2 = some ([a, b], true)) (T : Ending → World → Prop) (hT : T = Told w fc 0 0 a 1 [b] ((s.size : Int) == 4)) :
    Calls Try.prog 52 #[.int .i64 fc, .string s] w T := by
  have HN := Aside0.mk hn
  have HT := Aside0.mk hT
  clear hn hT
  subst hfc
  have hin : inTwo 22 23 6 = false := rfl
  go_enter Try.func52, Try.ntmps52
  go_wp2_with fail
  refine (ask_numbers.calls k s 2 _ true _ HN.out).mono ?_
  rintro e w1 ⟨v, rfl, hR, hb⟩
  obtain ⟨A, c, rfl, hc, hC⟩ := Kd.R_reads hR
  have R1 := Aside0.mk hR
  have C1 := Aside0.mk (And.intro hc hC)
  have B1 := Aside0.mk hb
  obtain ⟨ad0, hA0, hc0⟩ := Kd.at_int hC 0 (by omega) (by simp)
  obtain ⟨ad1, hA1, hc1⟩ := Kd.at_int hC 1 (by omega) (by simp)
  subst hA0
  cases hA1
  clear hR hb hc hC
  have hc0 : w1.cell? ad0 = some (.int .i64 a) := hc0
  have hc1 : w1.cell? ⟨ad0.block, ad0.off + 1, none⟩ = some (.int .i64 b) := hc1
  obtain ⟨g6, hg6⟩ : ∃ g6, g6 = w.heap.size + 1 := ⟨_, rfl⟩
  obtain ⟨g4, hg4⟩ : ∃ g4, g4 = w.heap.size := ⟨_, rfl⟩
  obtain ⟨H6, H4⟩ := start_heap w w1 6 B1.out
  rw [← hg6] at H6
  rw [← hg4] at H4
  obtain ⟨⟨c60, c61, c62, c63, c64, c65⟩, f6⟩ := six_cells H6
  obtain ⟨⟨c40, c41, c42, c43, c44, c45⟩, f4⟩ := six_cells H4
  have K6 := Aside0.mk H6
  have K4 := Aside0.mk H4
  have G6 := Aside0.mk hg6
  have G4 := Aside0.mk hg4
  have hs4 : g4 ≠ g6 := by omega
  have hne : ad0.block ≠ g6 := by
    have h := OwnRow.ne_block R1.out.2 H6 (by decide)
    intro e
    exact h (by simp [Value.ownBlock, e])
  clear H6 H4
  have hc2 : 2 ≤ c := Nat.le_trans (by simp) C1.out.1
  have hne4 : ad0.block ≠ g4 := by
    have h := OwnRow.ne_block R1.out.2 K4.out (by decide)
    intro e
    exact h (by simp [Value.ownBlock, e])
  have N6 := Aside0.mk (And.intro hne hne4)
  clear hne4
  go_upto_region 23 with (fail)
  rw [← hg6, ← hg4]
  clear hg6 hg4
  go_region
  go_wp2
  refine bodyPost_ret (results_ct rfl _ _ g4 24 _ (0, 0) _ rfl (blk_drew (put6 (blk_far (blk_far (blk_far (K4.out) hs4 _) hs4 _) hs4 _))) Try.underlying24 rfl (by kernel_rfl)) rfl ?_
  rw [HT.out]
  exact ⟨⟨_, rfl, ⟨_, _, rfl, by have := C1.out.1; simp at this ⊢; omega, by
    obtain ⟨n6, n4⟩ := N6.out
    have hC : Kd.C (Kd.int .i64) w1 (some ⟨ad0.block, ad0.off + 1, none⟩) [b].length [b] := c_tail C1.out.2
    with_reducible (repeat (first | exact hC | apply c_drew | refine c_setA ?_ n6 _ | refine c_setA ?_ n4 _)), fun ad e => by
    cases e
    have h := base_of R1.out
    simp at h
    show w.heap.size ≤ ad0.block
    omega⟩⟩, by
    have D0 := below0 w 6 B1.out
    have e6 : w.heap.size ≤ g6 := by have := G6.out; omega
    have e4 : w.heap.size ≤ g4 := by have := G4.out; omega
    with_reducible (repeat (first | exact D0 | apply below_drew1 | refine below_cell ?_ (by assumption) _))⟩
theorem readC22 (k : Nat) (fc : Int) (s : ByteArray) (a b c' : Int) (w : World) (hfc : fc = 22) (hn : ask_numbers.f k s 3 = some ([a, b, c'], true)) (T : Ending → World → Prop) (hT : T = Told w fc 0 0 a 1 [b, c'] ((s.size : Int) == 6)) :
    Calls Try.prog 52 #[.int .i64 fc, .string s] w T := by
  have HN := Aside0.mk hn
  have HT := Aside0.mk hT
  clear hn hT
  subst hfc
  have hin : inTwo 22 23 22 = true := rfl
  have hat : atTwo 22 3 23 4 22 = 3 := rfl
  go_enter Try.func52, Try.ntmps52
  go_wp2_with fail
  refine (ask_numbers.calls k s 3 _ true _ HN.out).mono ?_
  rintro e w1 ⟨v, rfl, hR, hb⟩
  obtain ⟨A, c, rfl, hc, hC⟩ := Kd.R_reads hR
  have R1 := Aside0.mk hR
  have C1 := Aside0.mk (And.intro hc hC)
  have B1 := Aside0.mk hb
  obtain ⟨ad0, hA0, hc0⟩ := Kd.at_int hC 0 (by omega) (by simp)
  obtain ⟨ad1, hA1, hc1⟩ := Kd.at_int hC 1 (by omega) (by simp)
  obtain ⟨ad2, hA2, hc2⟩ := Kd.at_int hC 2 (by omega) (by simp)
  subst hA0
  cases hA1
  cases hA2
  clear hR hb hc hC
  have hc0 : w1.cell? ad0 = some (.int .i64 a) := hc0
  have hc1 : w1.cell? ⟨ad0.block, ad0.off + 1, none⟩ = some (.int .i64 b) := hc1
  have hc2 : w1.cell? ⟨ad0.block, ad0.off + 2, none⟩ = some (.int .i64 c') := hc2
  obtain ⟨g6, hg6⟩ : ∃ g6, g6 = w.heap.size + 1 := ⟨_, rfl⟩
  obtain ⟨g4, hg4⟩ : ∃ g4, g4 = w.heap.size := ⟨_, rfl⟩
  obtain ⟨H6, H4⟩ := start_heap w w1 22 B1.out
  rw [← hg6] at H6
  rw [← hg4] at H4
  obtain ⟨⟨c60, c61, c62, c63, c64, c65⟩, f6⟩ := six_cells H6
  obtain ⟨⟨c40, c41, c42, c43, c44, c45⟩, f4⟩ := six_cells H4
  have K6 := Aside0.mk H6
  have K4 := Aside0.mk H4
  have G6 := Aside0.mk hg6
  have G4 := Aside0.mk hg4
  have hs4 : g4 ≠ g6 := by omega
  have hne : ad0.block ≠ g6 := by
    have h := OwnRow.ne_block R1.out.2 H6 (by decide)
    intro e
    exact h (by simp [Value.ownBlock, e])
  clear H6 H4
  have hc2 : 2 ≤ c := Nat.le_trans (by simp) C1.out.1
  have hne4 : ad0.block ≠ g4 := by
    have h := OwnRow.ne_block R1.out.2 K4.out (by decide)
    intro e
    exact h (by simp [Value.ownBlock, e])
  have N6 := Aside0.mk (And.intro hne hne4)
  clear hne4
  go_upto_region 23 with (fail)
  rw [← hg6, ← hg4]
  clear hg6 hg4
  go_region
  go_wp2
  refine bodyPost_ret (results_ct rfl _ _ g4 24 _ (0, 0) _ rfl (blk_drew (put6 (blk_far (blk_far (blk_far (K4.out) hs4 _) hs4 _) hs4 _))) Try.underlying24 rfl (by kernel_rfl)) rfl ?_
  rw [HT.out]
  exact ⟨⟨_, rfl, ⟨_, _, rfl, by have := C1.out.1; simp at this ⊢; omega, by
    obtain ⟨n6, n4⟩ := N6.out
    have hC : Kd.C (Kd.int .i64) w1 (some ⟨ad0.block, ad0.off + 1, none⟩) [b, c'].length [b, c'] := c_tail C1.out.2
    with_reducible (repeat (first | exact hC | apply c_drew | refine c_setA ?_ n6 _ | refine c_setA ?_ n4 _)), fun ad e => by
    cases e
    have h := base_of R1.out
    simp at h
    show w.heap.size ≤ ad0.block
    omega⟩⟩, by
    have D0 := below0 w 22 B1.out
    have e6 : w.heap.size ≤ g6 := by have := G6.out; omega
    have e4 : w.heap.size ≤ g4 := by have := G4.out; omega
    with_reducible (repeat (first | exact D0 | apply below_drew1 | refine below_cell ?_ (by assumption) _))⟩
theorem readD (k : Nat) (fc : Int) (s : ByteArray) (a b c' d : Int) (w : World) (hfc : fc = 23) (hn : ask_numbers.f k s 4 = some ([a, b, c', d], true)) (tl : List Int) (tk : Bool) (ht : ask_tail.f k (s.extract 8 s.size) false d = some (tl, tk)) (hs8 : (8 : Int) ≤ s.size) (T : Ending → World → Prop) (hT : T = Told w fc a b c' d tl tk) :
    Calls Try.prog 52 #[.int .i64 fc, .string s] w T := by
  have HN := Aside0.mk hn
  have HT := Aside0.mk hT
  clear hn hT
  subst hfc
  have HTL := Aside0.mk ht
  clear ht
  have hin : inTwo 22 23 23 = true := rfl
  have hat : atTwo 22 3 23 4 23 = 4 := rfl
  go_enter Try.func52, Try.ntmps52
  go_wp2_with fail
  refine (ask_numbers.calls k s 4 _ true _ HN.out).mono ?_
  rintro e w1 ⟨v, rfl, hR, hb⟩
  obtain ⟨A, c, rfl, hc, hC⟩ := Kd.R_reads hR
  have R1 := Aside0.mk hR
  have C1 := Aside0.mk (And.intro hc hC)
  have B1 := Aside0.mk hb
  obtain ⟨ad0, hA0, hc0⟩ := Kd.at_int hC 0 (by omega) (by simp)
  obtain ⟨ad1, hA1, hc1⟩ := Kd.at_int hC 1 (by omega) (by simp)
  obtain ⟨ad2, hA2, hc2⟩ := Kd.at_int hC 2 (by omega) (by simp)
  obtain ⟨ad3, hA3, hc3⟩ := Kd.at_int hC 3 (by omega) (by simp)
  subst hA0
  cases hA1
  cases hA2
  cases hA3
  clear hR hb hc hC
  have hc0 : w1.cell? ad0 = some (.int .i64 a) := hc0
  have hc1 : w1.cell? ⟨ad0.block, ad0.off + 1, none⟩ = some (.int .i64 b) := hc1
  have hc2 : w1.cell? ⟨ad0.block, ad0.off + 2, none⟩ = some (.int .i64 c') := hc2
  have hc3 : w1.cell? ⟨ad0.block, ad0.off + 3, none⟩ = some (.int .i64 d) := hc3
  obtain ⟨g6, hg6⟩ : ∃ g6, g6 = w.heap.size + 1 := ⟨_, rfl⟩
  obtain ⟨g4, hg4⟩ : ∃ g4, g4 = w.heap.size := ⟨_, rfl⟩
  obtain ⟨H6, H4⟩ := start_heap w w1 23 B1.out
  rw [← hg6] at H6
  rw [← hg4] at H4
  obtain ⟨⟨c60, c61, c62, c63, c64, c65⟩, f6⟩ := six_cells H6
  obtain ⟨⟨c40, c41, c42, c43, c44, c45⟩, f4⟩ := six_cells H4
  have K6 := Aside0.mk H6
  have K4 := Aside0.mk H4
  have G6 := Aside0.mk hg6
  have G4 := Aside0.mk hg4
  have hs4 : g4 ≠ g6 := by omega
  have hne : ad0.block ≠ g6 := by
    have h := OwnRow.ne_block R1.out.2 H6 (by decide)
    intro e
    exact h (by simp [Value.ownBlock, e])
  clear H6 H4
  go_upto_region 26 with (fail)
  rw [← hg6, ← hg4]
  clear hg6 hg4
  go_region
  obtain ⟨W, hW⟩ : ∃ W, W = ((((w1.setCell ⟨g6, 1, none⟩ (.int .i64 a)).setCell ⟨g6, 2, none⟩ (.int .i64 b)).setCell ⟨g6, 3, none⟩ (.int .i64 c')).setCell ⟨g6, 4, none⟩ (.int .i64 d)).drew := ⟨_, rfl⟩
  rw [← hW]
  have H6 : W.heap[g6]? = some (.cells #[.int .i64 23, .int .i64 a, .int .i64 b, .int .i64 c', .int .i64 d, .slice none 0 0] 24 (0, 0)) := by
    rw [hW]; exact blk_drew (blk_put (blk_put (blk_put (blk_put K6.out 1 _ rfl) 2 _ rfl) 3 _ rfl) 4 _ rfl)
  have H4 : W.heap[g4]? = some (.cells Z6 24 (0, 0)) := by
    rw [hW]; exact blk_drew (blk_far (blk_far (blk_far (blk_far (K4.out) hs4 _) hs4 _) hs4 _) hs4 _)
  have DW : Below w.heap.size w W := by
    rw [hW]
    have D0 := below0 w 23 B1.out
    have e6 : w.heap.size ≤ g6 := by have := G6.out; omega
    with_reducible (repeat (first | exact D0 | apply below_drew1 | refine below_cell ?_ (by assumption) _))
  clear hW
  obtain ⟨⟨c60, c61, c62, c63, c64, c65⟩, f6⟩ := six_cells H6
  have K6 := Aside0.mk H6
  have K4 := Aside0.mk H4
  have DW := Aside0.mk DW
  clear H6 H4 hc0 hc1 hc2 hc3 hne f4 c40 c41 c42 c43 c44 c45
  have hw8 : IntKind.i64.wrap 8 = 8 := by decide
  go_upto_region 27 with (fail)
  go_region_with (refine (ask_tail.calls k _ _ _ tl tk _ HTL.out).mono ?_; rintro e w2 ⟨v2, rfl, hR2, hb2⟩; obtain ⟨A2, k2, rfl, hl2, hC2⟩ := Kd.R_reads hR2; have J6 := Aside0.mk (blk_below (blk_drewN K6.out _) hb2); have J4 := Aside0.mk (blk_below (blk_drewN K4.out _) hb2); obtain ⟨⟨d60, d61, d62, d63, d64, d65⟩, h6⟩ := six_cells J6.out; obtain ⟨⟨d40, d41, d42, d43, d44, d45⟩, h4⟩ := six_cells J4.out; have HR2 := Aside0.mk hR2; have HB2 := Aside0.mk hb2; have HC2 := Aside0.mk (And.intro hl2 hC2); clear hR2 hb2 hl2 hC2)
  go_wp2
  refine bodyPost_ret (results_ct rfl _ _ g4 24 _ (0, 0) _ rfl (put6 (blk_far J4.out hs4 _)) Try.underlying24 rfl (by kernel_rfl)) rfl ?_
  rw [HT.out]
  refine ⟨⟨_, rfl, rdr_of (rset6 (rset HR2.out J6.out _ _) (blk_far J4.out hs4 _) _ _ _ _ _ _) DW.out.size⟩, ?_⟩
  have e6 : w.heap.size ≤ g6 := by have := G6.out; omega
  have e4 : w.heap.size ≤ g4 := by have := G4.out; omega
  have D0 := below_step DW.out (below_step (pw_below_drewN (Below.refl _ _) _) HB2.out)
  with_reducible (repeat (first | exact D0 | apply below_drew1 | refine below_cell ?_ (by assumption) _))
theorem readE (k : Nat) (fc : Int) (s : ByteArray) (a b : Int) (w : World) (hfc : fc = 15 ∨ fc = 16) (hn : ask_numbers.f k s 2 = some ([a, b], true)) (tl : List Int) (tk : Bool) (ht : ask_tail.f k (s.extract 4 s.size) (fc == 15) b = some (tl, tk)) (hs8 : (4 : Int) ≤ s.size) (T : Ending → World → Prop) (hT : T = Told w fc 0 0 a b tl tk) :
    Calls Try.prog 52 #[.int .i64 fc, .string s] w T := by
  have HN := Aside0.mk hn
  have HT := Aside0.mk hT
  clear hn hT
  rcases hfc with rfl | rfl
  · have HTL := Aside0.mk ht
    clear ht
    have hin : inTwo 22 23 15 = false := rfl
    go_enter Try.func52, Try.ntmps52
    go_wp2_with fail
    refine (ask_numbers.calls k s 2 _ true _ HN.out).mono ?_
    rintro e w1 ⟨v, rfl, hR, hb⟩
    obtain ⟨A, c, rfl, hc, hC⟩ := Kd.R_reads hR
    have R1 := Aside0.mk hR
    have C1 := Aside0.mk (And.intro hc hC)
    have B1 := Aside0.mk hb
    obtain ⟨ad0, hA0, hc0⟩ := Kd.at_int hC 0 (by omega) (by simp)
    obtain ⟨ad1, hA1, hc1⟩ := Kd.at_int hC 1 (by omega) (by simp)
    subst hA0
    cases hA1
    clear hR hb hc hC
    have hc0 : w1.cell? ad0 = some (.int .i64 a) := hc0
    have hc1 : w1.cell? ⟨ad0.block, ad0.off + 1, none⟩ = some (.int .i64 b) := hc1
    obtain ⟨g6, hg6⟩ : ∃ g6, g6 = w.heap.size + 1 := ⟨_, rfl⟩
    obtain ⟨g4, hg4⟩ : ∃ g4, g4 = w.heap.size := ⟨_, rfl⟩
    obtain ⟨H6, H4⟩ := start_heap w w1 15 B1.out
    rw [← hg6] at H6
    rw [← hg4] at H4
    obtain ⟨⟨c60, c61, c62, c63, c64, c65⟩, f6⟩ := six_cells H6
    obtain ⟨⟨c40, c41, c42, c43, c44, c45⟩, f4⟩ := six_cells H4
    have K6 := Aside0.mk H6
    have K4 := Aside0.mk H4
    have G6 := Aside0.mk hg6
    have G4 := Aside0.mk hg4
    have hs4 : g4 ≠ g6 := by omega
    have hne : ad0.block ≠ g6 := by
      have h := OwnRow.ne_block R1.out.2 H6 (by decide)
      intro e
      exact h (by simp [Value.ownBlock, e])
    clear H6 H4
    go_upto_region 11 with (fail)
    rw [← hg6, ← hg4]
    clear hg6 hg4
    go_region
    obtain ⟨W, hW⟩ : ∃ W, W = ((w1.setCell ⟨g6, 3, none⟩ (.int .i64 a)).setCell ⟨g6, 4, none⟩ (.int .i64 b)).drew := ⟨_, rfl⟩
    rw [← hW]
    have H6 : W.heap[g6]? = some (.cells #[.int .i64 15, .int .i64 0, .int .i64 0, .int .i64 a, .int .i64 b, .slice none 0 0] 24 (0, 0)) := by
      rw [hW]; exact blk_drew (blk_put (blk_put K6.out 3 _ rfl) 4 _ rfl)
    have H4 : W.heap[g4]? = some (.cells Z6 24 (0, 0)) := by
      rw [hW]; exact blk_drew (blk_far (blk_far (K4.out) hs4 _) hs4 _)
    have DW : Below w.heap.size w W := by
      rw [hW]
      have D0 := below0 w 15 B1.out
      have e6 : w.heap.size ≤ g6 := by have := G6.out; omega
      with_reducible (repeat (first | exact D0 | apply below_drew1 | refine below_cell ?_ (by assumption) _))
    clear hW
    obtain ⟨⟨c60, c61, c62, c63, c64, c65⟩, f6⟩ := six_cells H6
    have K6 := Aside0.mk H6
    have K4 := Aside0.mk H4
    have DW := Aside0.mk DW
    clear H6 H4 hc0 hc1 hne f4 c40 c41 c42 c43 c44 c45
    have hw8 : IntKind.i64.wrap 4 = 4 := by decide
    go_upto_region 27 with (fail)
    go_region_with (refine (ask_tail.calls k _ _ _ tl tk _ HTL.out).mono ?_; rintro e w2 ⟨v2, rfl, hR2, hb2⟩; obtain ⟨A2, k2, rfl, hl2, hC2⟩ := Kd.R_reads hR2; have J6 := Aside0.mk (blk_below (blk_drewN K6.out _) hb2); have J4 := Aside0.mk (blk_below (blk_drewN K4.out _) hb2); obtain ⟨⟨d60, d61, d62, d63, d64, d65⟩, h6⟩ := six_cells J6.out; obtain ⟨⟨d40, d41, d42, d43, d44, d45⟩, h4⟩ := six_cells J4.out; have HR2 := Aside0.mk hR2; have HB2 := Aside0.mk hb2; have HC2 := Aside0.mk (And.intro hl2 hC2); clear hR2 hb2 hl2 hC2)
    go_wp2
    refine bodyPost_ret (results_ct rfl _ _ g4 24 _ (0, 0) _ rfl (put6 (blk_far J4.out hs4 _)) Try.underlying24 rfl (by kernel_rfl)) rfl ?_
    rw [HT.out]
    refine ⟨⟨_, rfl, rdr_of (rset6 (rset HR2.out J6.out _ _) (blk_far J4.out hs4 _) _ _ _ _ _ _) DW.out.size⟩, ?_⟩
    have e6 : w.heap.size ≤ g6 := by have := G6.out; omega
    have e4 : w.heap.size ≤ g4 := by have := G4.out; omega
    have D0 := below_step DW.out (below_step (pw_below_drewN (Below.refl _ _) _) HB2.out)
    with_reducible (repeat (first | exact D0 | apply below_drew1 | refine below_cell ?_ (by assumption) _))
  · have HTL := Aside0.mk ht
    clear ht
    have hin : inTwo 22 23 16 = false := rfl
    go_enter Try.func52, Try.ntmps52
    go_wp2_with fail
    refine (ask_numbers.calls k s 2 _ true _ HN.out).mono ?_
    rintro e w1 ⟨v, rfl, hR, hb⟩
    obtain ⟨A, c, rfl, hc, hC⟩ := Kd.R_reads hR
    have R1 := Aside0.mk hR
    have C1 := Aside0.mk (And.intro hc hC)
    have B1 := Aside0.mk hb
    obtain ⟨ad0, hA0, hc0⟩ := Kd.at_int hC 0 (by omega) (by simp)
    obtain ⟨ad1, hA1, hc1⟩ := Kd.at_int hC 1 (by omega) (by simp)
    subst hA0
    cases hA1
    clear hR hb hc hC
    have hc0 : w1.cell? ad0 = some (.int .i64 a) := hc0
    have hc1 : w1.cell? ⟨ad0.block, ad0.off + 1, none⟩ = some (.int .i64 b) := hc1
    obtain ⟨g6, hg6⟩ : ∃ g6, g6 = w.heap.size + 1 := ⟨_, rfl⟩
    obtain ⟨g4, hg4⟩ : ∃ g4, g4 = w.heap.size := ⟨_, rfl⟩
    obtain ⟨H6, H4⟩ := start_heap w w1 16 B1.out
    rw [← hg6] at H6
    rw [← hg4] at H4
    obtain ⟨⟨c60, c61, c62, c63, c64, c65⟩, f6⟩ := six_cells H6
    obtain ⟨⟨c40, c41, c42, c43, c44, c45⟩, f4⟩ := six_cells H4
    have K6 := Aside0.mk H6
    have K4 := Aside0.mk H4
    have G6 := Aside0.mk hg6
    have G4 := Aside0.mk hg4
    have hs4 : g4 ≠ g6 := by omega
    have hne : ad0.block ≠ g6 := by
      have h := OwnRow.ne_block R1.out.2 H6 (by decide)
      intro e
      exact h (by simp [Value.ownBlock, e])
    clear H6 H4
    go_upto_region 11 with (fail)
    rw [← hg6, ← hg4]
    clear hg6 hg4
    go_region
    obtain ⟨W, hW⟩ : ∃ W, W = ((w1.setCell ⟨g6, 3, none⟩ (.int .i64 a)).setCell ⟨g6, 4, none⟩ (.int .i64 b)).drew := ⟨_, rfl⟩
    rw [← hW]
    have H6 : W.heap[g6]? = some (.cells #[.int .i64 16, .int .i64 0, .int .i64 0, .int .i64 a, .int .i64 b, .slice none 0 0] 24 (0, 0)) := by
      rw [hW]; exact blk_drew (blk_put (blk_put K6.out 3 _ rfl) 4 _ rfl)
    have H4 : W.heap[g4]? = some (.cells Z6 24 (0, 0)) := by
      rw [hW]; exact blk_drew (blk_far (blk_far (K4.out) hs4 _) hs4 _)
    have DW : Below w.heap.size w W := by
      rw [hW]
      have D0 := below0 w 16 B1.out
      have e6 : w.heap.size ≤ g6 := by have := G6.out; omega
      with_reducible (repeat (first | exact D0 | apply below_drew1 | refine below_cell ?_ (by assumption) _))
    clear hW
    obtain ⟨⟨c60, c61, c62, c63, c64, c65⟩, f6⟩ := six_cells H6
    have K6 := Aside0.mk H6
    have K4 := Aside0.mk H4
    have DW := Aside0.mk DW
    clear H6 H4 hc0 hc1 hne f4 c40 c41 c42 c43 c44 c45
    have hw8 : IntKind.i64.wrap 4 = 4 := by decide
    go_upto_region 27 with (fail)
    go_region_with (refine (ask_tail.calls k _ _ _ tl tk _ HTL.out).mono ?_; rintro e w2 ⟨v2, rfl, hR2, hb2⟩; obtain ⟨A2, k2, rfl, hl2, hC2⟩ := Kd.R_reads hR2; have J6 := Aside0.mk (blk_below (blk_drewN K6.out _) hb2); have J4 := Aside0.mk (blk_below (blk_drewN K4.out _) hb2); obtain ⟨⟨d60, d61, d62, d63, d64, d65⟩, h6⟩ := six_cells J6.out; obtain ⟨⟨d40, d41, d42, d43, d44, d45⟩, h4⟩ := six_cells J4.out; have HR2 := Aside0.mk hR2; have HB2 := Aside0.mk hb2; have HC2 := Aside0.mk (And.intro hl2 hC2); clear hR2 hb2 hl2 hC2)
    go_wp2
    refine bodyPost_ret (results_ct rfl _ _ g4 24 _ (0, 0) _ rfl (put6 (blk_far J4.out hs4 _)) Try.underlying24 rfl (by kernel_rfl)) rfl ?_
    rw [HT.out]
    refine ⟨⟨_, rfl, rdr_of (rset6 (rset HR2.out J6.out _ _) (blk_far J4.out hs4 _) _ _ _ _ _ _) DW.out.size⟩, ?_⟩
    have e6 : w.heap.size ≤ g6 := by have := G6.out; omega
    have e4 : w.heap.size ≤ g4 := by have := G4.out; omega
    have D0 := below_step DW.out (below_step (pw_below_drewN (Below.refl _ _) _) HB2.out)
    with_reducible (repeat (first | exact D0 | apply below_drew1 | refine below_cell ?_ (by assumption) _))
theorem readN (k : Nat) (fc : Int) (s : ByteArray) (l : List Int) (w : World) (hin : inTwo 22 23 fc = false) (hn : ask_numbers.f k s 2 = some (l, false)) (T : Ending → World → Prop) (hT : T = Told w fc 0 0 0 0 [] false) :
    Calls Try.prog 52 #[.int .i64 fc, .string s] w T := by
  have HN := Aside0.mk hn
  have HT := Aside0.mk hT
  clear hn hT
  go_enter Try.func52, Try.ntmps52
  go_wp2_with fail
  refine (ask_numbers.calls k s 2 _ false _ HN.out).mono ?_
  rintro e w1 ⟨v, rfl, hR, hb⟩
  obtain ⟨A, c, rfl, hc, hC⟩ := Kd.R_reads hR
  have B1 := Aside0.mk hb
  clear hR hb hc hC
  obtain ⟨g6, hg6⟩ : ∃ g6, g6 = w.heap.size + 1 := ⟨_, rfl⟩
  obtain ⟨g4, hg4⟩ : ∃ g4, g4 = w.heap.size := ⟨_, rfl⟩
  obtain ⟨H6, H4⟩ := start_heap w w1 fc B1.out
  rw [← hg6] at H6
  rw [← hg4] at H4
  obtain ⟨⟨c60, c61, c62, c63, c64, c65⟩, f6⟩ := six_cells H6
  obtain ⟨⟨c40, c41, c42, c43, c44, c45⟩, f4⟩ := six_cells H4
  have K6 := Aside0.mk H6
  have K4 := Aside0.mk H4
  have G6 := Aside0.mk hg6
  have G4 := Aside0.mk hg4
  have hs4 : g4 ≠ g6 := by omega
  clear H6 H4
  go_upto_region 9 with (fail)
  rw [← hg6, ← hg4]
  clear hg6 hg4
  go_wp2
  refine bodyPost_ret (results_ct rfl _ _ g4 24 _ (0, 0) _ rfl (put6 K4.out) Try.underlying24 rfl (by kernel_rfl)) rfl ?_
  rw [HT.out]
  refine ⟨⟨_, rfl, rdr_nil _ _⟩, ?_⟩
  have e4 : w.heap.size ≤ g4 := by have := G4.out; omega
  have D0 := below0 w fc B1.out
  with_reducible (repeat (first | exact D0 | apply below_drew1 | refine below_cell ?_ (by assumption) _))
theorem readN22 (k : Nat) (s : ByteArray) (l : List Int) (w : World) (hn : ask_numbers.f k s 3 = some (l, false)) (T : Ending → World → Prop) (hT : T = Told w 22 0 0 0 0 [] false) :
    Calls Try.prog 52 #[.int .i64 22, .string s] w T := by
  have HN := Aside0.mk hn
  have HT := Aside0.mk hT
  clear hn hT
  have hin : inTwo 22 23 22 = true := rfl
  have hat : atTwo 22 3 23 4 22 = 3 := rfl
  go_enter Try.func52, Try.ntmps52
  go_wp2_with fail
  refine (ask_numbers.calls k s 3 _ false _ HN.out).mono ?_
  rintro e w1 ⟨v, rfl, hR, hb⟩
  obtain ⟨A, c, rfl, hc, hC⟩ := Kd.R_reads hR
  have B1 := Aside0.mk hb
  clear hR hb hc hC
  obtain ⟨g6, hg6⟩ : ∃ g6, g6 = w.heap.size + 1 := ⟨_, rfl⟩
  obtain ⟨g4, hg4⟩ : ∃ g4, g4 = w.heap.size := ⟨_, rfl⟩
  obtain ⟨H6, H4⟩ := start_heap w w1 22 B1.out
  rw [← hg6] at H6
  rw [← hg4] at H4
  obtain ⟨⟨c60, c61, c62, c63, c64, c65⟩, f6⟩ := six_cells H6
  obtain ⟨⟨c40, c41, c42, c43, c44, c45⟩, f4⟩ := six_cells H4
  have K6 := Aside0.mk H6
  have K4 := Aside0.mk H4
  have G6 := Aside0.mk hg6
  have G4 := Aside0.mk hg4
  have hs4 : g4 ≠ g6 := by omega
  clear H6 H4
  go_upto_region 9 with (fail)
  rw [← hg6, ← hg4]
  clear hg6 hg4
  go_wp2
  refine bodyPost_ret (results_ct rfl _ _ g4 24 _ (0, 0) _ rfl (put6 K4.out) Try.underlying24 rfl (by kernel_rfl)) rfl ?_
  rw [HT.out]
  refine ⟨⟨_, rfl, rdr_nil _ _⟩, ?_⟩
  have e4 : w.heap.size ≤ g4 := by have := G4.out; omega
  have D0 := below0 w 22 B1.out
  with_reducible (repeat (first | exact D0 | apply below_drew1 | refine below_cell ?_ (by assumption) _))
theorem readN23 (k : Nat) (s : ByteArray) (l : List Int) (w : World) (hn : ask_numbers.f k s 4 = some (l, false)) (T : Ending → World → Prop) (hT : T = Told w 23 0 0 0 0 [] false) :
    Calls Try.prog 52 #[.int .i64 23, .string s] w T := by
  have HN := Aside0.mk hn
  have HT := Aside0.mk hT
  clear hn hT
  have hin : inTwo 22 23 23 = true := rfl
  have hat : atTwo 22 3 23 4 23 = 4 := rfl
  go_enter Try.func52, Try.ntmps52
  go_wp2_with fail
  refine (ask_numbers.calls k s 4 _ false _ HN.out).mono ?_
  rintro e w1 ⟨v, rfl, hR, hb⟩
  obtain ⟨A, c, rfl, hc, hC⟩ := Kd.R_reads hR
  have B1 := Aside0.mk hb
  clear hR hb hc hC
  obtain ⟨g6, hg6⟩ : ∃ g6, g6 = w.heap.size + 1 := ⟨_, rfl⟩
  obtain ⟨g4, hg4⟩ : ∃ g4, g4 = w.heap.size := ⟨_, rfl⟩
  obtain ⟨H6, H4⟩ := start_heap w w1 23 B1.out
  rw [← hg6] at H6
  rw [← hg4] at H4
  obtain ⟨⟨c60, c61, c62, c63, c64, c65⟩, f6⟩ := six_cells H6
  obtain ⟨⟨c40, c41, c42, c43, c44, c45⟩, f4⟩ := six_cells H4
  have K6 := Aside0.mk H6
  have K4 := Aside0.mk H4
  have G6 := Aside0.mk hg6
  have G4 := Aside0.mk hg4
  have hs4 : g4 ≠ g6 := by omega
  clear H6 H4
  go_upto_region 9 with (fail)
  rw [← hg6, ← hg4]
  clear hg6 hg4
  go_wp2
  refine bodyPost_ret (results_ct rfl _ _ g4 24 _ (0, 0) _ rfl (put6 K4.out) Try.underlying24 rfl (by kernel_rfl)) rfl ?_
  rw [HT.out]
  refine ⟨⟨_, rfl, rdr_nil _ _⟩, ?_⟩
  have e4 : w.heap.size ≤ g4 := by have := G4.out; omega
  have D0 := below0 w 23 B1.out
  with_reducible (repeat (first | exact D0 | apply below_drew1 | refine below_cell ?_ (by assumption) _))
end Go.Proofs.Ytinoabkfekomcaa.AskAskSizes
