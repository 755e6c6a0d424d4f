/- Texts of this claim, put together (wip/pack.py): PAskSizesx3. -/
import Derived.Test.YtinoabkfekomcaaK1
import Derived.Test.YtinoabkfekomcaaK2
import Derived.Test.YtinoabkfekomcaaK3
namespace Go.Proofs.Ytinoabkfekomcaa.PAskSizes
open Go.RowKit Go.Proofs.YtinoabkfekomcaaW.PrintWords Go.Proofs.YtinoabkfekomcaaW.PrintLast Go.Proofs.YtinoabkfekomcaaW.PrintMore
attribute [local go_sem] read_m0 read_m1 read_m2 read_look max2_int min2_int max_two min_two max_three min_three max_four min_four   -- for this text's walks alone
set_option linter.unusedVariables false
set_option linter.unusedSimpArgs false

/-! ### ask_Put: function 15 -/
/-- What ask.Put's own function leaves: the bytes so far, in the captured variable. -/
def PutOut (gb b : Nat) (w0 : World) (xs : List Int) (w' : World) : Prop :=
 ∃ v' : Value, w'.heap[gb]? = some (.cells #[v'] 34 (0, 0)) ∧ w'.ownsRow b 5 1 v' xs.length (nums .u8 xs) ∧ Below b w0 w'
theorem own_slice {w : World} {b e s n : Nat} {v : Value} {xs : List Value} (h : w.ownsRow b e s v n xs) : ∃ A c, v = .slice A n c := by
 rcases h.2 with ⟨rfl, rfl⟩ | ⟨g, cap, cur, rfl, _⟩
 ·exact ⟨none, 0, rfl⟩
 ·exact ⟨_, cap, rfl⟩
theorem own_ne {w : World} {b s n gb : Nat} {v u : Value} {xs : List Value} (h : w.ownsRow b 5 s v n xs) (hbox : w.heap[gb]? = some (.cells #[u] 34 (0, 0))) : v.ownBlock ≠ some gb := by
 intro e
 obtain ⟨cells, hc⟩ := own_typed h gb e
 rw [hbox] at hc
 injection hc with hc
 injection hc with _ ht
 exact absurd ht (by decide)
set_option maxHeartbeats 8000000 in
set_option maxRecDepth 100000 in
theorem Put1.calls (k : Nat) (A0 : Option Addr) (c0 : Nat) (l0 : List Int) (s : ByteArray) (ok2 : Bool) (gb : Nat) (v : Value) (xs : List Int) (b : Nat) (w0 w : World)
  (hB : Below b w0 w) (hb : b ≤ w.heap.size) (hg : b ≤ gb) (hbox : w.heap[gb]? = some (.cells #[v] 34 (0, 0))) (hv : w.ownsRow b 5 1 v xs.length (nums .u8 xs))
  (hr0 : Kd.C (Kd.int .i64) w A0 l0.length l0) (hc0 : l0.length ≤ c0) (h : twin_PutAll.f k l0 = some (s, ok2)) (hl : xs.length + s.size ≤ 140737488355328) :
  Calls Try.prog 47 #[.slice A0 l0.length c0, .pointer (some ⟨gb, 0, none⟩)] w fun e w' => e = .returned (.tuple #[]) ∧ PutOut gb b w0 (xs ++ bytesOf s) w' := by
 have C1 := Aside0.mk (twin_PutAll.calls k A0 c0 l0 s ok2 w hr0 hc0 h)
 obtain ⟨A, c, rfl⟩ := own_slice hv
 have HV := Aside0.mk hv
 have HX := Aside0.mk hbox
 have HB := Aside0.mk hB
 clear hr0 h hv hbox hB
 go_enter Try.func47, Try.ntmps47
 go_wp2_with fail
 refine C1.out.mono ?_
 rintro e w1 ⟨rfl, hb1⟩
 have HX1 := Aside0.mk (hblk_below HX.out hb1)
 have HV1 := Aside0.mk (pw_own_below HV.out hb1)
 have HB1 := Aside0.mk (below_then HB.out hb hb1)
 have hz1 : b ≤ w1.heap.size := Nat.le_trans hb hb1.size
 have k0 : w1.cell? ⟨gb, 0, none⟩ = some (.slice A xs.length c) := (blk_cell HX1.out 0).trans rfl
 clear C1 hb1
 go_wp2_with (first | (at_builtin; refine print_append_str (w0 := w0) b rfl (.tmp 10) (.tmp 11) 34 9 5 rfl Try.underlying34 Try.underlying9 info5 (.slice A xs.length c) xs s rfl rfl HV1.out HB1.out hz1 hl ?_; intro v2 w2 ho2 hb2 hg2; obtain ⟨A2, c2, rfl⟩ := own_slice ho2; have HX2 := Aside0.mk (blk_grown HX1.out hg2 (fun e => own_ne HV1.out HX1.out e.symm)); have k2 : w2.cell? ⟨gb, 0, none⟩ = some (.slice A xs.length c) := (blk_cell HX2.out 0).trans rfl; have f2 := blk_frozen HX2.out 0))
 go_end0
 refine ⟨rfl, ?_⟩
 refine ⟨_, blk_put HX2.out 0 _ rfl, ?_, hb2.setCell hg _⟩
 have := own_setCell (p := ⟨gb, 0, none⟩) ho2 (fun e => own_ne ho2 HX2.out e.symm) (.slice A2 (xs ++ bytesOf s).length c2)
 simpa only [List.length_append] using this
theorem lit_C (W : World) (xs : List Int) (T : TypeId) (hm : xs.length ≤ 1000) : Kd.C (Kd.int .i64) (W.alloc (.cells (nums .i64 xs).toArray T)) (some ⟨W.heap.size, 0, none⟩) xs.length xs :=
 (Kd.R_reads' (Kd.R_of_own (enc := Value.int .i64) (h1 := fun _ => rfl) (ok := fun _ => True) (World.ownsRow_lit (e := T) (size := 1) W (nums .i64 xs).toArray xs.length (Nat.le_refl _) (by unfold maxLen; omega) (by simp [nums])) (fun _ _ => trivial))).2.2
set_option maxHeartbeats 1000000 in
theorem Put1.lit (k : Nat) (ns : List Int) (s : ByteArray) (ok2 : Bool) (gb : Nat) (v : Value) (xs : List Int) (b : Nat) (wa wp : World)
  (HB : Below b wa wp) (hb : b ≤ wp.heap.size) (hg : b ≤ gb) (HX : wp.heap[gb]? = some (.cells #[v] 34 (0, 0))) (HV : wp.ownsRow b 5 1 v xs.length (nums .u8 xs))
  (hn : ns.length ≤ 1000) (h : twin_PutAll.f k ns = some (s, ok2)) (hl : xs.length + s.size ≤ 140737488355328) :
  Calls Try.prog 47 #[.slice (some ⟨wp.heap.size, 0, none⟩) ns.length ns.length, .pointer (some ⟨gb, 0, none⟩)] (wp.alloc (.cells (nums .i64 ns).toArray 3)) fun e w' => e = .returned (.tuple #[]) ∧ PutOut gb b wa (xs ++ bytesOf s) w' :=
 Put1.calls k _ _ ns s ok2 gb v xs b wa _ (HB.alloc hb _) (by rw [World.size_alloc]; omega) hg (blk_alloc HX _) (HV.alloc _) (lit_C wp ns 3 hn) (Nat.le_refl _) h hl
def ask_Put.two (k : Nat) (b l : List Int) (next : List Int → Option (ByteArray × Bool)) : Option (ByteArray × Bool) :=
 (twin_PutAll.f k l).bind fun t => if b.length + t.1.size ≤ 140737488355328 then next (b ++ bytesOf t.1) else none
def ask_Put.body (k : Nat) (a0 a1 a2 a3 a4 : Int) (l : List Int) : Option (ByteArray × Bool) :=
 if a0 = 1 ∨ a0 = 2 ∨ a0 = 3 ∨ a0 = 4 then ask_Put.two k [a0 % 256] [a1, a2] fun b => some (strOfNums b, true)
 else if a0 = 5 then (if 0 < l.length then ask_Put.two k [a0 % 256] [a3, wrap64 (rd l 0 * 65280)] fun b => some (strOfNums b, true) else none)
 else if a0 = 6 then (if 0 < l.length then ask_Put.two k [a0 % 256] [a3, rd l 0] fun b => some (strOfNums b, true) else none)
 else if a0 = 15 then ask_Put.two k [a0 % 256] [a3, a4] fun b => (coil_Put.f k l).bind fun t => if b.length + 1 + t.1.size ≤ 140737488355328 then some (strOfNums (b ++ [(t.1.size : Int) % 256] ++ bytesOf t.1), true) else none
 else if a0 = 16 then ask_Put.two k [a0 % 256] [a3, a4] fun b => if b.length + 1 ≤ 140737488355328 then ask_Put.two k (b ++ [wrap64 (2 * a4) % 256]) l fun b => some (strOfNums b, true) else none
 else if a0 = 22 then (if 1 < l.length then ask_Put.two k [a0 % 256] [a3, rd l 0, rd l 1] fun b => some (strOfNums b, true) else none)
 else if a0 = 23 then ask_Put.two k [a0 % 256] [a1, a2, a3, a4] fun b => if b.length + 1 ≤ 140737488355328 then ask_Put.two k (b ++ [wrap64 (2 * a4) % 256]) l fun b => some (strOfNums b, true) else none
 else some (strOfNums [a0 % 256], true)
def ask_Put.f (k : Nat) (a0_0 : Int) (a0_1 : Int) (a0_2 : Int) (a0_3 : Int) (a0_4 : Int) (l0_5 : List Int) : Option (ByteArray × Bool) :=
 (ask_Right.f k a0_0 a0_1 a0_2 a0_3 a0_4 l0_5).bind fun ok => if ok = true then ask_Put.body k a0_0 a0_1 a0_2 a0_3 a0_4 l0_5 else some ((⟨#[]⟩ : ByteArray), false)
theorem ask_Put.two_mono {k k' : Nat} (hk : ∀ l, LeO (twin_PutAll.f k l) (twin_PutAll.f k' l)) (b l : List Int) {n n' : List Int → Option (ByteArray × Bool)} (hn : ∀ b, LeO (n b) (n' b)) : LeO (ask_Put.two k b l n) (ask_Put.two k' b l n') := by
 unfold ask_Put.two
 exact LeO.bind (hk l) (fun t => LeO.ite (hn _) (LeO.refl _))
theorem ask_Put.mono : ∀ a0 a1 a2 a3 a4 a5 k, LeO (ask_Put.f k a0 a1 a2 a3 a4 a5) (ask_Put.f (k + 1) a0 a1 a2 a3 a4 a5) := by
 intro a0 a1 a2 a3 a4 a5 k
 have hk : ∀ l, LeO (twin_PutAll.f k l) (twin_PutAll.f (k + 1) l) := fun l => twin_PutAll.mono l k
 unfold ask_Put.f
 refine LeO.bind (ask_Right.mono _ _ _ _ _ _ _) (fun ok => LeO.ite ?_ (LeO.refl _))
 unfold ask_Put.body
 refine LeO.ite (ask_Put.two_mono hk _ _ fun _ => LeO.refl _) (LeO.ite (LeO.ite (ask_Put.two_mono hk _ _ fun _ => LeO.refl _) (LeO.refl _)) (LeO.ite (LeO.ite (ask_Put.two_mono hk _ _ fun _ => LeO.refl _) (LeO.refl _)) (LeO.ite (ask_Put.two_mono hk _ _ fun _ => LeO.bind (coil_Put.mono _ _) fun _ => LeO.refl _) (LeO.ite (ask_Put.two_mono hk _ _ fun _ => LeO.ite (ask_Put.two_mono hk _ _ fun _ => LeO.refl _) (LeO.refl _)) (LeO.ite (LeO.ite (ask_Put.two_mono hk _ _ fun _ => LeO.refl _) (LeO.refl _)) (LeO.ite (ask_Put.two_mono hk _ _ fun _ => LeO.ite (ask_Put.two_mono hk _ _ fun _ => LeO.refl _) (LeO.refl _)) (LeO.refl _)))))))
set_option maxHeartbeats 8000000 in
set_option maxRecDepth 100000 in
theorem ask_Put.calls (k : Nat) (a0_0 : Int) (a0_1 : Int) (a0_2 : Int) (a0_3 : Int) (a0_4 : Int) (A0_5 : Option Addr) (c0_5 : Nat) (l0_5 : List Int) (r1 : ByteArray) (r2 : Bool) (w : World) (hr0_5 : Kd.C (Kd.int .i64) w A0_5 l0_5.length l0_5) (hc0_5 : l0_5.length ≤ c0_5) (h : ask_Put.f k a0_0 a0_1 a0_2 a0_3 a0_4 l0_5 = some (r1, r2)) :
  Calls Try.prog 15 #[.agg #[.int .i64 a0_0, .int .i64 a0_1, .int .i64 a0_2, .int .i64 a0_3, .int .i64 a0_4, .slice A0_5 l0_5.length c0_5]] w fun e w' => e = .returned (.tuple #[.string r1, .bool r2]) ∧ Below w.heap.size w w' := by
 have hu24 := Try.underlying24
 unfold ask_Put.f at h
 obtain ⟨ok, h1, h⟩ := Option.bind_eq_some_iff.1 h
 have C1 := fun W hr => Aside0.mk (ask_Right.calls k a0_0 a0_1 a0_2 a0_3 a0_4 A0_5 c0_5 l0_5 ok W hr hc0_5 h1)
 have HR := Aside0.mk hr0_5
 have H := Aside0.mk h
 clear h1 hr0_5 h
 go_enter Try.func15, Try.ntmps15
 go_wp2_with (first | ((with_reducible refine gate_dst (N := 1) rfl ?_); refine box_event ?hg (N := 1) ?hd (cs := #[.int .i64 a0_0, .int .i64 a0_1, .int .i64 a0_2, .int .i64 a0_3, .int .i64 a0_4, .slice A0_5 l0_5.length c0_5]) (t := 24) ?hr ?_; (case hd => rfl); (case hg => rfl); (case hr => first | (go_simp; done) | (go_simp; rfl)); intro ga hga wa hbox hba; have HA := Aside0.mk hbox; have LA := Aside0.mk hba; have GA := Aside0.mk hga; obtain ⟨k0, k1, k2, k3, k4, k5⟩ := hcells6 hbox; clear hbox hba hga))
 refine (C1 _ (Kd.C_below HR.out LA.out)).out.mono ?_
 rintro e w1 ⟨rfl, hb⟩
 have HA1 := Aside0.mk (blk_below HA.out hb)
 have LA1 := Aside0.mk hb
 clear C1 hb k0 k1 k2 k3 k4 k5
 obtain ⟨k0, k1, k2, k3, k4, k5⟩ := hcells6 HA1.out
 cases ok with
 | false =>
  have h := H.out
  rw [if_neg (by decide)] at h
  simp only [Option.some.injEq, Prod.mk.injEq] at h
  obtain ⟨rfl, rfl⟩ := h
  clear H
  go_wp2_with fail
  go_ret2
  exact ⟨rfl, below_step LA.out LA1.out⟩
 | true =>
 have h := H.out
 rw [if_pos rfl] at h
 clear H
 have H := Aside0.mk h
 clear h
 have hga : ga < w1.heap.size := blk_lt HA1.out
 have hga2 : ga < w1.heap.size + 1 := Nat.lt_succ_of_lt hga
 have hbw : wa.heap.size ≤ w1.heap.size := LA1.out.size
 go_upto_region 5 with (fail)
 have HXp := Aside0.mk (blk_new (w1.alloc (.cells #[.int .u8 (a0_0 % 256)] 5)) (.cells #[.slice (some ⟨w1.heap.size, 0, none⟩) 1 1] 34))
 have HAp := Aside0.mk (blk_alloc (blk_alloc HA1.out (.cells #[.int .u8 (a0_0 % 256)] 5)) (.cells #[.slice (some ⟨w1.heap.size, 0, none⟩) 1 1] 34))
 have HVp := Aside0.mk ((World.ownsRow_lit (base := wa.heap.size) (e := 5) (size := 1) w1 #[.int .u8 (a0_0 % 256)] 1 hbw (by decide) rfl).alloc (.cells #[.slice (some ⟨w1.heap.size, 0, none⟩) 1 1] 34))
 have HBp := Aside0.mk ((LA1.out.alloc hbw (.cells #[.int .u8 (a0_0 % 256)] 5)).alloc (by rw [World.size_alloc]; omega) (.cells #[.slice (some ⟨w1.heap.size, 0, none⟩) 1 1] 34))
 rw [World.size_alloc] at HXp
 obtain ⟨b, hbeq⟩ : ∃ b, b = wa.heap.size := ⟨_, rfl⟩
 obtain ⟨g0, hg0⟩ : ∃ g, g = w1.heap.size := ⟨_, rfl⟩
 have hgb : b ≤ g0 + 1 := by omega
 have hzp : b ≤ ((w1.alloc (.cells #[.int .u8 (a0_0 % 256)] 5)).alloc (.cells #[.slice (some ⟨w1.heap.size, 0, none⟩) 1 1] 34)).heap.size := by rw [World.size_alloc, World.size_alloc]; omega
 rw [← hbeq] at HBp HVp
 clear hga hga2 hbw k0 k1 k2 k3 k4 k5 HA1
 have HVp : Aside0 (((w1.alloc (.cells #[.int .u8 (a0_0 % 256)] 5)).alloc (.cells #[.slice (some ⟨w1.heap.size, 0, none⟩) 1 1] 34)).ownsRow b 5 1 (.slice (some ⟨w1.heap.size, 0, none⟩) 1 1) [a0_0 % 256].length (nums .u8 [a0_0 % 256])) := HVp
 rw [← hg0] at HXp HAp HVp HBp hzp ⊢
 generalize (w1.alloc (.cells #[.int .u8 (a0_0 % 256)] 5)).alloc (.cells #[.slice (some ⟨g0, 0, none⟩) 1 1] 34) = wp at HXp HAp HVp HBp hzp ⊢
 obtain ⟨gb, hgbe⟩ : ∃ g, g = g0 + 1 := ⟨_, rfl⟩
 rw [← hgbe] at HXp hgb ⊢
 have HG := Aside0.mk hbeq
 have HG0 := Aside0.mk hg0
 have HGB := Aside0.mk hgbe
 clear hbeq hg0 hgbe
 obtain ⟨k0, k1, k2, k3, k4, k5⟩ := hcells6 HAp.out
 have h := H.out
 clear H
 unfold ask_Put.body at h
 by_cases e1 : a0_0 = 1 ∨ a0_0 = 2 ∨ a0_0 = 3 ∨ a0_0 = 4
 ·rw [if_pos e1] at h
  unfold ask_Put.two at h
  obtain ⟨⟨s1, o1⟩, hs1, h⟩ := Option.bind_eq_some_iff.1 h
  dsimp only at h
  by_cases hlen : [a0_0 % 256].length + s1.size ≤ 140737488355328
  ·rw [if_pos hlen] at h
   have CP := Aside0.mk (Put1.lit k [a0_1, a0_2] s1 o1 gb _ [a0_0 % 256] b wa wp HBp.out hzp hgb HXp.out HVp.out (by simp) hs1 hlen)
   have HH := Aside0.mk h
   clear h hs1 hlen
   rcases e1 with e1 | e1 | e1 | e1
   ·have e9 := e1
    have t1 : (a0_0 == 1) = true := beq_iff_eq.2 (by omega)
    clear e1 e9
    go_wp2_with fail
    refine CP.out.mono ?_
    rintro e w9 ⟨rfl, hout⟩
    have h := HH.out
    clear CP HH
    obtain ⟨ys, hys⟩ : ∃ ys, ys = [a0_0 % 256] ++ bytesOf s1 := ⟨_, rfl⟩
    rw [← hys] at hout h
    clear hys
    obtain ⟨v9, hx9, hv9, hb9⟩ := hout
    obtain ⟨A9, c9, rfl⟩ := own_slice hv9
    have k9 : w9.cell? ⟨gb, 0, none⟩ = some (.slice A9 ys.length c9) := (blk_cell hx9 0).trans rfl
    have hcv := Kd.C_string (P := Try.prog) (src := 34) (dst := 9) (e := 5) (c := c9) Try.underlying34 Try.underlying5 Try.underlying9 ((Kd.R_reads' (Kd.R_of_own (enc := Value.int .u8) (h1 := fun _ => rfl) (ok := fun _ => True) hv9 (fun _ _ => trivial))).2.2)
    have HE := Aside0.mk (below_step LA.out (HG.out ▸ hb9 : Below wa.heap.size wa w9))
    clear hx9 hv9 hb9
    simp only [Option.some.injEq, Prod.mk.injEq] at h
    obtain ⟨rfl, rfl⟩ := h
    go_wp2_with fail
    go_ret2
    exact ⟨rfl, HE.out⟩
   ·have e9 := e1
    have t1 : (a0_0 == 1) = false := beq_eq_false_iff_ne.2 (by omega)
    have t2 : (a0_0 == 2) = true := beq_iff_eq.2 (by omega)
    clear e1 e9
    go_wp2_with fail
    refine CP.out.mono ?_
    rintro e w9 ⟨rfl, hout⟩
    have h := HH.out
    clear CP HH
    obtain ⟨ys, hys⟩ : ∃ ys, ys = [a0_0 % 256] ++ bytesOf s1 := ⟨_, rfl⟩
    rw [← hys] at hout h
    clear hys
    obtain ⟨v9, hx9, hv9, hb9⟩ := hout
    obtain ⟨A9, c9, rfl⟩ := own_slice hv9
    have k9 : w9.cell? ⟨gb, 0, none⟩ = some (.slice A9 ys.length c9) := (blk_cell hx9 0).trans rfl
    have hcv := Kd.C_string (P := Try.prog) (src := 34) (dst := 9) (e := 5) (c := c9) Try.underlying34 Try.underlying5 Try.underlying9 ((Kd.R_reads' (Kd.R_of_own (enc := Value.int .u8) (h1 := fun _ => rfl) (ok := fun _ => True) hv9 (fun _ _ => trivial))).2.2)
    have HE := Aside0.mk (below_step LA.out (HG.out ▸ hb9 : Below wa.heap.size wa w9))
    clear hx9 hv9 hb9
    simp only [Option.some.injEq, Prod.mk.injEq] at h
    obtain ⟨rfl, rfl⟩ := h
    go_wp2_with fail
    go_ret2
    exact ⟨rfl, HE.out⟩
   ·have e9 := e1
    have t1 : (a0_0 == 1) = false := beq_eq_false_iff_ne.2 (by omega)
    have t2 : (a0_0 == 2) = false := beq_eq_false_iff_ne.2 (by omega)
    have t3 : (a0_0 == 3) = true := beq_iff_eq.2 (by omega)
    clear e1 e9
    go_wp2_with fail
    refine CP.out.mono ?_
    rintro e w9 ⟨rfl, hout⟩
    have h := HH.out
    clear CP HH
    obtain ⟨ys, hys⟩ : ∃ ys, ys = [a0_0 % 256] ++ bytesOf s1 := ⟨_, rfl⟩
    rw [← hys] at hout h
    clear hys
    obtain ⟨v9, hx9, hv9, hb9⟩ := hout
    obtain ⟨A9, c9, rfl⟩ := own_slice hv9
    have k9 : w9.cell? ⟨gb, 0, none⟩ = some (.slice A9 ys.length c9) := (blk_cell hx9 0).trans rfl
    have hcv := Kd.C_string (P := Try.prog) (src := 34) (dst := 9) (e := 5) (c := c9) Try.underlying34 Try.underlying5 Try.underlying9 ((Kd.R_reads' (Kd.R_of_own (enc := Value.int .u8) (h1 := fun _ => rfl) (ok := fun _ => True) hv9 (fun _ _ => trivial))).2.2)
    have HE := Aside0.mk (below_step LA.out (HG.out ▸ hb9 : Below wa.heap.size wa w9))
    clear hx9 hv9 hb9
    simp only [Option.some.injEq, Prod.mk.injEq] at h
    obtain ⟨rfl, rfl⟩ := h
    go_wp2_with fail
    go_ret2
    exact ⟨rfl, HE.out⟩
   ·have e9 := e1
    have t1 : (a0_0 == 1) = false := beq_eq_false_iff_ne.2 (by omega)
    have t2 : (a0_0 == 2) = false := beq_eq_false_iff_ne.2 (by omega)
    have t3 : (a0_0 == 3) = false := beq_eq_false_iff_ne.2 (by omega)
    have t4 : (a0_0 == 4) = true := beq_iff_eq.2 (by omega)
    clear e1 e9
    go_wp2_with fail
    refine CP.out.mono ?_
    rintro e w9 ⟨rfl, hout⟩
    have h := HH.out
    clear CP HH
    obtain ⟨ys, hys⟩ : ∃ ys, ys = [a0_0 % 256] ++ bytesOf s1 := ⟨_, rfl⟩
    rw [← hys] at hout h
    clear hys
    obtain ⟨v9, hx9, hv9, hb9⟩ := hout
    obtain ⟨A9, c9, rfl⟩ := own_slice hv9
    have k9 : w9.cell? ⟨gb, 0, none⟩ = some (.slice A9 ys.length c9) := (blk_cell hx9 0).trans rfl
    have hcv := Kd.C_string (P := Try.prog) (src := 34) (dst := 9) (e := 5) (c := c9) Try.underlying34 Try.underlying5 Try.underlying9 ((Kd.R_reads' (Kd.R_of_own (enc := Value.int .u8) (h1 := fun _ => rfl) (ok := fun _ => True) hv9 (fun _ _ => trivial))).2.2)
    have HE := Aside0.mk (below_step LA.out (HG.out ▸ hb9 : Below wa.heap.size wa w9))
    clear hx9 hv9 hb9
    simp only [Option.some.injEq, Prod.mk.injEq] at h
    obtain ⟨rfl, rfl⟩ := h
    go_wp2_with fail
    go_ret2
    exact ⟨rfl, HE.out⟩
  ·rw [if_neg hlen] at h
   cases h
 ·rw [if_neg e1] at h
  have t1 : (a0_0 == 1) = false := beq_eq_false_iff_ne.2 (by omega)
  have t2 : (a0_0 == 2) = false := beq_eq_false_iff_ne.2 (by omega)
  have t3 : (a0_0 == 3) = false := beq_eq_false_iff_ne.2 (by omega)
  have t4 : (a0_0 == 4) = false := beq_eq_false_iff_ne.2 (by omega)
  by_cases e5 : a0_0 = 5
  ·rw [if_pos e5] at h
   by_cases hl0 : 0 < l0_5.length
   ·rw [if_pos hl0] at h
    have t5 : (a0_0 == 5) = true := beq_iff_eq.2 (by omega)
    obtain ⟨ad, hA, hx0⟩ := Kd.at_int (Kd.C_below HR.out (below_step LA.out (HG.out ▸ HBp.out : Below wa.heap.size wa wp))) 0 (by omega) (by omega)
    subst hA
    have hx0 : wp.cell? ad = some (.int .i64 (rd l0_5 0)) := by rw [show (0 : Int).toNat = 0 from rfl, Addr.add_zero'] at hx0; exact hx0
    have hp0 : ((0 : Int) < (l0_5.length : Int)) := by omega
    have hp1 : ((0 : Int) < (l0_5.length : Int)) := by omega
    clear e1 e5
    unfold ask_Put.two at h
    obtain ⟨⟨s1, o1⟩, hs1, h⟩ := Option.bind_eq_some_iff.1 h
    dsimp only at h
    by_cases hlen : [a0_0 % 256].length + s1.size ≤ 140737488355328
    ·rw [if_pos hlen] at h
     have CP := Aside0.mk (fun W hB hz hX hV => Put1.lit k [a0_3, wrap64 (rd l0_5 0 * 65280)] s1 o1 gb (.slice (some ⟨g0, 0, none⟩) 1 1) [a0_0 % 256] b wa W hB hz hgb hX hV (by simp) hs1 hlen)
     have HH := Aside0.mk h
     clear h hs1 hlen
     go_wp2_with fail
     refine start_ (n := 10) (S := fun w' => w'.cell? ⟨ga, 3, none⟩ = some (.int .i64 a0_3) ∧ w'.cell? ⟨ga, 5, none⟩ = some (.slice (some ad) l0_5.length c0_5) ∧ w'.cell? ad = some (.int .i64 (rd l0_5 0))) (ds := [8, 9]) #[false, false, false, false, false, false, false, false, false, false] (by kernel_rfl) rfl rfl ⟨k3, k5, hx0⟩ (fun hHeld => ?_)
     have hzq : b ≤ wp.drew.heap.size := hzp
     have HXq := Aside0.mk (blk_drew HXp.out)
     have HVq := Aside0.mk HVp.out.drew
     have HBq := Aside0.mk (below_drew HBp.out)
     generalize wp.drew = wq at hzq HXq HVq HBq hHeld ⊢
     refine pure_ (i := 0) (N := some 32) (v := ?_) (a' := ?_) #[true, false, false, false, false, false, false, false, false, false] rfl rfl (by kernel_rfl) (fun _ _ _ h => h) (Or.inl ⟨by rfl, ?_⟩) ?_ ?_
     rotate_left
     ·intro w'
      go_simp
      with_reducible rfl
     rotate_left
     ·simp only [Act.put, List.setIfInBounds_toArray, List.set_cons_zero, List.set_cons_succ, i64_w, i32_w]
      rfl
     refine pure_ (i := 1) (N := some 33) (v := ?_) (a' := ?_) #[true, true, false, false, false, false, false, false, false, false] rfl rfl (by kernel_rfl) (fun _ _ _ h => h) (Or.inl ⟨by rfl, ?_⟩) ?_ ?_
     rotate_left
     ·intro w'
      go_simp
      with_reducible rfl
     rotate_left
     ·simp only [Act.put, List.setIfInBounds_toArray, List.set_cons_zero, List.set_cons_succ, i64_w, i32_w]
      rfl
     refine take_ (i := 2) (N := some 34) (v := ?_) (a' := ?_) #[true, true, true, false, false, false, false, false, false, false] rfl rfl (by kernel_rfl) (fun _ _ _ h => h) (Or.inl ⟨by rfl, ?_⟩) hHeld ?_ ?_
     rotate_left
     ·rintro w' ⟨s0, s1, s2⟩
      go_simp
      with_reducible rfl
     rotate_left
     ·simp only [Act.put, List.setIfInBounds_toArray, List.set_cons_zero, List.set_cons_succ, i64_w, i32_w]
      rfl
     refine pure_ (i := 3) (N := some 35) (v := ?_) (a' := ?_) #[true, true, true, true, false, false, false, false, false, false] rfl rfl (by kernel_rfl) (fun _ _ _ h => h) (Or.inl ⟨by rfl, ?_⟩) ?_ ?_
     rotate_left
     ·intro w'
      go_simp
      with_reducible rfl
     rotate_left
     ·simp only [Act.put, List.setIfInBounds_toArray, List.set_cons_zero, List.set_cons_succ, i64_w, i32_w]
      rfl
     refine take_ (i := 4) (N := some 36) (v := ?_) (a' := ?_) #[true, true, true, true, true, false, false, false, false, false] rfl rfl (by kernel_rfl) (fun _ _ _ h => h) (Or.inl ⟨by rfl, ?_⟩) hHeld ?_ ?_
     rotate_left
     ·rintro w' ⟨s0, s1, s2⟩
      go_simp
      with_reducible rfl
     rotate_left
     ·simp only [Act.put, List.setIfInBounds_toArray, List.set_cons_zero, List.set_cons_succ, i64_w, i32_w]
      rfl
     refine pure_ (i := 5) (N := some 37) (v := ?_) (a' := ?_) #[true, true, true, true, true, true, false, false, false, false] rfl rfl (by kernel_rfl) (fun _ _ _ h => h) (Or.inl ⟨by rfl, ?_⟩) ?_ ?_
     rotate_left
     ·intro w'
      go_simp
      with_reducible rfl
     rotate_left
     ·simp only [Act.put, List.setIfInBounds_toArray, List.set_cons_zero, List.set_cons_succ, i64_w, i32_w]
      rfl
     refine take_ (i := 6) (N := some 38) (v := ?_) (a' := ?_) #[true, true, true, true, true, true, true, false, false, false] rfl rfl (by kernel_rfl) (fun _ _ _ h => h) (Or.inl ⟨by rfl, ?_⟩) hHeld ?_ ?_
     rotate_left
     ·rintro w' ⟨s0, s1, s2⟩
      go_simp
      with_reducible rfl
     rotate_left
     ·simp only [Act.put, List.setIfInBounds_toArray, List.set_cons_zero, List.set_cons_succ, i64_w, i32_w]
      rfl
     refine pure_ (i := 7) (N := some 39) (v := ?_) (a' := ?_) #[true, true, true, true, true, true, true, true, false, false] rfl rfl (by kernel_rfl) (fun _ _ _ h => h) (Or.inl ⟨by rfl, ?_⟩) ?_ ?_
     rotate_left
     ·intro w'
      go_simp
      with_reducible rfl
     rotate_left
     ·simp only [Act.put, List.setIfInBounds_toArray, List.set_cons_zero, List.set_cons_succ, i64_w, i32_w]
      rfl
     refine last_ (i := 8) (N := some 40) #[true, true, true, true, true, true, true, true, true, false] rfl rfl (by kernel_rfl) (by decide) (fun K hK => ?_)
     refine value_ (v := .slice (some ⟨wq.heap.size, 0, none⟩) 2 2) (w1 := wq.alloc (.cells #[.int .i64 (a0_3), .int .i64 (wrap64 (rd l0_5 0 * 65280))] 3)) (by rfl) rfl ?_ ?_
     ·go_simp
     refine hK.out _ _ ?_
     clear hK K
     refine norm_ (a' := ?_) ?_ ?_
     rotate_left
     ·show Act.put _ (some 40) _ = _
      simp only [Act.put, List.setIfInBounds_toArray, List.set_cons_zero, List.set_cons_succ, i64_w, i32_w]
      rfl
     refine last_ (i := 9) (N := some 41) #[true, true, true, true, true, true, true, true, true, true] rfl rfl (by kernel_rfl) (by decide) (fun K hK => ?_)
     refine call_ 47 #[.slice (some ⟨wq.heap.size, 0, none⟩) 2 2, .pointer (some ⟨gb, 0, none⟩)] (by rfl) rfl ?_ ?_
     ·go_simp
     refine (CP.out wq HBq.out hzq HXq.out HVq.out).mono ?_
     rintro e w9 ⟨rfl, hout⟩
     have h := HH.out
     clear CP HH
     obtain ⟨ys, hys⟩ : ∃ ys, ys = [a0_0 % 256] ++ bytesOf s1 := ⟨_, rfl⟩
     rw [← hys] at hout h
     clear hys
     refine ⟨_, rfl, ?_⟩
     refine hK.out _ _ ?_
     clear hK K
     refine done_ (by kernel_rfl) ?_
     obtain ⟨v9, hx9, hv9, hb9⟩ := hout
     obtain ⟨A9, c9, rfl⟩ := own_slice hv9
     have k9 : w9.cell? ⟨gb, 0, none⟩ = some (.slice A9 ys.length c9) := (blk_cell hx9 0).trans rfl
     have hcv := Kd.C_string (P := Try.prog) (src := 34) (dst := 9) (e := 5) (c := c9) Try.underlying34 Try.underlying5 Try.underlying9 ((Kd.R_reads' (Kd.R_of_own (enc := Value.int .u8) (h1 := fun _ => rfl) (ok := fun _ => True) hv9 (fun _ _ => trivial))).2.2)
     have HE := Aside0.mk (below_step LA.out (HG.out ▸ hb9 : Below wa.heap.size wa w9))
     clear hx9 hv9 hb9
     simp only [Option.some.injEq, Prod.mk.injEq] at h
     obtain ⟨rfl, rfl⟩ := h
     go_wp2_with fail
     go_ret2
     exact ⟨rfl, HE.out⟩
    ·rw [if_neg hlen] at h
     cases h
   ·rw [if_neg hl0] at h
    cases h
  ·rw [if_neg e5] at h
   have t5 : (a0_0 == 5) = false := beq_eq_false_iff_ne.2 (by omega)
   by_cases e6 : a0_0 = 6
   ·rw [if_pos e6] at h
    by_cases hl0 : 0 < l0_5.length
    ·rw [if_pos hl0] at h
     have t6 : (a0_0 == 6) = true := beq_iff_eq.2 (by omega)
     obtain ⟨ad, hA, hx0⟩ := Kd.at_int (Kd.C_below HR.out (below_step LA.out (HG.out ▸ HBp.out : Below wa.heap.size wa wp))) 0 (by omega) (by omega)
     subst hA
     have hx0 : wp.cell? ad = some (.int .i64 (rd l0_5 0)) := by rw [show (0 : Int).toNat = 0 from rfl, Addr.add_zero'] at hx0; exact hx0
     have hp0 : ((0 : Int) < (l0_5.length : Int)) := by omega
     have hp1 : ((0 : Int) < (l0_5.length : Int)) := by omega
     clear e1 e6
     unfold ask_Put.two at h
     obtain ⟨⟨s1, o1⟩, hs1, h⟩ := Option.bind_eq_some_iff.1 h
     dsimp only at h
     by_cases hlen : [a0_0 % 256].length + s1.size ≤ 140737488355328
     ·rw [if_pos hlen] at h
      have CP := Aside0.mk (fun W hB hz hX hV => Put1.lit k [a0_3, rd l0_5 0] s1 o1 gb (.slice (some ⟨g0, 0, none⟩) 1 1) [a0_0 % 256] b wa W hB hz hgb hX hV (by simp) hs1 hlen)
      have HH := Aside0.mk h
      clear h hs1 hlen
      go_wp2_with fail
      refine start_ (n := 9) (S := fun w' => w'.cell? ⟨ga, 3, none⟩ = some (.int .i64 a0_3) ∧ w'.cell? ⟨ga, 5, none⟩ = some (.slice (some ad) l0_5.length c0_5) ∧ w'.cell? ad = some (.int .i64 (rd l0_5 0))) (ds := [7, 8]) #[false, false, false, false, false, false, false, false, false] (by kernel_rfl) rfl rfl ⟨k3, k5, hx0⟩ (fun hHeld => ?_)
      have hzq : b ≤ wp.drew.heap.size := hzp
      have HXq := Aside0.mk (blk_drew HXp.out)
      have HVq := Aside0.mk HVp.out.drew
      have HBq := Aside0.mk (below_drew HBp.out)
      generalize wp.drew = wq at hzq HXq HVq HBq hHeld ⊢
      refine pure_ (i := 0) (N := some 44) (v := ?_) (a' := ?_) #[true, false, false, false, false, false, false, false, false] rfl rfl (by kernel_rfl) (fun _ _ _ h => h) (Or.inl ⟨by rfl, ?_⟩) ?_ ?_
      rotate_left
      ·intro w'
       go_simp
       with_reducible rfl
      rotate_left
      ·simp only [Act.put, List.setIfInBounds_toArray, List.set_cons_zero, List.set_cons_succ, i64_w, i32_w]
       rfl
      refine pure_ (i := 1) (N := some 45) (v := ?_) (a' := ?_) #[true, true, false, false, false, false, false, false, false] rfl rfl (by kernel_rfl) (fun _ _ _ h => h) (Or.inl ⟨by rfl, ?_⟩) ?_ ?_
      rotate_left
      ·intro w'
       go_simp
       with_reducible rfl
      rotate_left
      ·simp only [Act.put, List.setIfInBounds_toArray, List.set_cons_zero, List.set_cons_succ, i64_w, i32_w]
       rfl
      refine take_ (i := 2) (N := some 46) (v := ?_) (a' := ?_) #[true, true, true, false, false, false, false, false, false] rfl rfl (by kernel_rfl) (fun _ _ _ h => h) (Or.inl ⟨by rfl, ?_⟩) hHeld ?_ ?_
      rotate_left
      ·rintro w' ⟨s0, s1, s2⟩
       go_simp
       with_reducible rfl
      rotate_left
      ·simp only [Act.put, List.setIfInBounds_toArray, List.set_cons_zero, List.set_cons_succ, i64_w, i32_w]
       rfl
      refine pure_ (i := 3) (N := some 47) (v := ?_) (a' := ?_) #[true, true, true, true, false, false, false, false, false] rfl rfl (by kernel_rfl) (fun _ _ _ h => h) (Or.inl ⟨by rfl, ?_⟩) ?_ ?_
      rotate_left
      ·intro w'
       go_simp
       with_reducible rfl
      rotate_left
      ·simp only [Act.put, List.setIfInBounds_toArray, List.set_cons_zero, List.set_cons_succ, i64_w, i32_w]
       rfl
      refine take_ (i := 4) (N := some 48) (v := ?_) (a' := ?_) #[true, true, true, true, true, false, false, false, false] rfl rfl (by kernel_rfl) (fun _ _ _ h => h) (Or.inl ⟨by rfl, ?_⟩) hHeld ?_ ?_
      rotate_left
      ·rintro w' ⟨s0, s1, s2⟩
       go_simp
       with_reducible rfl
      rotate_left
      ·simp only [Act.put, List.setIfInBounds_toArray, List.set_cons_zero, List.set_cons_succ, i64_w, i32_w]
       rfl
      refine pure_ (i := 5) (N := some 49) (v := ?_) (a' := ?_) #[true, true, true, true, true, true, false, false, false] rfl rfl (by kernel_rfl) (fun _ _ _ h => h) (Or.inl ⟨by rfl, ?_⟩) ?_ ?_
      rotate_left
      ·intro w'
       go_simp
       with_reducible rfl
      rotate_left
      ·simp only [Act.put, List.setIfInBounds_toArray, List.set_cons_zero, List.set_cons_succ, i64_w, i32_w]
       rfl
      refine take_ (i := 6) (N := some 50) (v := ?_) (a' := ?_) #[true, true, true, true, true, true, true, false, false] rfl rfl (by kernel_rfl) (fun _ _ _ h => h) (Or.inl ⟨by rfl, ?_⟩) hHeld ?_ ?_
      rotate_left
      ·rintro w' ⟨s0, s1, s2⟩
       go_simp
       with_reducible rfl
      rotate_left
      ·simp only [Act.put, List.setIfInBounds_toArray, List.set_cons_zero, List.set_cons_succ, i64_w, i32_w]
       rfl
      refine last_ (i := 7) (N := some 51) #[true, true, true, true, true, true, true, true, false] rfl rfl (by kernel_rfl) (by decide) (fun K hK => ?_)
      refine value_ (v := .slice (some ⟨wq.heap.size, 0, none⟩) 2 2) (w1 := wq.alloc (.cells #[.int .i64 (a0_3), .int .i64 (rd l0_5 0)] 3)) (by rfl) rfl ?_ ?_
      ·go_simp
      refine hK.out _ _ ?_
      clear hK K
      refine norm_ (a' := ?_) ?_ ?_
      rotate_left
      ·show Act.put _ (some 51) _ = _
       simp only [Act.put, List.setIfInBounds_toArray, List.set_cons_zero, List.set_cons_succ, i64_w, i32_w]
       rfl
      refine last_ (i := 8) (N := some 52) #[true, true, true, true, true, true, true, true, true] rfl rfl (by kernel_rfl) (by decide) (fun K hK => ?_)
      refine call_ 47 #[.slice (some ⟨wq.heap.size, 0, none⟩) 2 2, .pointer (some ⟨gb, 0, none⟩)] (by rfl) rfl ?_ ?_
      ·go_simp
      refine (CP.out wq HBq.out hzq HXq.out HVq.out).mono ?_
      rintro e w9 ⟨rfl, hout⟩
      have h := HH.out
      clear CP HH
      obtain ⟨ys, hys⟩ : ∃ ys, ys = [a0_0 % 256] ++ bytesOf s1 := ⟨_, rfl⟩
      rw [← hys] at hout h
      clear hys
      refine ⟨_, rfl, ?_⟩
      refine hK.out _ _ ?_
      clear hK K
      refine done_ (by kernel_rfl) ?_
      obtain ⟨v9, hx9, hv9, hb9⟩ := hout
      obtain ⟨A9, c9, rfl⟩ := own_slice hv9
      have k9 : w9.cell? ⟨gb, 0, none⟩ = some (.slice A9 ys.length c9) := (blk_cell hx9 0).trans rfl
      have hcv := Kd.C_string (P := Try.prog) (src := 34) (dst := 9) (e := 5) (c := c9) Try.underlying34 Try.underlying5 Try.underlying9 ((Kd.R_reads' (Kd.R_of_own (enc := Value.int .u8) (h1 := fun _ => rfl) (ok := fun _ => True) hv9 (fun _ _ => trivial))).2.2)
      have HE := Aside0.mk (below_step LA.out (HG.out ▸ hb9 : Below wa.heap.size wa w9))
      clear hx9 hv9 hb9
      simp only [Option.some.injEq, Prod.mk.injEq] at h
      obtain ⟨rfl, rfl⟩ := h
      go_wp2_with fail
      go_ret2
      exact ⟨rfl, HE.out⟩
     ·rw [if_neg hlen] at h
      cases h
    ·rw [if_neg hl0] at h
     cases h
   ·rw [if_neg e6] at h
    have t6 : (a0_0 == 6) = false := beq_eq_false_iff_ne.2 (by omega)
    by_cases e15 : a0_0 = 15
    ·rw [if_pos e15] at h
     have t15 : (a0_0 == 15) = true := beq_iff_eq.2 (by omega)
     clear e15 e1 e5 e6
     unfold ask_Put.two at h
     obtain ⟨⟨s1, o1⟩, hs1, h⟩ := Option.bind_eq_some_iff.1 h
     dsimp only at h
     by_cases hlen : [a0_0 % 256].length + s1.size ≤ 140737488355328
     ·rw [if_pos hlen] at h
      have CP := Aside0.mk (Put1.lit k [a0_3, a0_4] s1 o1 gb _ [a0_0 % 256] b wa wp HBp.out hzp hgb HXp.out HVp.out (by simp) hs1 hlen)
      have HH := Aside0.mk h
      clear h hs1 hlen
      go_wp2_with fail
      refine CP.out.mono ?_
      rintro e w9 ⟨rfl, hout⟩
      have h := HH.out
      clear CP HH
      obtain ⟨ys, hys⟩ : ∃ ys, ys = [a0_0 % 256] ++ bytesOf s1 := ⟨_, rfl⟩
      rw [← hys] at hout h
      clear hys
      obtain ⟨⟨s2, o2⟩, hs2, h⟩ := Option.bind_eq_some_iff.1 h
      dsimp only at h
      obtain ⟨v9, hx9, hv9, hb9⟩ := hout
      obtain ⟨A9, c9, rfl⟩ := own_slice hv9
      have HE := Aside0.mk (below_step LA.out (HG.out ▸ hb9 : Below wa.heap.size wa w9))
      have HAx := Aside0.mk (blk_below HA.out (HG.out ▸ hb9 : Below wa.heap.size wa w9))
      have CQ := Aside0.mk (coil_Put.calls k A0_5 c0_5 l0_5 s2 o2 w9 (Kd.C_below HR.out HE.out) hc0_5 hs2)
      clear k0 k1 k2 k3 k4 k5
      obtain ⟨k0, k1, k2, k3, k4, k5⟩ := hcells6 HAx.out
      have hz9 : b ≤ w9.heap.size := by have := HG.out; have := (HG.out ▸ hb9 : Below wa.heap.size wa w9).size; omega
      by_cases hl2 : ys.length + 1 + s2.size ≤ 140737488355328
      ·rw [if_pos hl2] at h
       have HH := Aside0.mk h
       have HX9 := Aside0.mk hx9
       have HV9 := Aside0.mk hv9
       have HB9 := Aside0.mk hb9
       clear h hs2 hx9 hv9 hb9
       go_wp2_with fail
       refine CQ.out.mono ?_
       rintro e w10 ⟨rfl, hbq⟩
       have HX10 := Aside0.mk (blk_below HX9.out hbq)
       have HV10 := Aside0.mk (pw_own_below HV9.out hbq)
       have HB10 := Aside0.mk (below_then HB9.out hz9 hbq)
       have hz10 : b ≤ w10.heap.size := Nat.le_trans hz9 hbq.size
       have k10 : w10.cell? ⟨gb, 0, none⟩ = some (.slice A9 ys.length c9) := (blk_cell HX10.out 0).trans rfl
       have hgl : gb < w10.heap.size := blk_lt HX10.out
       clear CQ hbq HX9 HV9 HB9 k0 k1 k2 k3 k4 k5
       go_wp2_with (first | (at_builtin; refine print_append_num b rfl (.tmp 68) (.tmp 72) 34 5 .u8 1 rfl Try.underlying34 info5 (by decide) (.slice A9 ys.length c9) ys ((s2.size : Int) % 256) rfl rfl HV10.out HB10.out hz10 (by omega) ?_; intro v11 w11 ho11 hb11 hg11 _; have HX11 := Aside0.mk (blk_grown HX10.out hg11 (fun e => own_ne HV10.out HX10.out e.symm)); have HV11 := Aside0.mk ho11; have HB11 := Aside0.mk hb11; have hz11 := hg11.size; clear ho11 hb11 hg11) | (at_builtin; refine print_append_str (w0 := wa) b rfl (.tmp 73) (.tmp 74) 34 9 5 rfl Try.underlying34 Try.underlying9 info5 _ (ys ++ [(s2.size : Int) % 256]) s2 rfl rfl HV11.out HB11.out (Nat.le_trans hz10 hz11) (by simp only [List.length_append, List.length_singleton]; omega) ?_; intro v12 w12 ho12 hb12 hg12; obtain ⟨zs, hzs⟩ : ∃ zs, zs = ys ++ [(s2.size : Int) % 256] ++ bytesOf s2 := ⟨_, rfl⟩; rw [← hzs] at ho12 HH; clear hzs; obtain ⟨A12, c12, rfl⟩ := own_slice ho12; have HX12 := Aside0.mk (blk_grown HX11.out hg12 (fun e => own_ne HV11.out HX11.out e.symm)); have k12 : w12.cell? ⟨gb, 0, none⟩ = some (.slice A9 ys.length c9) := (blk_cell HX12.out 0).trans rfl; have f12 := blk_frozen HX12.out 0; have HF := Aside0.mk (hb12.setCell (p := ⟨gb, 0, none⟩) (by exact Nat.le_trans hgb (Nat.le_refl _)) (.slice A12 zs.length c12)); have hcv := Kd.C_string (P := Try.prog) (src := 34) (dst := 9) (e := 5) (c := c12) Try.underlying34 Try.underlying5 Try.underlying9 ((Kd.R_reads' (Kd.R_of_own (enc := Value.int .u8) (h1 := fun _ => rfl) (ok := fun _ => True) (own_setCell (p := ⟨gb, 0, none⟩) ho12 (fun e => own_ne ho12 HX12.out e.symm) (.slice A12 zs.length c12)) (fun _ _ => trivial))).2.2)))
       have h := HH.out
       simp only [Option.some.injEq, Prod.mk.injEq] at h
       obtain ⟨rfl, rfl⟩ := h
       go_ret2
       exact ⟨rfl, below_step LA.out (HG.out ▸ HF.out)⟩
      ·rw [if_neg hl2] at h
       cases h
     ·rw [if_neg hlen] at h
      cases h
    ·rw [if_neg e15] at h
     have t15 : (a0_0 == 15) = false := beq_eq_false_iff_ne.2 (by omega)
     by_cases e16 : a0_0 = 16
     ·rw [if_pos e16] at h
      have t16 : (a0_0 == 16) = true := beq_iff_eq.2 (by omega)
      clear e16
      unfold ask_Put.two at h
      obtain ⟨⟨s1, o1⟩, hs1, h⟩ := Option.bind_eq_some_iff.1 h
      dsimp only at h
      by_cases hlen : [a0_0 % 256].length + s1.size ≤ 140737488355328
      ·rw [if_pos hlen] at h
       have CP := Aside0.mk (Put1.lit k [a0_3, a0_4] s1 o1 gb _ [a0_0 % 256] b wa wp HBp.out hzp hgb HXp.out HVp.out (by simp) hs1 hlen)
       have HH := Aside0.mk h
       clear h hs1 hlen
       go_wp2_with fail
       refine CP.out.mono ?_
       rintro e w9 ⟨rfl, hout⟩
       have h := HH.out
       clear CP HH
       obtain ⟨ys, hys⟩ : ∃ ys, ys = [a0_0 % 256] ++ bytesOf s1 := ⟨_, rfl⟩
       rw [← hys] at hout h
       clear hys
       obtain ⟨v9, hx9, hv9, hb9⟩ := hout
       obtain ⟨A9, c9, rfl⟩ := own_slice hv9
       by_cases hl1 : ys.length + 1 ≤ 140737488355328
       ·rw [if_pos hl1] at h
        obtain ⟨⟨s2, o2⟩, hs2, h⟩ := Option.bind_eq_some_iff.1 h
        dsimp only at h
        obtain ⟨zs, hzs⟩ : ∃ zs, zs = ys ++ [wrap64 (2 * a0_4) % 256] := ⟨_, rfl⟩
        rw [← hzs] at h
        by_cases hl2 : zs.length + s2.size ≤ 140737488355328
        ·rw [if_pos hl2] at h
         have HH := Aside0.mk h
         have HZ := Aside0.mk hzs
         have hz9 : b ≤ w9.heap.size := by have := HG.out; have := (HG.out ▸ hb9 : Below wa.heap.size wa w9).size; omega
         have HE := Aside0.mk (below_step LA.out (HG.out ▸ hb9 : Below wa.heap.size wa w9))
         have HAx := Aside0.mk (blk_below HA.out (HG.out ▸ hb9 : Below wa.heap.size wa w9))
         have HX9 := Aside0.mk hx9
         have HV9 := Aside0.mk hv9
         have HB9 := Aside0.mk hb9
         clear k0 k1 k2 k3 k4 k5
         obtain ⟨k0, k1, k2, k3, k4, k5⟩ := hcells6 HAx.out
         have k9 : w9.cell? ⟨gb, 0, none⟩ = some (.slice A9 ys.length c9) := (blk_cell HX9.out 0).trans rfl
         have hgl : gb < w9.heap.size := blk_lt HX9.out
         have hgal : ga < w9.heap.size := blk_lt HAx.out
         have CQ := Aside0.mk (fun W v hB hz hx hv hr => Put1.calls k A0_5 c0_5 l0_5 s2 o2 gb v zs b wa W hB hz hgb hx hv hr hc0_5 hs2 hl2)
         clear h hzs hs2 hl2 hx9 hv9 hb9
         go_upto_region 22 with (first | (at_builtin; refine print_append_num b rfl (.tmp 85) (.tmp 90) 34 5 .u8 1 rfl Try.underlying34 info5 (by decide) (.slice A9 ys.length c9) ys (wrap64 (2 * a0_4) % 256) rfl rfl HV9.out HB9.out hz9 (by omega) ?_; intro v11 w11 ho11 hb11 hg11 _; rw [← HZ.out] at ho11; obtain ⟨A11, c11, rfl⟩ := own_slice ho11; have HX11 := Aside0.mk (blk_grown HX9.out hg11 (fun e => own_ne HV9.out HX9.out e.symm)); have k11 : w11.cell? ⟨gb, 0, none⟩ = some (.slice A9 ys.length c9) := (blk_cell HX11.out 0).trans rfl; have f11 := blk_frozen HX11.out 0; have hz11 := hg11.size; have HS := Aside0.mk (own_setCell (p := ⟨gb, 0, none⟩) ho11 (fun e => own_ne ho11 HX11.out e.symm) (.slice A11 zs.length c11)); have HT := Aside0.mk (hb11.setCell (p := ⟨gb, 0, none⟩) hgb (.slice A11 zs.length c11)); have HU : Aside0 ((w11.setCell ⟨gb, 0, none⟩ (.slice A11 zs.length c11)).heap[gb]? = some (.cells #[.slice A11 zs.length c11] 34 (0, 0))) := Aside0.mk (blk_put HX11.out 0 _ rfl); have hz12 : b ≤ (w11.setCell ⟨gb, 0, none⟩ (.slice A11 zs.length c11)).heap.size := (by rw [World.size_setCell]; omega)))
         clear k0 k1 k2 k3 k4 k5 k9 hgl hgal k11 f11
         generalize w11.setCell ⟨gb, 0, none⟩ (.slice A11 zs.length c11) = w12 at HS HT HU hz12 ⊢
         have HAy := Aside0.mk (blk_below HA.out (HG.out ▸ HT.out : Below wa.heap.size wa w12))
         have HEy := Aside0.mk (below_step LA.out (HG.out ▸ HT.out : Below wa.heap.size wa w12))
         obtain ⟨k0, k1, k2, k3, k4, k5⟩ := hcells6 HAy.out
         go_wp2_with fail
         refine (CQ.out w12 (.slice A11 zs.length c11) HT.out hz12 HU.out HS.out (Kd.C_below HR.out HEy.out)).mono ?_
         rintro e w13 ⟨rfl, hout⟩
         have h := HH.out
         clear CQ HH HE k0 k1 k2 k3 k4 k5
         obtain ⟨us, hus⟩ : ∃ us, us = zs ++ bytesOf s2 := ⟨_, rfl⟩
         rw [← hus] at hout h
         clear hus
         obtain ⟨v9, hx9, hv9, hb9⟩ := hout
         obtain ⟨A9, c9, rfl⟩ := own_slice hv9
         have k9 : w13.cell? ⟨gb, 0, none⟩ = some (.slice A9 us.length c9) := (blk_cell hx9 0).trans rfl
         have hcv := Kd.C_string (P := Try.prog) (src := 34) (dst := 9) (e := 5) (c := c9) Try.underlying34 Try.underlying5 Try.underlying9 ((Kd.R_reads' (Kd.R_of_own (enc := Value.int .u8) (h1 := fun _ => rfl) (ok := fun _ => True) hv9 (fun _ _ => trivial))).2.2)
         have HE := Aside0.mk (below_step LA.out (HG.out ▸ hb9 : Below wa.heap.size wa w13))
         clear hx9 hv9 hb9
         simp only [Option.some.injEq, Prod.mk.injEq] at h
         obtain ⟨rfl, rfl⟩ := h
         go_wp2_with fail
         go_ret2
         exact ⟨rfl, HE.out⟩
        ·rw [if_neg hl2] at h
         cases h
       ·rw [if_neg hl1] at h
        cases h
      ·rw [if_neg hlen] at h
       cases h
     ·rw [if_neg e16] at h
      have t16 : (a0_0 == 16) = false := beq_eq_false_iff_ne.2 (by omega)
      by_cases e22 : a0_0 = 22
      ·rw [if_pos e22] at h
       by_cases hl0 : 1 < l0_5.length
       ·rw [if_pos hl0] at h
        have t22 : (a0_0 == 22) = true := beq_iff_eq.2 (by omega)
        obtain ⟨ad, hA, hx0⟩ := Kd.at_int (Kd.C_below HR.out (below_step LA.out (HG.out ▸ HBp.out : Below wa.heap.size wa wp))) 0 (by omega) (by omega)
        subst hA
        have hx0 : wp.cell? ad = some (.int .i64 (rd l0_5 0)) := by rw [show (0 : Int).toNat = 0 from rfl, Addr.add_zero'] at hx0; exact hx0
        obtain ⟨ad2, hA2, hx1⟩ := Kd.at_int (Kd.C_below HR.out (below_step LA.out (HG.out ▸ HBp.out : Below wa.heap.size wa wp))) 1 (by omega) (by omega)
        injection hA2 with hA2; subst hA2
        have hx1 : wp.cell? ⟨ad.block, ad.off + 1, none⟩ = some (.int .i64 (rd l0_5 1)) := by rw [show (1 : Int).toNat = 1 from rfl] at hx1; simpa [Addr.add] using hx1
        have hn0 : 0 < l0_5.length := by omega
        have hp0 : ((0 : Int) < (l0_5.length : Int)) := by omega
        have hp1 : ((1 : Int) < (l0_5.length : Int)) := by omega
        clear e1 e22
        unfold ask_Put.two at h
        obtain ⟨⟨s1, o1⟩, hs1, h⟩ := Option.bind_eq_some_iff.1 h
        dsimp only at h
        by_cases hlen : [a0_0 % 256].length + s1.size ≤ 140737488355328
        ·rw [if_pos hlen] at h
         have CP := Aside0.mk (fun W hB hz hX hV => Put1.lit k [a0_3, rd l0_5 0, rd l0_5 1] s1 o1 gb (.slice (some ⟨g0, 0, none⟩) 1 1) [a0_0 % 256] b wa W hB hz hgb hX hV (by simp) hs1 hlen)
         have HH := Aside0.mk h
         clear h hs1 hlen
         go_wp2_with fail
         refine start_ (n := 13) (S := fun w' => w'.cell? ⟨ga, 3, none⟩ = some (.int .i64 a0_3) ∧ w'.cell? ⟨ga, 5, none⟩ = some (.slice (some ad) l0_5.length c0_5) ∧ w'.cell? ad = some (.int .i64 (rd l0_5 0)) ∧ w'.cell? ⟨ad.block, ad.off + 1, none⟩ = some (.int .i64 (rd l0_5 1))) (ds := [11, 12]) #[false, false, false, false, false, false, false, false, false, false, false, false, false] (by kernel_rfl) rfl rfl ⟨k3, k5, hx0, hx1⟩ (fun hHeld => ?_)
         have hzq : b ≤ wp.drew.heap.size := hzp
         have HXq := Aside0.mk (blk_drew HXp.out)
         have HVq := Aside0.mk HVp.out.drew
         have HBq := Aside0.mk (below_drew HBp.out)
         generalize wp.drew = wq at hzq HXq HVq HBq hHeld ⊢
         refine pure_ (i := 0) (N := some 98) (v := ?_) (a' := ?_) #[true, false, false, false, false, false, false, false, false, false, false, false, false] rfl rfl (by kernel_rfl) (fun _ _ _ h => h) (Or.inl ⟨by rfl, ?_⟩) ?_ ?_
         rotate_left
         ·intro w'
          go_simp
          with_reducible rfl
         rotate_left
         ·simp only [Act.put, List.setIfInBounds_toArray, List.set_cons_zero, List.set_cons_succ, i64_w, i32_w]
          rfl
         refine pure_ (i := 1) (N := some 99) (v := ?_) (a' := ?_) #[true, true, false, false, false, false, false, false, false, false, false, false, false] rfl rfl (by kernel_rfl) (fun _ _ _ h => h) (Or.inl ⟨by rfl, ?_⟩) ?_ ?_
         rotate_left
         ·intro w'
          go_simp
          with_reducible rfl
         rotate_left
         ·simp only [Act.put, List.setIfInBounds_toArray, List.set_cons_zero, List.set_cons_succ, i64_w, i32_w]
          rfl
         refine take_ (i := 2) (N := some 100) (v := ?_) (a' := ?_) #[true, true, true, false, false, false, false, false, false, false, false, false, false] rfl rfl (by kernel_rfl) (fun _ _ _ h => h) (Or.inl ⟨by rfl, ?_⟩) hHeld ?_ ?_
         rotate_left
         ·rintro w' ⟨s0, s1, s2, s3⟩
          go_simp
          with_reducible rfl
         rotate_left
         ·simp only [Act.put, List.setIfInBounds_toArray, List.set_cons_zero, List.set_cons_succ, i64_w, i32_w]
          rfl
         refine pure_ (i := 3) (N := some 101) (v := ?_) (a' := ?_) #[true, true, true, true, false, false, false, false, false, false, false, false, false] rfl rfl (by kernel_rfl) (fun _ _ _ h => h) (Or.inl ⟨by rfl, ?_⟩) ?_ ?_
         rotate_left
         ·intro w'
          go_simp
          with_reducible rfl
         rotate_left
         ·simp only [Act.put, List.setIfInBounds_toArray, List.set_cons_zero, List.set_cons_succ, i64_w, i32_w]
          rfl
         refine take_ (i := 4) (N := some 102) (v := ?_) (a' := ?_) #[true, true, true, true, true, false, false, false, false, false, false, false, false] rfl rfl (by kernel_rfl) (fun _ _ _ h => h) (Or.inl ⟨by rfl, ?_⟩) hHeld ?_ ?_
         rotate_left
         ·rintro w' ⟨s0, s1, s2, s3⟩
          go_simp
          with_reducible rfl
         rotate_left
         ·simp only [Act.put, List.setIfInBounds_toArray, List.set_cons_zero, List.set_cons_succ, i64_w, i32_w]
          rfl
         refine pure_ (i := 5) (N := some 103) (v := ?_) (a' := ?_) #[true, true, true, true, true, true, false, false, false, false, false, false, false] rfl rfl (by kernel_rfl) (fun _ _ _ h => h) (Or.inl ⟨by rfl, ?_⟩) ?_ ?_
         rotate_left
         ·intro w'
          go_simp
          with_reducible rfl
         rotate_left
         ·simp only [Act.put, List.setIfInBounds_toArray, List.set_cons_zero, List.set_cons_succ, i64_w, i32_w]
          rfl
         refine take_ (i := 6) (N := some 104) (v := ?_) (a' := ?_) #[true, true, true, true, true, true, true, false, false, false, false, false, false] rfl rfl (by kernel_rfl) (fun _ _ _ h => h) (Or.inl ⟨by rfl, ?_⟩) hHeld ?_ ?_
         rotate_left
         ·rintro w' ⟨s0, s1, s2, s3⟩
          go_simp
          with_reducible rfl
         rotate_left
         ·simp only [Act.put, List.setIfInBounds_toArray, List.set_cons_zero, List.set_cons_succ, i64_w, i32_w]
          rfl
         refine pure_ (i := 7) (N := some 105) (v := ?_) (a' := ?_) #[true, true, true, true, true, true, true, true, false, false, false, false, false] rfl rfl (by kernel_rfl) (fun _ _ _ h => h) (Or.inl ⟨by rfl, ?_⟩) ?_ ?_
         rotate_left
         ·intro w'
          go_simp
          with_reducible rfl
         rotate_left
         ·simp only [Act.put, List.setIfInBounds_toArray, List.set_cons_zero, List.set_cons_succ, i64_w, i32_w]
          rfl
         refine take_ (i := 8) (N := some 106) (v := ?_) (a' := ?_) #[true, true, true, true, true, true, true, true, true, false, false, false, false] rfl rfl (by kernel_rfl) (fun _ _ _ h => h) (Or.inl ⟨by rfl, ?_⟩) hHeld ?_ ?_
         rotate_left
         ·rintro w' ⟨s0, s1, s2, s3⟩
          go_simp
          with_reducible rfl
         rotate_left
         ·simp only [Act.put, List.setIfInBounds_toArray, List.set_cons_zero, List.set_cons_succ, i64_w, i32_w]
          rfl
         refine pure_ (i := 9) (N := some 107) (v := ?_) (a' := ?_) #[true, true, true, true, true, true, true, true, true, true, false, false, false] rfl rfl (by kernel_rfl) (fun _ _ _ h => h) (Or.inl ⟨by rfl, ?_⟩) ?_ ?_
         rotate_left
         ·intro w'
          go_simp
          with_reducible rfl
         rotate_left
         ·simp only [Act.put, List.setIfInBounds_toArray, List.set_cons_zero, List.set_cons_succ, i64_w, i32_w]
          rfl
         refine take_ (i := 10) (N := some 108) (v := ?_) (a' := ?_) #[true, true, true, true, true, true, true, true, true, true, true, false, false] rfl rfl (by kernel_rfl) (fun _ _ _ h => h) (Or.inl ⟨by rfl, ?_⟩) hHeld ?_ ?_
         rotate_left
         ·rintro w' ⟨s0, s1, s2, s3⟩
          go_simp
          with_reducible rfl
         rotate_left
         ·simp only [Act.put, List.setIfInBounds_toArray, List.set_cons_zero, List.set_cons_succ, i64_w, i32_w]
          rfl
         refine last_ (i := 11) (N := some 109) #[true, true, true, true, true, true, true, true, true, true, true, true, false] rfl rfl (by kernel_rfl) (by decide) (fun K hK => ?_)
         refine value_ (v := .slice (some ⟨wq.heap.size, 0, none⟩) 3 3) (w1 := wq.alloc (.cells #[.int .i64 (a0_3), .int .i64 (rd l0_5 0), .int .i64 (rd l0_5 1)] 3)) (by rfl) rfl ?_ ?_
         ·go_simp
         refine hK.out _ _ ?_
         clear hK K
         refine norm_ (a' := ?_) ?_ ?_
         rotate_left
         ·show Act.put _ (some 109) _ = _
          simp only [Act.put, List.setIfInBounds_toArray, List.set_cons_zero, List.set_cons_succ, i64_w, i32_w]
          rfl
         refine last_ (i := 12) (N := some 110) #[true, true, true, true, true, true, true, true, true, true, true, true, true] rfl rfl (by kernel_rfl) (by decide) (fun K hK => ?_)
         refine call_ 47 #[.slice (some ⟨wq.heap.size, 0, none⟩) 3 3, .pointer (some ⟨gb, 0, none⟩)] (by rfl) rfl ?_ ?_
         ·go_simp
         refine (CP.out wq HBq.out hzq HXq.out HVq.out).mono ?_
         rintro e w9 ⟨rfl, hout⟩
         have h := HH.out
         clear CP HH
         obtain ⟨ys, hys⟩ : ∃ ys, ys = [a0_0 % 256] ++ bytesOf s1 := ⟨_, rfl⟩
         rw [← hys] at hout h
         clear hys
         refine ⟨_, rfl, ?_⟩
         refine hK.out _ _ ?_
         clear hK K
         refine done_ (by kernel_rfl) ?_
         obtain ⟨v9, hx9, hv9, hb9⟩ := hout
         obtain ⟨A9, c9, rfl⟩ := own_slice hv9
         have k9 : w9.cell? ⟨gb, 0, none⟩ = some (.slice A9 ys.length c9) := (blk_cell hx9 0).trans rfl
         have hcv := Kd.C_string (P := Try.prog) (src := 34) (dst := 9) (e := 5) (c := c9) Try.underlying34 Try.underlying5 Try.underlying9 ((Kd.R_reads' (Kd.R_of_own (enc := Value.int .u8) (h1 := fun _ => rfl) (ok := fun _ => True) hv9 (fun _ _ => trivial))).2.2)
         have HE := Aside0.mk (below_step LA.out (HG.out ▸ hb9 : Below wa.heap.size wa w9))
         clear hx9 hv9 hb9
         simp only [Option.some.injEq, Prod.mk.injEq] at h
         obtain ⟨rfl, rfl⟩ := h
         go_wp2_with fail
         go_ret2
         exact ⟨rfl, HE.out⟩
        ·rw [if_neg hlen] at h
         cases h
       ·rw [if_neg hl0] at h
        cases h
      ·rw [if_neg e22] at h
       have t22 : (a0_0 == 22) = false := beq_eq_false_iff_ne.2 (by omega)
       by_cases e23 : a0_0 = 23
       ·rw [if_pos e23] at h
        have t23 : (a0_0 == 23) = true := beq_iff_eq.2 (by omega)
        clear e23
        unfold ask_Put.two at h
        obtain ⟨⟨s1, o1⟩, hs1, h⟩ := Option.bind_eq_some_iff.1 h
        dsimp only at h
        by_cases hlen : [a0_0 % 256].length + s1.size ≤ 140737488355328
        ·rw [if_pos hlen] at h
         have CP := Aside0.mk (Put1.lit k [a0_1, a0_2, a0_3, a0_4] s1 o1 gb _ [a0_0 % 256] b wa wp HBp.out hzp hgb HXp.out HVp.out (by simp) hs1 hlen)
         have HH := Aside0.mk h
         clear h hs1 hlen
         go_wp2_with fail
         refine CP.out.mono ?_
         rintro e w9 ⟨rfl, hout⟩
         have h := HH.out
         clear CP HH
         obtain ⟨ys, hys⟩ : ∃ ys, ys = [a0_0 % 256] ++ bytesOf s1 := ⟨_, rfl⟩
         rw [← hys] at hout h
         clear hys
         obtain ⟨v9, hx9, hv9, hb9⟩ := hout
         obtain ⟨A9, c9, rfl⟩ := own_slice hv9
         by_cases hl1 : ys.length + 1 ≤ 140737488355328
         ·rw [if_pos hl1] at h
          obtain ⟨⟨s2, o2⟩, hs2, h⟩ := Option.bind_eq_some_iff.1 h
          dsimp only at h
          obtain ⟨zs, hzs⟩ : ∃ zs, zs = ys ++ [wrap64 (2 * a0_4) % 256] := ⟨_, rfl⟩
          rw [← hzs] at h
          by_cases hl2 : zs.length + s2.size ≤ 140737488355328
          ·rw [if_pos hl2] at h
           have HH := Aside0.mk h
           have HZ := Aside0.mk hzs
           have hz9 : b ≤ w9.heap.size := by have := HG.out; have := (HG.out ▸ hb9 : Below wa.heap.size wa w9).size; omega
           have HE := Aside0.mk (below_step LA.out (HG.out ▸ hb9 : Below wa.heap.size wa w9))
           have HAx := Aside0.mk (blk_below HA.out (HG.out ▸ hb9 : Below wa.heap.size wa w9))
           have HX9 := Aside0.mk hx9
           have HV9 := Aside0.mk hv9
           have HB9 := Aside0.mk hb9
           clear k0 k1 k2 k3 k4 k5
           obtain ⟨k0, k1, k2, k3, k4, k5⟩ := hcells6 HAx.out
           have k9 : w9.cell? ⟨gb, 0, none⟩ = some (.slice A9 ys.length c9) := (blk_cell HX9.out 0).trans rfl
           have hgl : gb < w9.heap.size := blk_lt HX9.out
           have hgal : ga < w9.heap.size := blk_lt HAx.out
           have CQ := Aside0.mk (fun W v hB hz hx hv hr => Put1.calls k A0_5 c0_5 l0_5 s2 o2 gb v zs b wa W hB hz hgb hx hv hr hc0_5 hs2 hl2)
           clear h hzs hs2 hl2 hx9 hv9 hb9
           go_upto_region 28 with (first | (at_builtin; refine print_append_num b rfl (.tmp 124) (.tmp 129) 34 5 .u8 1 rfl Try.underlying34 info5 (by decide) (.slice A9 ys.length c9) ys (wrap64 (2 * a0_4) % 256) rfl rfl HV9.out HB9.out hz9 (by omega) ?_; intro v11 w11 ho11 hb11 hg11 _; rw [← HZ.out] at ho11; obtain ⟨A11, c11, rfl⟩ := own_slice ho11; have HX11 := Aside0.mk (blk_grown HX9.out hg11 (fun e => own_ne HV9.out HX9.out e.symm)); have k11 : w11.cell? ⟨gb, 0, none⟩ = some (.slice A9 ys.length c9) := (blk_cell HX11.out 0).trans rfl; have f11 := blk_frozen HX11.out 0; have hz11 := hg11.size; have HS := Aside0.mk (own_setCell (p := ⟨gb, 0, none⟩) ho11 (fun e => own_ne ho11 HX11.out e.symm) (.slice A11 zs.length c11)); have HT := Aside0.mk (hb11.setCell (p := ⟨gb, 0, none⟩) hgb (.slice A11 zs.length c11)); have HU : Aside0 ((w11.setCell ⟨gb, 0, none⟩ (.slice A11 zs.length c11)).heap[gb]? = some (.cells #[.slice A11 zs.length c11] 34 (0, 0))) := Aside0.mk (blk_put HX11.out 0 _ rfl); have hz12 : b ≤ (w11.setCell ⟨gb, 0, none⟩ (.slice A11 zs.length c11)).heap.size := (by rw [World.size_setCell]; omega)))
           clear k0 k1 k2 k3 k4 k5 k9 hgl hgal k11 f11
           generalize w11.setCell ⟨gb, 0, none⟩ (.slice A11 zs.length c11) = w12 at HS HT HU hz12 ⊢
           have HAy := Aside0.mk (blk_below HA.out (HG.out ▸ HT.out : Below wa.heap.size wa w12))
           have HEy := Aside0.mk (below_step LA.out (HG.out ▸ HT.out : Below wa.heap.size wa w12))
           obtain ⟨k0, k1, k2, k3, k4, k5⟩ := hcells6 HAy.out
           go_wp2_with fail
           refine (CQ.out w12 (.slice A11 zs.length c11) HT.out hz12 HU.out HS.out (Kd.C_below HR.out HEy.out)).mono ?_
           rintro e w13 ⟨rfl, hout⟩
           have h := HH.out
           clear CQ HH HE k0 k1 k2 k3 k4 k5
           obtain ⟨us, hus⟩ : ∃ us, us = zs ++ bytesOf s2 := ⟨_, rfl⟩
           rw [← hus] at hout h
           clear hus
           obtain ⟨v9, hx9, hv9, hb9⟩ := hout
           obtain ⟨A9, c9, rfl⟩ := own_slice hv9
           have k9 : w13.cell? ⟨gb, 0, none⟩ = some (.slice A9 us.length c9) := (blk_cell hx9 0).trans rfl
           have hcv := Kd.C_string (P := Try.prog) (src := 34) (dst := 9) (e := 5) (c := c9) Try.underlying34 Try.underlying5 Try.underlying9 ((Kd.R_reads' (Kd.R_of_own (enc := Value.int .u8) (h1 := fun _ => rfl) (ok := fun _ => True) hv9 (fun _ _ => trivial))).2.2)
           have HE := Aside0.mk (below_step LA.out (HG.out ▸ hb9 : Below wa.heap.size wa w13))
           clear hx9 hv9 hb9
           simp only [Option.some.injEq, Prod.mk.injEq] at h
           obtain ⟨rfl, rfl⟩ := h
           go_wp2_with fail
           go_ret2
           exact ⟨rfl, HE.out⟩
          ·rw [if_neg hl2] at h
           cases h
         ·rw [if_neg hl1] at h
          cases h
        ·rw [if_neg hlen] at h
         cases h
       ·rw [if_neg e23] at h
        have t23 : (a0_0 == 23) = false := beq_eq_false_iff_ne.2 (by omega)
        obtain ⟨ys, hys⟩ : ∃ ys, ys = [a0_0 % 256] := ⟨_, rfl⟩
        have hout : PutOut gb b wa ys wp := ⟨_, HXp.out, hys ▸ HVp.out, HBp.out⟩
        rw [← hys] at h
        clear hys
        obtain ⟨v9, hx9, hv9, hb9⟩ := hout
        obtain ⟨A9, c9, rfl⟩ := own_slice hv9
        have k9 : wp.cell? ⟨gb, 0, none⟩ = some (.slice A9 ys.length c9) := (blk_cell hx9 0).trans rfl
        have hcv := Kd.C_string (P := Try.prog) (src := 34) (dst := 9) (e := 5) (c := c9) Try.underlying34 Try.underlying5 Try.underlying9 ((Kd.R_reads' (Kd.R_of_own (enc := Value.int .u8) (h1 := fun _ => rfl) (ok := fun _ => True) hv9 (fun _ _ => trivial))).2.2)
        have HE := Aside0.mk (below_step LA.out (HG.out ▸ hb9 : Below wa.heap.size wa wp))
        clear hx9 hv9 hb9
        simp only [Option.some.injEq, Prod.mk.injEq] at h
        obtain ⟨rfl, rfl⟩ := h
        go_wp2_with fail
        go_ret2
        exact ⟨rfl, HE.out⟩

end Go.Proofs.Ytinoabkfekomcaa.PAskSizes
