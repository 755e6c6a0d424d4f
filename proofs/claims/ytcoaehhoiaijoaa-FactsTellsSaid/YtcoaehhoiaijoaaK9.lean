/- Texts of this claim, put together (wip/pack.py): Reg, RefReals, RefRealsMore. -/
import Derived.Test.YtcoaehhoiaijoaaWLast
import Derived.Test.YtcoaehhoiaijoaaWTab
import Derived.Test.YtcoaehhoiaijoaaK3
import Derived.Test.YtcoaehhoiaijoaaK8
import Derived.Deep.RegionHeld3
namespace Go.Proofs.YtcoaehhoiaijoaaW.PrintLast
open Go.RowKit Go.Proofs.YtcoaehhoiaijoaaW.PrintWords
/-- Of n operations, ordered so, the first k have come up. -/
def dn (o : List Nat) (k n : Nat) : Array Bool := ((o.take k).foldl (fun l i => l.set i true) (List.replicate n false)).toArray
theorem dn_zero (o : List Nat) (n : Nat) : Array.replicate n false = dn o 0 n := by simp [dn]
/-- A byte of a string, under a name. -/
theorem byte_at (s : ByteArray) (i : Nat) (h : i < s.size) : ∃ v : Int, bt s (i : Int) = v ∧ 0 ≤ v ∧ v ≤ 255 ∧ wrap64 v = v ∧ IntKind.i64.wrap v = v ∧ ((s[i]'h).toNat : Int) = v := by
  have hb := bt_range s (i : Int)
  refine ⟨_, rfl, hb.1, hb.2, ?_, ?_, bt_at s (i : Int) (by simpa using h)⟩
  · unfold wrap64; omega
  · rw [IntKind.wrap_i64]; omega
section
variable {P : Program} {ops : Array Oper} {Q : Exit → Act → World → Prop} {S : World → Prop} {o : List Nat} {n fuel k : Nat} {a : Act} {w : World}
theorem reg_start (o : List Nat) (n : Nat) (S : World → Prop) {id : Nat} (hm : P.follows .mixedOrders = true) (hn : ops.size = n) (hS : S w.drew) (h : S w.drew → wpAnyLast P .any ops Q S [] n (dn o 0 n) a w.drew) : (Code.region id ops true).wp P Q a w :=
  start_ (dn o 0 n) hm hn (dn_zero o n) hS h
/-- An operation that only reckons. -/
theorem reg_pure {i : Nat} {N : Tmp} {oi : Oper} {v : Value} (_ho : o[k]? = some i) (hi : ops[i]? = some oi) (hN : oi.dst = some N) (hc : anyT (rtab .any ops) (dn o k n).toList (dn o (k + 1) n).toList i = true)
    (hQ : ∀ c a w, Q (.panic c) (a.put oi.dst v) w → Q (.panic c) a w) (hw : Region.wanted oi (yielded ops a.tmps) = true) (hy : ∀ w, (execOp a.eval oi).run P w = .ok (.value v) w) {a' : Act} (ha : a.put (some N) v = a')
    (h : wpAnyLast P .any ops Q S [] fuel (dn o (k + 1) n) a' w) : wpAnyLast P .any ops Q S [] (fuel + 1) (dn o k n) a w :=
  pure_ (dn o (k + 1) n) hi hN (any_of rfl hc) hQ (Or.inl ⟨hw, hy⟩) ha h
/-- An operation whose guard is not met. -/
theorem reg_skip {i : Nat} {N : Tmp} {oi : Oper} (_ho : o[k]? = some i) (hi : ops[i]? = some oi) (hN : oi.dst = some N) (hw : Region.wanted oi (yielded ops a.tmps) = false) (hc : anyT (rtab .any ops) (dn o k n).toList (dn o (k + 1) n).toList i = true)
    (hQ : ∀ c a w, Q (.panic c) (a.put oi.dst undef) w → Q (.panic c) a w) {a' : Act} (ha : a.put (some N) undef = a')
    (h : wpAnyLast P .any ops Q S [] fuel (dn o (k + 1) n) a' w) : wpAnyLast P .any ops Q S [] (fuel + 1) (dn o k n) a w :=
  pure_ (dn o (k + 1) n) hi hN (any_of rfl hc) hQ (Or.inr ⟨hw, rfl⟩) ha h
/-- A load of what is held. -/
theorem reg_load {i : Nat} {N : Tmp} {oi : Oper} {v : Value} (_ho : o[k]? = some i) (hi : ops[i]? = some oi) (hN : oi.dst = some N) (hc : takeT (rtab .any ops) [] (dn o k n).toList (dn o (k + 1) n).toList i = true)
    (hQ : ∀ c a w, Q (.panic c) (a.put oi.dst v) w → Q (.panic c) a w) (hw : Region.wanted oi (yielded ops a.tmps) = true) (hy : ∀ w, S w → (execOp a.eval oi).run P w = .ok (.value v) w) (hS : S w) {a' : Act} (ha : a.put (some N) v = a')
    (h : S w → wpAnyLast P .any ops Q S [] fuel (dn o (k + 1) n) a' w) : wpAnyLast P .any ops Q S [] (fuel + 1) (dn o k n) a w :=
  take_ (dn o (k + 1) n) hi hN (take_of rfl hc) hQ (Or.inl ⟨hw, hy⟩) hS ha (h hS)
/-- A call of a Go function, by its contract. -/
theorem reg_call {i : Nat} {N : Tmp} {oi : Oper} {f : FuncId} {fn : Func} {ars : Array Operand} {ts : Array TypeId} (_ho : o[k]? = some i) (hi : ops[i]? = some oi) (hN : oi.dst = some N) (hc : (readyT (rtab .any ops).2 (dn o k n).toList == [i] && (dn o k n).toList.set i true == (dn o (k + 1) n).toList) = true)
    (hw : Region.wanted oi (yielded ops a.tmps) = true) (hf : P.funcs[f]? = some fn) (hname : (fn.name == "runtime.NumGoroutine") = false) (hb : fn.body.isSome = true) (args : Array Value) (hop : oi.op = .call { callee := .value (.func f), args := ars, argTypes := ts }) (hargs : ars.map a.eval = args)
    (h : Calls P f args w fun e w' => ∃ v, e = .returned v ∧ S w' ∧ (S w' → ∀ a', a.put (some N) v = a' → wpAnyLast P .any ops Q S [] fuel (dn o (k + 1) n) a' w')) : wpAnyLast P .any ops Q S [] (fuel + 1) (dn o k n) a w := by
  refine one_ (dn o (k + 1) n) hi hN (one_of rfl hc) (by simp) (fun K hK => goes_ hf hname hb args hw hN hop hargs (h.mono fun e w' hh => ?_))
  obtain ⟨v, he, hS, hk⟩ := hh
  exact ⟨v, he, hK.out _ _ hS (fun h => hk h _ rfl)⟩
theorem reg_done (h0 : (readyT (rtab .any ops).2 (dn o n n).toList == []) = true) (h : Q .normal a w) : wpAnyLast P .any ops Q S [] fuel (dn o n n) a w :=
  done_ (done_of rfl h0) h
end
end Go.Proofs.YtcoaehhoiaijoaaW.PrintLast
namespace Go.Proofs.Ytcoaehhoiaijoaa.Range
open Go Go.RowKit Go.Proofs.YtcoaehhoiaijoaaW.PrintWords Go.Proofs.Ytcoaehhoiaijoaa.Fl Go.Proofs.Ytcoaehhoiaijoaa.Base Go.Proofs.Ytcoaehhoiaijoaa.Dbl Go.Proofs.YtcoaehhoiaijoaaW.PrintLast
set_option maxHeartbeats 8000000
set_option maxRecDepth 100000
set_option linter.unusedVariables false
set_option linter.unusedSimpArgs false
theorem ofF_lt (l : List Int) : (ofF l).1 < 18446744073709551616 := by
  by_cases h : l.length ≠ 4 ∨ ∃ n ∈ l, ¬ In n
  · rw [ofF_out h]; decide
  · have h4 : l.length = 4 := Classical.byContradiction fun e => h (.inl e)
    have hin : ∀ n ∈ l, In n := fun n hn => Classical.byContradiction fun e => h (.inr ⟨n, hn, e⟩)
    obtain ⟨a, b, c, d, rfl⟩ : ∃ a b c d, l = [a, b, c, d] := by
      match l, h4 with
      | [a, b, c, d], _ => exact ⟨a, b, c, d, rfl⟩
    have ha := hin a (by simp)
    have hb := hin b (by simp)
    have hc := hin c (by simp)
    have hd := hin d (by simp)
    rw [ofF_in ha hb hc hd]
    unfold In at ha hb hc hd
    show word4 a b c d < 18446744073709551616
    unfold word4
    omega
theorem same_self (a : Nat) : sameF a a = true := by
  unfold sameF
  cases eqF a a <;> simp
/-- Rows of floats. -/
abbrev kf : Kd Nat := Kd.scalar (Value.float .f64) (fun _ => rfl)
theorem at_f {w : World} {A : Option Addr} {n : Nat} {xs : List Nat} (h : Kd.C kf w A n xs) (i : Int) (h0 : 0 ≤ i) (h1 : i < n) : ∃ ad, A = some ad ∧ w.cell? (ad.add i.toNat) = some (.float .f64 (rdOf 0 xs i)) :=
  ReadsOf.at_ (Kd.reads_of_C (enc := Value.float .f64) (d := (0 : Nat)) (h1 := fun _ => rfl) h) i h0 h1
theorem floats_calls (A B : Option Addr) (c d : Nat) (xs ys : List Nat) (w : World) (hx : Kd.C kf w A xs.length xs) (hy : Kd.C kf w B ys.length ys) (hl : xs.length = ys.length) (hm : xs.length ≤ 4000)
    (hs : ∀ j : Nat, j < xs.length → sameF (rdOf 0 xs (j : Int)) (rdOf 0 ys (j : Int)) = true ∧ rdOf 0 xs (j : Int) < 18446744073709551616 ∧ rdOf 0 ys (j : Int) < 18446744073709551616) :
    Calls Try.prog 41 #[.slice A xs.length c, .slice B ys.length d] w fun e w' => e = .returned (.bool true) ∧ Below w.heap.size w w' := by
  have HX := Aside0.mk hx
  have HY := Aside0.mk hy
  have HS := Aside0.mk hs
  clear hx hy hs
  rw [← hl]
  have HL := Aside0.mk hl
  clear hl
  go_enter Try.func41, Try.ntmps41
  go_wp2
  go_loopg [5] xs.length (fun gg s5 wr => ∃ (kk : Nat), kk ≤ xs.length ∧ xs.length - kk ≤ gg ∧ s5 = .int .i64 kk ∧ Aside0 (Below w.heap.size w wr))
  case atStart => exact ⟨0, Nat.zero_le _, by omega, rfl, ⟨Below.refl _ _⟩⟩
  case round =>
    obtain ⟨kk, hkk, hg, rfl, D⟩ := hrel
    by_cases hlt : kk < xs.length
    · have hltz : ((kk : Int) < (xs.length : Int)) := by omega
      obtain ⟨ad, hA, hca⟩ := at_f (Kd.C_below HX.out D.out) (kk : Int) (by omega) (by omega)
      obtain ⟨bd, hB, hcb⟩ := at_f (Kd.C_below HY.out D.out) (kk : Int) (by omega) (by have := HL.out; omega)
      subst hA
      subst hB
      obtain ⟨hs1, hs2, hs3⟩ := HS.out kk hlt
      rw [Int.toNat_natCast] at hca hcb
      generalize rdOf 0 xs (kk : Int) = a at hca hs1 hs2 hs3
      generalize rdOf 0 ys (kk : Int) = b at hcb hs1 hs2 hs3
      have HC := Aside0.mk (show ∀ w' : World, Below wr.heap.size wr w' → w'.cell? (ad.add kk) = some (.float .f64 a) ∧ w'.cell? (bd.add kk) = some (.float .f64 b) from fun w' h => ⟨pw_cell_below h hca, pw_cell_below h hcb⟩)
      go_upto_region 6 with (fail)
      have HB := Aside0.mk (below_drew1 (Below.refl wr.heap.size wr))
      refine reg_start [0, 1, 2, 3, 4, 5, 6, 7, 8, 9] 10 (fun w' => w'.cell? (ad.add kk) = some (.float .f64 a) ∧ w'.cell? (bd.add kk) = some (.float .f64 b)) rfl rfl (HC.out _ HB.out) (fun hHeld => ?_)
      have HKS := HC
      generalize wr.drew = w2 at HB hHeld ⊢
      repeat (first | (refine reg_pure (v := ?_) (a' := ?_) rfl rfl rfl (by kernel_rfl) (fun _ _ _ h => h) (by rfl) ?_ ?_ ?_; rotate_left; (solve | (intro w'; go_simp; with_reducible rfl)); rotate_left; (solve | (simp only [Act.put, List.setIfInBounds_toArray, List.set_cons_zero, List.set_cons_succ, i64_w, i32_w]; rfl))) | (refine reg_skip (a' := ?_) rfl rfl rfl (by rfl) (by kernel_rfl) (fun _ _ _ h => h) ?_ ?_; rotate_left; (solve | (simp only [Act.put, List.setIfInBounds_toArray, List.set_cons_zero, List.set_cons_succ, i64_w, i32_w]; rfl))) | (refine reg_load (v := ?_) (a' := ?_) rfl rfl rfl (by kernel_rfl) (fun _ _ _ h => h) (by rfl) ?_ hHeld ?_ ?_; rotate_left; (solve | (rintro w' ⟨s0, s1⟩; go_simp; with_reducible rfl)); rotate_left; (solve | (simp only [Act.put, List.setIfInBounds_toArray, List.set_cons_zero, List.set_cons_succ, i64_w, i32_w]; rfl)); intro hHeld))
      refine reg_call rfl rfl rfl (by kernel_rfl) (by rfl) Try.func32 (by kernel_rfl) rfl #[.float .f64 a, .float .f64 b] rfl (by (try simp only [List.map_toArray, List.map_cons, List.map_nil]); first | done | rfl) ?_
      refine (rsame_calls a b hs2 hs3 _).mono ?_
      rintro e w5 ⟨rfl, hb⟩
      rw [hs1]
      have HN := Aside0.mk (below_step HB.out hb)
      clear HB hb
      have HB := Aside0.mk HN.out
      clear HN
      refine ⟨_, rfl, HKS.out _ HB.out, fun hHeld => ?_⟩
      rintro a' ha'
      simp only [Act.put, List.setIfInBounds_toArray, List.set_cons_zero, List.set_cons_succ, i64_w, i32_w] at ha'
      subst ha'
      repeat (first | (refine reg_pure (v := ?_) (a' := ?_) rfl rfl rfl (by kernel_rfl) (fun _ _ _ h => h) (by rfl) ?_ ?_ ?_; rotate_left; (solve | (intro w'; go_simp; with_reducible rfl)); rotate_left; (solve | (simp only [Act.put, List.setIfInBounds_toArray, List.set_cons_zero, List.set_cons_succ, i64_w, i32_w]; rfl))) | (refine reg_skip (a' := ?_) rfl rfl rfl (by rfl) (by kernel_rfl) (fun _ _ _ h => h) ?_ ?_; rotate_left; (solve | (simp only [Act.put, List.setIfInBounds_toArray, List.set_cons_zero, List.set_cons_succ, i64_w, i32_w]; rfl))) | (refine reg_load (v := ?_) (a' := ?_) rfl rfl rfl (by kernel_rfl) (fun _ _ _ h => h) (by rfl) ?_ hHeld ?_ ?_; rotate_left; (solve | (rintro w' ⟨s0, s1⟩; go_simp; with_reducible rfl)); rotate_left; (solve | (simp only [Act.put, List.setIfInBounds_toArray, List.set_cons_zero, List.set_cons_succ, i64_w, i32_w]; rfl)); intro hHeld))
      refine reg_done (by kernel_rfl) ?_
      go_wp2
      go_roundg (xs.length - (kk + 1))
      case measure => omega
      case rel => exact ⟨kk + 1, by omega, by omega, by go_num, ⟨below_step D.out HB.out⟩⟩
    · have hltz : ¬ ((kk : Int) < (xs.length : Int)) := by omega
      go_wp2
      go_ret
      exact ⟨rfl, D.out⟩
end Go.Proofs.Ytcoaehhoiaijoaa.Range
namespace Go.Proofs.Ytcoaehhoiaijoaa.Range
open Go Go.RowKit Go.Proofs.YtcoaehhoiaijoaaW.PrintWords Go.Proofs.Ytcoaehhoiaijoaa.Fl Go.Proofs.Ytcoaehhoiaijoaa.Base Go.Proofs.Ytcoaehhoiaijoaa.Dbl
set_option maxHeartbeats 8000000
set_option maxRecDepth 100000
set_option linter.unusedVariables false
theorem infoI : (Try.prog.info? 3).map (fun i => (i.zero, i.size, i.bytes)) = some (some (.int .i64 0), 1, 8) := by kernel_rfl
theorem chunk_mid (l : List Int) (k : Nat) (i : Int) (hi : i = ((4 * k : Nat) : Int)) : (l.take (i + 4).toNat).drop i.toNat = chunk l k := by
  subst hi
  rw [show (((4 * k : Nat) : Int) + 4).toNat = 4 * k + 4 from by omega, Int.toNat_natCast]
  unfold chunk
  rw [List.drop_take, show 4 * k + 4 - 4 * k = 4 from by omega]
theorem own_below {w w' : World} {base : Nat} {e : TypeId} {size n : Nat} {v : Value} {xs : List Value} (h : w.ownsRow base e size v n xs) (hb : Below w.heap.size w w') : w'.ownsRow base e size v n xs :=
  h.kept (row := none) ⟨hb.os, hb.tape, hb.output, hb.size, fun k hk _ => hb.block k hk⟩ (by cases hv : v.ownBlock <;> simp)
/-- The floats ys are those of l's first k fours. -/
def Same4 (l : List Int) (k : Nat) (ys : List Nat) : Prop := ys.length = k ∧ ∀ j : Nat, j < k → sameF (ofF (chunk l j)).1 (rdOf 0 ys (j : Int)) = true ∧ rdOf 0 ys (j : Int) < 18446744073709551616
theorem Same4.snoc {l : List Int} {k : Nat} {ys : List Nat} {y : Nat} (h : Same4 l k ys) (hs : sameF (ofF (chunk l k)).1 y = true) (hy : y < 18446744073709551616) : Same4 l (k + 1) (ys ++ [y]) := by
  refine ⟨by rw [List.length_append, h.1]; rfl, fun j hj => ?_⟩
  by_cases e : j = k
  · subst e
    have : rdOf 0 (ys ++ [y]) (j : Int) = y := by simp [rdOf, h.1]
    rw [this]; exact ⟨hs, hy⟩
  · have hj' : j < k := by omega
    have : rdOf 0 (ys ++ [y]) (j : Int) = rdOf 0 ys (j : Int) := by
      simp [rdOf, List.getElem?_append_left (show j < ys.length by rw [h.1]; exact hj')]
    rw [this]; exact h.2 j hj'
def RRTold (n0 : Nat) (w : World) (l : List Int) (e : Ending) (w' : World) : Prop :=
  ((realsB l ∧ ∃ v ys, e = .returned (.tuple #[v, .bool true]) ∧ w'.ownsRow n0 37 1 v ys.length (encs (Value.float .f64) ys) ∧ Same4 l (l.length / 4) ys) ∨ (¬ realsB l ∧ e = .returned (.tuple #[.slice none 0 0, .bool false]))) ∧ Below n0 w w'
theorem rreals_calls (A0 : Option Addr) (c0 : Nat) (l : List Int) (w : World) (hr0 : Kd.C (Kd.int .i64) w A0 l.length l) (hc0 : l.length ≤ c0) (hl : l.length ≤ 4000) :
    Calls Try.prog 42 #[.slice A0 l.length c0] w (RRTold w.heap.size w l) := by
  obtain ⟨iI, hiI, hzI, hsI, _⟩ := info_parts infoI
  have HR0 := Aside0.mk hr0
  obtain ⟨T, hT⟩ : ∃ T, T = RRTold w.heap.size w l := ⟨_, rfl⟩
  have HT := Aside0.mk hT
  rw [← hT]
  clear hr0 hT
  by_cases h4 : l.length % 4 = 0
  · go_enter Try.func42, Try.ntmps42
    have h4z : (l.length : Int).tmod 4 = 0 := by rw [Int.tmod_eq_emod_of_nonneg (by omega)]; omega
    have h4y : (l.length : Int) % 4 = 0 := by omega
    go_wp2
    go_loopg [4, 5] (l.length / 4) (fun gg s4 s5 wr => ∃ (kk : Nat) (v : Value) (ys : List Nat), kk ≤ l.length / 4 ∧ l.length / 4 - kk ≤ gg ∧ s4 = v ∧ s5 = .int .i64 ((4 * kk : Nat) : Int) ∧ Aside0 (wr.ownsRow w.heap.size 37 1 v ys.length (encs (Value.float .f64) ys)) ∧ Aside0 (Same4 l kk ys) ∧ Aside0 (okUpto l kk) ∧ Aside0 (Below w.heap.size w wr))
    case atStart => exact ⟨0, _, [], Nat.zero_le _, by omega, rfl, rfl, ⟨World.ownsRow_nil _ _ _ _⟩, ⟨rfl, fun j hj => absurd hj (Nat.not_lt_zero _)⟩, ⟨fun j hj => absurd hj (Nat.not_lt_zero _)⟩, ⟨Below.refl _ _⟩⟩
    case round =>
      obtain ⟨kk, v, ys, hkk, hg, rfl, rfl, HO, HS, HK, D⟩ := hrel
      obtain ⟨i, hi⟩ : ∃ i : Int, i = ((4 * kk : Nat) : Int) := ⟨_, rfl⟩
      rw [← hi]
      by_cases hlt : kk < l.length / 4
      · have hltz : i < (l.length : Int) := by omega
        have hw4 : IntKind.i64.wrap (i + 4) = i + 4 := by rw [IntKind.wrap_i64]; omega
        have hw4' : wrap64 (i + 4) = i + 4 := w64 (by omega) (by omega)
        obtain ⟨ad, hA, _⟩ := HR0.out.2.2 (by omega)
        subst hA
        have hC : Kd.C (Kd.int .i64) wr (some (ad.add (4 * kk))) (chunk l kk).length (chunk l kk) := chunk_C (Kd.C_below HR0.out D.out) kk (by omega)
        have hof := rof_calls (some (ad.add (4 * kk))) (c0 - 4 * kk) (chunk l kk) wr hC
        rw [chunk_length l kk (by omega)] at hof
        have HOF := Aside0.mk hof
        clear hof hC
        go_wp2_with fail
        refine HOF.out.mono ?_
        rintro e w2 ⟨⟨y, rfl, hy⟩, hb⟩
        have D2 := Aside0.mk (below_step D.out hb)
        have HY := Aside0.mk hy
        have HO2 := Aside0.mk (own_below HO.out hb)
        clear hb hy HO D HOF
        cases hx : (ofF (chunk l kk)).2 with
        | false =>
          go_wp2_with fail
          rw [HT.out]
          refine ⟨.inr ⟨fun h => ?_, rfl⟩, D2.out⟩
          have := h.2 kk hlt
          rw [hx] at this
          cases this
        | true =>
          have HY2 := Aside0.mk (show sameF (ofF (chunk l kk)).1 y = true ∧ y < 18446744073709551616 by
            rcases HY.out with rfl | ⟨h, h'⟩
            · exact ⟨same_self _, ofF_lt _⟩
            · exact ⟨by unfold sameF; rw [h.1, h']; rfl, h.2⟩)
          go_wp2_with ((with_reducible refine gate_builtin (b := .append) (xs := #[.tmp 29, .tmp 31]) rfl ?_); at_builtin; refine print_append_of (w0 := w) (Value.float .f64) w.heap.size rfl (.tmp 29) (.tmp 31) 55 37 (.float .f64 0) 8 rfl Try.underlying55 infoF rfl (by omega) _ ys y rfl rfl rfl HO2.out D2.out D2.out.size (by have := HS.out.1; omega) ?_; intro v3 w3 ho hb _ _; have HO3 := Aside0.mk ho; have D3 := Aside0.mk hb; clear ho hb)
          go_roundg (l.length / 4 - (kk + 1))
          case measure => omega
          case rel => exact ⟨kk + 1, _, ys ++ [y], by omega, by omega, rfl, by go_num, ⟨HO3.out⟩, ⟨HS.out.snoc HY2.out.1 HY2.out.2⟩, ⟨okUpto_succ HK.out hx⟩, ⟨D3.out⟩⟩
      · have hltz : ¬ i < (l.length : Int) := by omega
        go_wp2
        rw [HT.out]
        obtain rfl : kk = l.length / 4 := by omega
        exact ⟨.inl ⟨⟨h4, HK.out⟩, _, ys, rfl, HO.out, HS.out⟩, D.out⟩
  · go_enter Try.func42, Try.ntmps42
    have h4z : ¬ (l.length : Int).tmod 4 = 0 := by rw [Int.tmod_eq_emod_of_nonneg (by omega)]; omega
    have h4y : ¬ (l.length : Int) % 4 = 0 := by omega
    go_wp2
    rw [HT.out]
    exact ⟨.inr ⟨fun h => h4 h.1, rfl⟩, Below.refl _ _⟩
end Go.Proofs.Ytcoaehhoiaijoaa.Range
