/- lex.reader.put, walked by hand. -/
import Derived.Test.YtjllahglfpbemaaDoorLexKind
import Derived.Test.YtjllahglfpbemaaDoorRegD
import Derived.Tactics
import Derived.Tactics2
import Derived.WalkLawsBesides
import Derived.Laws.Strings2
namespace Go.Proofs.YtjllahglfpbemaaDoor.PGuardTells
open Go Go.RowKit Go.Proofs.YtjllahglfpbemaaDoorW.PrintWords Go.Proofs.YtjllahglfpbemaaDoorW.PrintLast Go.Proofs.YtjllahglfpbemaaDoorW.PrintMore
set_option maxHeartbeats 2000000
set_option maxRecDepth 100000
set_option linter.unusedVariables false
set_option linter.unusedSimpArgs false
def RD (w : World) (p : Nat) (s : ByteArray) (at_ line : Int) (v : Value) : Prop := w.heap[p]? = some (.cells #[.string s, .int .i64 at_, .int .i64 line, v] 52 (0, 0))
theorem rd_cells {w : World} {p : Nat} {s : ByteArray} {a line : Int} {v : Value} (h : RD w p s a line v) : (w.cell? ⟨p, 0, none⟩ = some (.string s) ∧ w.cell? ⟨p, 1, none⟩ = some (.int .i64 a) ∧ w.cell? ⟨p, 2, none⟩ = some (.int .i64 line) ∧ w.cell? ⟨p, 3, none⟩ = some v) ∧ w.frozen? ⟨p, 1, none⟩ = false ∧ w.frozen? ⟨p, 2, none⟩ = false ∧ w.frozen? ⟨p, 3, none⟩ = false :=
  ⟨⟨(blk_cell h 0).trans rfl, (blk_cell h 1).trans rfl, (blk_cell h 2).trans rfl, (blk_cell h 3).trans rfl⟩, blk_frozen h 1, blk_frozen h 2, blk_frozen h 3⟩
theorem regd_append {P : Program} {ops : Array Oper} {Q : Exit → Act → World → Prop} {S : World → Prop} {o ds : List Nat} {n fuel k : Nat} {a : Act} {W : World} {α : Type} (d : Kd α) (w0 : World) (base : Nat) {i : Nat} {N : Tmp} {oi : Oper} (_ho : o[k]? = some i) (hi : ops[i]? = some oi) (hN : oi.dst = some N)
    (hc : (readyT (rtab .any ops).2 (dn o k n).toList == [i] && (dn o k n).toList.set i true == (dn o (k + 1) n).toList) = true) (hd : i ∉ ds) (hw : Region.wanted oi (yielded ops a.tmps) = true) (s x : Operand) (t e : TypeId) (z : Value) (bytes : Nat)
    (ho : oi.op = .call { callee := .builtin .append, args := #[s, x], argTypes := #[t, t] })
    (ht : P.underlying t = some (.slice e)) (hinfo : (P.info? e).map (fun i => (i.zero, i.size, i.bytes)) = some (some z, d.sz, bytes)) (hz : z.cells.size = d.sz) (hs0 : 0 < d.sz) (hb0 : 0 < bytes)
    (v : Value) (xs : List α) (p : α) (cs : List Value) (ok okp : Nat → Prop) (hs : a.eval s = v) (hx : a.eval x = .slice (some ⟨W.heap.size, 0, none⟩) 1 1) (hp : d.M W base okp p cs) (hokp : ∀ k, okp k → ok k ∧ some k ≠ v.ownBlock) (hfresh : ∀ k, W.heap.size ≤ k → ok k)
    (HO : d.R e W base ok v xs) (HB : Below base w0 W) (hbase : base ≤ W.heap.size) (hl : (xs.length + 1) * bytes ≤ 140737488355328)
    (hS : ∀ (v1 : Value) (w1 : World), W.grownBy w1 v.ownBlock → S w1)
    (h : ∀ (v1 : Value) (w1 : World), S w1 → d.R e w1 base ok v1 (xs ++ [p]) → Below base w0 w1 → ∀ a', a.put (some N) v1 = a' → wpAnyLast P .any ops Q S ds fuel (dn o (k + 1) n) a' w1) : wpAnyLast P .any ops Q S ds (fuel + 1) (dn o k n) a (W.alloc (.cells cs.toArray e)) := by
  refine one_ (dn o (k + 1) n) hi rfl (one_of rfl hc) hd (fun K hK => ?_)
  refine Kd.R_append_step d base hw s x t e z bytes ho ht hinfo hz hs0 hb0 v xs p cs ok okp hs hx hp hokp hfresh HO HB hbase hl (fun v1 w1 hr hb hg hat => ?_)
  rw [hN]
  exact hK.out _ _ (hS v1 w1 hg) (fun hs => h v1 w1 hs hr hb _ rfl)
theorem put_walk (w0 : World) (B p : Nat) (s : ByteArray) (k n : Nat) (line kind num : Int) (v : Value) (xs : List S28) (w : World) (hr : RD w p s (k : Int) line v) (hv : Kd.R k28 28 w B (fun q => q ≠ p) v xs) (hb : Below B w0 w) (hB : B ≤ p) (hk : k + n ≤ s.size) (hs : s.size ≤ 4096) (hl : xs.length ≤ 4096) :
    Calls Tryd.prog 56 #[.pointer (some ⟨p, 0, none⟩), .int .i64 kind, .int .i64 (n : Int), .int .i64 num] w fun e w' => e = .returned (.tuple #[]) ∧ ∃ v', RD w' p s ((k + n : Nat) : Int) line v' ∧ Kd.R k28 28 w' B (fun q => q ≠ p) v' (xs ++ [⟨kind, s.extract k (k + n), num, line⟩]) ∧ Below B w0 w' := by
  have hp := blk_lt hr
  obtain ⟨T, hT⟩ : ∃ T : Ending → World → Prop, T = fun e w' => e = .returned (.tuple #[]) ∧ ∃ v', RD w' p s ((k + n : Nat) : Int) line v' ∧ Kd.R k28 28 w' B (fun q => q ≠ p) v' (xs ++ [⟨kind, s.extract k (k + n), num, line⟩]) ∧ Below B w0 w' := ⟨_, rfl⟩
  have HT := Aside0.mk hT
  rw [← hT]
  clear hT
  have HR := Aside0.mk hr
  have HV := Aside0.mk hv
  have HB := Aside0.mk hb
  have e1 : wrap64 ((k : Int) + (n : Int)) = ((k + n : Nat) : Int) := by unfold wrap64; omega
  have e2 : IntKind.i64.wrap ((k : Int) + (n : Int)) = ((k + n : Nat) : Int) := by rw [IntKind.wrap_i64]; omega
  have hsl : ∀ w' : World, (Instr.slice 9 (.string s) (some (.int .i64 (k : Int))) (some (.int .i64 ((k : Int) + (n : Int)))) none).run Tryd.prog w' = .ok (.string (s.extract k (k + n))) w' := fun w' => by
    have h := run_slice_string (P := Tryd.prog) w' 9 s .i64 .i64 (k : Int) ((k : Int) + (n : Int)) Tryd.underlying9 (by omega) (by omega) (by omega)
    rw [show ((k : Int) + (n : Int)).toNat = k + n by omega, Int.toNat_natCast] at h
    exact h
  clear hr hv hb
  go_enter Tryd.func56, Tryd.ntmps56
  go_wp2_with fail
  refine regd_start [31] (List.range 32) 32 (fun w' => RD w' p s (k : Int) line v) (by kernel_rfl) rfl HR.out (fun hHeld => ?_)
  have HV1 := Aside0.mk (Kd.R_drew HV.out)
  have HB1 := Aside0.mk (below_drew HB.out)
  have hp1 : p < w.drew.heap.size := hp
  clear HV HB HR hp
  generalize w.drew = w1 at HV1 HB1 hHeld hp1 ⊢
  repeat (first | (refine regd_pure (v := ?_) (a' := ?_) rfl rfl rfl (by kernel_rfl) (fun _ _ _ h => h) (by rfl) ?_ ?_ ?_; rotate_left; (solve | (intro w'; go_simp; with_reducible rfl)); rotate_left; (solve | (simp only [Act.put, List.setIfInBounds_toArray, List.set_cons_zero, List.set_cons_succ, i64_w, i32_w]; rfl))) | (refine regd_load (v := ?_) (a' := ?_) rfl rfl rfl (by kernel_rfl) (fun _ _ _ h => h) (by rfl) ?_ hHeld ?_ ?_; rotate_left; (solve | (intro w' hs'; obtain ⟨⟨c0, c1, c2, c3⟩, f1, f2, f3⟩ := rd_cells hs'; go_simp; with_reducible rfl)); rotate_left; (solve | (simp only [Act.put, List.setIfInBounds_toArray, List.set_cons_zero, List.set_cons_succ, i64_w, i32_w]; rfl)); intro hHeld))
  refine regd_run (v := .slice (some ⟨w1.heap.size, 0, none⟩) 1 1) (w1 := w1.alloc (.cells #[.int .i64 kind, .string (s.extract k (k + n)), .int .i64 num, .int .i64 line] 28)) rfl rfl rfl (by kernel_rfl) (by decide) (by rfl) (by go_simp) (blk_alloc hHeld _) (fun hHeld2 a' ha' => ?_)
  simp only [Act.put, List.setIfInBounds_toArray, List.set_cons_zero, List.set_cons_succ, i64_w, i32_w] at ha'
  subst ha'
  refine regd_append k28 w0 B rfl rfl rfl (by kernel_rfl) (by decide) (by rfl) (.tmp 12) (.tmp 35) 23 28 (.agg #[(.int .i64 0), (.string ⟨#[]⟩), (.int .i64 0), (.int .i64 0)]) 40 rfl Tryd.underlying23 info28 rfl (by decide) (by decide) v xs (⟨kind, s.extract k (k + n), num, line⟩ : S28) [.int .i64 kind, .string (s.extract k (k + n)), .int .i64 num, .int .i64 line] (fun q => q ≠ p) (fun _ => False) rfl rfl (k28_mkM _ _ _ _) (fun _ h => h.elim) (fun q hq => by omega) HV1.out HB1.out (by omega) (by omega) (fun v1 w2 hg => ?_) (fun v1 w2 hHeld3 HV2 HB2 a' ha' => ?_)
  · refine blk_grown hHeld hg (fun he => ?_)
    exact HV1.out.1 p he.symm rfl
  obtain ⟨A1, k1, rfl, _, _⟩ := Kd.R_reads HV2
  simp only [Act.put, List.setIfInBounds_toArray, List.set_cons_zero, List.set_cons_succ, i64_w, i32_w] at ha'
  subst ha'
  have HV3 := Aside0.mk HV2
  have HB3 := Aside0.mk HB2
  clear HV2 HB2 HV1 HB1 hHeld2
  rename RD w2 p s (k : Int) line v => hHeld
  repeat (first | (refine regd_pure (v := ?_) (a' := ?_) rfl rfl rfl (by kernel_rfl) (fun _ _ _ h => h) (by rfl) ?_ ?_ ?_; rotate_left; (solve | (intro w'; go_simp; with_reducible rfl)); rotate_left; (solve | (simp only [Act.put, List.setIfInBounds_toArray, List.set_cons_zero, List.set_cons_succ, i64_w, i32_w]; rfl))) | (refine regd_load (v := ?_) (a' := ?_) rfl rfl rfl (by kernel_rfl) (fun _ _ _ h => h) (by rfl) ?_ hHeld ?_ ?_; rotate_left; (solve | (intro w' hs'; obtain ⟨⟨c0, c1, c2, c3⟩, f1, f2, f3⟩ := rd_cells hs'; go_simp; with_reducible rfl)); rotate_left; (solve | (simp only [Act.put, List.setIfInBounds_toArray, List.set_cons_zero, List.set_cons_succ, i64_w, i32_w]; rfl)); intro hHeld))
  obtain ⟨⟨c0, c1, c2, c3⟩, f1, f2, f3⟩ := rd_cells hHeld
  refine regd_store (w1 := w2.setCell ⟨p, 3, none⟩ (.slice A1 (xs ++ [(⟨kind, s.extract k (k + n), num, line⟩ : S28)]).length k1)) rfl rfl rfl (by kernel_rfl) (by decide) (by rfl) (by go_simp) ?_
  refine regd_done (by kernel_rfl) ?_
  have HR3 : RD (w2.setCell ⟨p, 3, none⟩ (.slice A1 (xs ++ [(⟨kind, s.extract k (k + n), num, line⟩ : S28)]).length k1)) p s (k : Int) line (.slice A1 (xs ++ [(⟨kind, s.extract k (k + n), num, line⟩ : S28)]).length k1) := (blk_set hHeld 3 _).trans rfl
  have HV4 := Aside0.mk (Kd.R_far HV3.out (p := ⟨p, 3, none⟩) (fun q hq => hq) (.slice A1 (xs ++ [(⟨kind, s.extract k (k + n), num, line⟩ : S28)]).length k1))
  have HB4 := Aside0.mk (HB3.out.setCell (p := ⟨p, 3, none⟩) hB (.slice A1 (xs ++ [(⟨kind, s.extract k (k + n), num, line⟩ : S28)]).length k1))
  clear HV3 HB3 hHeld c0 c1 c2 c3 f1 f2 f3
  generalize w2.setCell ⟨p, 3, none⟩ (.slice A1 (xs ++ [(⟨kind, s.extract k (k + n), num, line⟩ : S28)]).length k1) = w3 at HR3 HV4 HB4 ⊢
  obtain ⟨⟨c0, c1, c2, c3⟩, f1, f2, f3⟩ := rd_cells HR3
  have HR4 := Aside0.mk (show RD (w3.setCell ⟨p, 1, none⟩ (.int .i64 ((k + n : Nat) : Int))) p s ((k + n : Nat) : Int) line (.slice A1 (xs ++ [(⟨kind, s.extract k (k + n), num, line⟩ : S28)]).length k1) from (blk_set HR3 1 _).trans rfl)
  have HV5 := Aside0.mk (Kd.R_far HV4.out (p := ⟨p, 1, none⟩) (fun q hq => hq) (.int .i64 ((k + n : Nat) : Int)))
  have HB5 := Aside0.mk (HB4.out.setCell (p := ⟨p, 1, none⟩) hB (.int .i64 ((k + n : Nat) : Int)))
  clear HV4 HB4 HR3
  go_wp2_with fail
  rw [HT.out]
  go_end0
  exact ⟨rfl, _, HR4.out, HV5.out, HB5.out⟩
end Go.Proofs.YtjllahglfpbemaaDoor.PGuardTells
