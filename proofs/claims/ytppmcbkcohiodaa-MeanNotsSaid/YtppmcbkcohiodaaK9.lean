/- Texts of this claim, put together (wip/pack.py): RefNorm, RealsWalk. -/
import Derived.Test.YtppmcbkcohiodaaK8
import Derived.Test.YtppmcbkcohiodaaK4
namespace Go.Proofs.Ytppmcbkcohiodaa.PMeanTells
open Go Go.RowKit Go.Proofs.YtppmcbkcohiodaaW.PrintWords Go.Proofs.YtppmcbkcohiodaaW.PrintLast Go.Proofs.YtppmcbkcohiodaaW.PrintMore Go.Proofs.Ytppmcbkcohiodaa.Spans Go.Proofs.Ytppmcbkcohiodaa.Base
set_option maxHeartbeats 2000000
set_option maxRecDepth 100000
set_option linter.unusedVariables false
set_option linter.unusedSimpArgs false
theorem fit_take {l : List R} (h : Fit l) (k : Nat) : Fit (l.take k) := fun x hx => h x (List.mem_of_mem_take hx)
def RefNormTold (w : World) (out : List R) (e : Ending) (w' : World) : Prop := ∃ v, e = .returned v ∧ Kd.R k55 55 w' w.heap.size (fun _ => True) v out ∧ Below w.heap.size w w'
theorem refNorm_calls (A0 : Option Addr) (c0 : Nat) (l : List R) (w : World) (ha : Kd.C k55 w A0 l.length l) (hm : l.length ≤ 1000000) (hf : Fit l) :
    Calls Try.prog 66 #[.slice A0 l.length c0] w (RefNormTold w (l.foldl refStep [])) := by
  obtain ⟨T, hT⟩ : ∃ T, T = RefNormTold w (l.foldl refStep []) := ⟨_, rfl⟩
  have HT := Aside0.mk hT
  rw [← hT]
  clear hT
  have HA := Aside0.mk ha
  have HF := Aside0.mk hf
  clear ha hf
  go_enter Try.func66, Try.ntmps66
  go_wp2_with fail
  go_loopg [3, 4] l.length (fun gg s3 s4 wr => ∃ (kk : Nat) (v : Value), kk ≤ l.length ∧ l.length - kk ≤ gg ∧ s3 = v ∧ s4 = .int .i64 (kk : Int) ∧ Aside0 (Kd.R k55 55 wr w.heap.size (fun _ => True) v ((l.take kk).foldl refStep [])) ∧ Aside0 (Below w.heap.size w wr))
  case atStart => exact ⟨0, _, Nat.zero_le _, by omega, rfl, rfl, ⟨Kd.R_nil _ _ _ _ _⟩, ⟨Below.refl _ _⟩⟩
  case round =>
    obtain ⟨kk, v, hkk, hgg, rfl, rfl, HR, HBr⟩ := hrel
    by_cases hlt : kk < l.length
    · have hltz : (kk : Int) < (l.length : Int) := by omega
      obtain ⟨ad, hA, c0', c1'⟩ := at_T55 (Kd.C_below HA.out HBr.out) (kk : Int) (by omega) (by omega)
      subst hA
      rw [Int.toNat_natCast] at c0' c1'
      obtain ⟨x, hx⟩ : ∃ x, x = rd_T55 l (kk : Int) := ⟨_, rfl⟩
      rw [← hx] at c0' c1'
      have HX := Aside0.mk (show l.take (kk + 1) = l.take kk ++ [x] from by rw [hx, List.take_succ_eq_append_getElem hlt, Spans.rdR l kk hlt])
      have HFL := Aside0.mk (show (l.take (kk + 1)).foldl refStep [] = refStep ((l.take kk).foldl refStep []) x from by rw [HX.out, List.foldl_append]; rfl)
      have HLN := Aside0.mk (show ((l.take kk).foldl refStep []).length ≤ 1000000 from by have := (refNorm_of (fit_take HF.out kk)).len; rw [List.length_take] at this; omega)
      clear hx
      generalize (l.take kk).foldl refStep [] = out at HR HFL HLN
      obtain ⟨x0, x1⟩ := x
      simp only at c0' c1'
      obtain ⟨A1, c1, rfl, hc1, hC1⟩ := Kd.R_reads HR.out
      have HC1 := Aside0.mk hC1
      clear hC1 hc1
      by_cases hx : x0 ≤ x1
      · have hxd : decide (x0 ≤ x1) = true := decide_eq_true hx
        have HFS := Aside0.mk (HFL.out.trans (show refStep out ⟨x0, x1⟩ = intoF out ⟨x0, x1⟩ from if_pos hx))
        clear hx HFL
        go_upto_region 5 with (fail)
        go_quiet (fail)
        go_wp2_with fail
        refine (into_calls A1 c1 out ⟨x0, x1⟩ _ (Kd.C_below HC1.out (pw_below_drewN (Below.refl _ _) nq)) HLN.out).mono ?_
        rintro e w9 ⟨v9, rfl, hR9, hB9⟩
        have HR9 := Aside0.mk (Kd.R_lower hR9 (by have := (below_step HBr.out (pw_below_drewN (Below.refl _ _) nq)).size; exact this))
        have HB9 := Aside0.mk (below_step (below_step HBr.out (pw_below_drewN (Below.refl _ _) nq)) hB9)
        rw [← HFS.out] at HR9
        clear hR9 hB9
        go_wp2_with fail
        go_roundg (l.length - (kk + 1))
        case measure => omega
        case rel => exact ⟨kk + 1, v9, by omega, Nat.le_refl _, rfl, by go_num, HR9, HB9⟩
      · have hxd : decide (x0 ≤ x1) = false := decide_eq_false hx
        have HFS := Aside0.mk (HFL.out.trans (show refStep out ⟨x0, x1⟩ = out from if_neg hx))
        clear hx HFL
        go_upto_region 5 with (fail)
        go_quiet (fail)
        go_wp2_with fail
        go_roundg (l.length - (kk + 1))
        case measure => omega
        case rel => exact ⟨kk + 1, _, by omega, Nat.le_refl _, rfl, by go_num, ⟨by rw [HFS.out]; exact Kd.R_below HR.out (pw_below_drewN (Below.refl _ _) nq)⟩, ⟨below_step HBr.out (pw_below_drewN (Below.refl _ _) nq)⟩⟩
    · have hkl : kk = l.length := by omega
      subst hkl
      have hltz : ¬ ((l.length : Int) < (l.length : Int)) := by omega
      rw [List.take_length] at HR
      go_wp2_with fail
      rw [HT.out]
      exact ⟨_, rfl, HR.out, HBr.out⟩
/-- What ref04.Covers answers. -/
def refCov (l : List R) (r : R) : Bool := if r.f0 > r.f1 then true else coversB (l.foldl refStep []) r
theorem refCovers_calls (A0 : Option Addr) (c0 : Nat) (l : List R) (r : R) (w : World) (ha : Kd.C k55 w A0 l.length l) (hm : l.length ≤ 1000000) (hf : Fit l) :
    Calls Try.prog 61 #[.slice A0 l.length c0, .agg #[.int .i64 r.f0, .int .i64 r.f1]] w fun e w' => e = .returned (.bool (refCov l r)) ∧ Below w.heap.size w w' := by
  obtain ⟨T, hT⟩ : ∃ T : Ending → World → Prop, T = fun e w' => e = .returned (.bool (refCov l r)) ∧ Below w.heap.size w w' := ⟨_, rfl⟩
  have HT := Aside0.mk hT
  rw [← hT]
  clear hT
  have HN := Aside0.mk (blk_new w (.cells #[.int .i64 r.f0, .int .i64 r.f1] 55))
  have HB := Aside0.mk (below_alloc (Below.refl w.heap.size w) (.cells #[.int .i64 r.f0, .int .i64 r.f1] 55))
  have HA := Aside0.mk ha
  have HF := Aside0.mk hf
  clear ha hf
  obtain ⟨ra, rz⟩ := r
  simp only at HN HB ⊢
  go_enter Try.func61, Try.ntmps61
  by_cases hgt : ra > rz
  · have hgd : decide (ra > rz) = true := decide_eq_true hgt
    have hgd' : decide (rz < ra) = true := hgd
    have HC := Aside0.mk (show refCov l ⟨ra, rz⟩ = true from if_pos hgt)
    clear hgt
    go_wp2_with fail
    rw [HT.out, HC.out]
    exact ⟨rfl, HB.out⟩
  have hgd : decide (ra > rz) = false := decide_eq_false hgt
  have hgd' : decide (rz < ra) = false := hgd
  have HC := Aside0.mk (show refCov l ⟨ra, rz⟩ = coversB (l.foldl refStep []) ⟨ra, rz⟩ from if_neg hgt)
  clear hgt
  obtain ⟨rb, hrb⟩ : ∃ rb, rb = w.heap.size := ⟨_, rfl⟩
  have HRB := Aside0.mk (Nat.le_of_eq hrb.symm)
  rw [← hrb] at HN
  go_upto_region 1 with (fail)
  rw [← hrb]
  clear hrb
  generalize w.alloc (.cells #[.int .i64 ra, .int .i64 rz] 55) = w0 at HN HB ⊢
  have p0 : w0.cell? ⟨rb, 0, none⟩ = some (.int .i64 ra) := blk_cell HN.out 0
  have p1 : w0.cell? ⟨rb, 1, none⟩ = some (.int .i64 rz) := blk_cell HN.out 1
  go_wp2_with fail
  refine (refNorm_calls A0 c0 l _ (Kd.C_below HA.out HB.out) hm HF.out).mono ?_
  rintro e w1 ⟨v1, rfl, hR1, hB1⟩
  obtain ⟨A1, c1, rfl, hc1, hC1⟩ := Kd.R_reads hR1
  have HC1 := Aside0.mk hC1
  have HB1 := Aside0.mk (below_step HB.out hB1)
  have HN1 := Aside0.mk (blk_below HN.out hB1)
  have HL1 := Aside0.mk (show (l.foldl refStep []).length ≤ 1000000 from by have := (refNorm_of HF.out).len; omega)
  clear hR1 hB1 hc1 hC1 p0 p1
  generalize l.foldl refStep [] = n at HC HC1 HL1 ⊢
  have hnl := HL1.out
  go_wp2_with fail
  go_loopg [4, 6] n.length (fun gg s4 s6 wr => ∃ (kk : Nat), kk ≤ n.length ∧ n.length - kk ≤ gg ∧ s4 = .bool false ∧ s6 = .int .i64 (kk : Int) ∧ Aside0 (coversB (n.take kk) ⟨ra, rz⟩ = false) ∧ Aside0 (Below w1.heap.size w1 wr))
  case atStart => exact ⟨0, Nat.zero_le _, by omega, rfl, rfl, ⟨rfl⟩, ⟨Below.refl _ _⟩⟩
  case round =>
    obtain ⟨kk, hkk, hgg, rfl, rfl, HNO, HBr⟩ := hrel
    by_cases hlt : kk < n.length
    · have hltz : (kk : Int) < (n.length : Int) := by omega
      obtain ⟨ad, hA, c0', c1'⟩ := at_T55 (Kd.C_below HC1.out HBr.out) (kk : Int) (by omega) (by omega)
      subst hA
      rw [Int.toNat_natCast] at c0' c1'
      have HX := Aside0.mk (Spans.rdR n kk hlt)
      generalize rd_T55 n (kk : Int) = x at HX c0' c1'
      have HT1 := Aside0.mk (show coversB (n.take (kk + 1)) ⟨ra, rz⟩ = (decide (x.f0 ≤ ra) && decide (rz ≤ x.f1)) from by
        have h := HNO.out
        unfold coversB at h ⊢
        rw [List.take_succ_eq_append_getElem hlt, List.any_append, h, Bool.false_or, ← HX.out]; simp)
      have HT2 := Aside0.mk (show coversB (n.take (kk + 1)) ⟨ra, rz⟩ = true → coversB n ⟨ra, rz⟩ = true from by
        intro h
        unfold coversB at h ⊢
        obtain ⟨y, hy, hy'⟩ := List.any_eq_true.1 h
        exact List.any_eq_true.2 ⟨y, List.mem_of_mem_take hy, hy'⟩)
      have q0 : wr.cell? ⟨rb, 0, none⟩ = some (.int .i64 ra) := blk_cell (blk_below HN1.out HBr.out) 0
      have q1 : wr.cell? ⟨rb, 1, none⟩ = some (.int .i64 rz) := blk_cell (blk_below HN1.out HBr.out) 1
      obtain ⟨x0, x1⟩ := x
      simp only at c0' c1' HT1
      by_cases h0 : x0 ≤ ra
      · have hd0 : decide (x0 ≤ ra) = true := decide_eq_true h0
        clear h0
        by_cases h1 : rz ≤ x1
        · have hd1 : decide (rz ≤ x1) = true := decide_eq_true h1
          clear h1
          rw [hd0, hd1] at HT1
          go_upto_region 7 with (fail)
          go_quiet (fail)
          go_wp2_with fail
          rw [HT.out, HC.out, HT2.out HT1.out]
          exact ⟨rfl, below_step HB1.out (pw_below_drewN HBr.out nq)⟩
        · have hd1 : decide (rz ≤ x1) = false := decide_eq_false h1
          clear h1
          rw [hd0, hd1] at HT1
          go_upto_region 7 with (fail)
          go_quiet (fail)
          go_wp2_with fail
          go_roundg (n.length - (kk + 1))
          case measure => omega
          case rel => exact ⟨kk + 1, by omega, Nat.le_refl _, rfl, by go_num, HT1, ⟨pw_below_drewN HBr.out nq⟩⟩
      · have hd0 : decide (x0 ≤ ra) = false := decide_eq_false h0
        clear h0
        rw [hd0] at HT1
        go_upto_region 7 with (fail)
        go_quiet (fail)
        go_wp2_with fail
        go_roundg (n.length - (kk + 1))
        case measure => omega
        case rel => exact ⟨kk + 1, by omega, Nat.le_refl _, rfl, by go_num, HT1, ⟨pw_below_drewN HBr.out nq⟩⟩
    · have hkl : kk = n.length := by omega
      subst hkl
      have hltz : ¬ ((n.length : Int) < (n.length : Int)) := by omega
      rw [List.take_length] at HNO
      go_wp2_with fail
      rw [HT.out, HC.out, HNO.out]
      exact ⟨rfl, below_step HB1.out HBr.out⟩
end Go.Proofs.Ytppmcbkcohiodaa.PMeanTells
namespace Go.Proofs.Ytppmcbkcohiodaa.Range
open Go Go.RowKit Go.Shelf Go.Proofs.YtppmcbkcohiodaaW.PrintWords Go.Proofs.Ytppmcbkcohiodaa.Fl Go.Proofs.Ytppmcbkcohiodaa.Base
attribute [local go_sem] Oper.semAt_some
set_option maxHeartbeats 8000000
set_option maxRecDepth 100000
set_option linter.unusedVariables false
theorem and3 (x : Int) (h0 : 0 ≤ x) (h1 : x < 9223372036854775808) : Go.bits .and .i64 x 3 = x % 4 :=
  bits_mask .i64 63 (by decide) wraps_i64 2 (by decide) x h0 (by omega)
theorem fours_made (F : Fence) (n : Nat) (h58 : F.fn 74) (hro : F.round = none) (A : Option Addr) (len c0 : Nat) (w : World) :
    CallsIn F n Try.prog 74 #[.slice A len c0] w fun e w' => e = .returned (.func (.func 87) #[] #[.pointer (some ⟨w.heap.size, 0, none⟩)]) ∧ w' = w.alloc (.cells #[.slice A len c0] 28) := by
  refine callsIn_of_wp Try.func74 rfl h58 ?_ hro
  simp only [Try.ntmps74, List.size_toArray, List.length_cons, List.length_nil, Nat.reduceAdd, Nat.reduceSub, Array.replicate_succ, Array.replicate_zero, List.push_toArray, List.append_toArray, List.nil_append, List.cons_append]
  gi_wp2
  refine bodyPost_ret (results_tmp rfl _ _ _) rfl ?_
  exact ⟨rfl, rfl⟩
theorem keeps_below {W W' : World} (h : Below W.heap.size W W') : KeepsOthers W W' :=
  KeepsOthers.of_grownBy (row := none) ⟨h.os, h.tape, h.output, h.size, fun k hk _ => h.block k hk⟩ (fun _ _ e => by cases e)
theorem results_cells2 {P : Program} {fn : Func} {p q : Tmp} {t u : TypeId} (h : fn.results = #[.cell p t, .cell q u]) (tmps : Array Value) (w : World) (a b : Addr) (v z : Value) (hp : tmps.getD p undef = .pointer (some a)) (hq : tmps.getD q undef = .pointer (some b))
    (ht : (isAgg t).run P w = .ok false w) (hu : (isAgg u).run P w = .ok false w) (ha : w.cell? a = some v) (hb : w.cell? b = some z) : (results fn tmps).run P w = .ok (.tuple #[v, z]) w := by
  have hp' : tmps[p]?.getD undef = .pointer (some a) := by simpa using hp
  have hq' : tmps[q]?.getD undef = .pointer (some b) := by simpa using hq
  simp [results, h, hp', hq', asAddr, loadVar, ht, hu, ha, hb, go_sem]
theorem below_put {n D : Nat} {W : World} (o : Obj) (h : n ≤ D) : Below n W (W.putObj D o) := by
  have hg := grownBy_putObj' W D o
  exact ⟨hg.os, hg.tape, hg.output, hg.size, fun k hk => World.putObj_heap_other (by omega)⟩
theorem infoF : (Try.prog.info? 23).map (fun i => (i.zero, i.size, i.bytes)) = some (some (.float .f64 0), 1, 8) := by kernel_rfl
/-- What facts.Reals tells. -/
def realsB (l : List Int) : Prop := l.length % 4 = 0 ∧ okUpto l (l.length / 4)
def RealsTold (n0 : Nat) (w : World) (l : List Int) (e : Ending) (w' : World) : Prop :=
  ((realsB l ∧ ∃ v, e = .returned (.tuple #[v, .bool true]) ∧ w'.ownsRow n0 23 1 v (l.length / 4) (fls (vals l (l.length / 4)))) ∨ (¬ realsB l ∧ e = .returned (.tuple #[.slice none 0 0, .bool false]))) ∧ Below n0 w w'
theorem reals_calls (A0 : Option Addr) (c0 : Nat) (l : List Int) (w : World) (hr0 : Kd.C (Kd.int .i64) w A0 l.length l) (hc0 : l.length ≤ c0) (hl : l.length ≤ 4000) :
    Calls Try.prog 55 #[.slice A0 l.length c0] w (RealsTold w.heap.size w l) := by
  have HR0 := Aside0.mk hr0
  clear hr0
  obtain ⟨i0, hi, hz0, hz1, hz2⟩ := info_parts infoF
  refine (callsIn_wide (n := 4)).1 ?_
  refine callsIn_of_wp_marks Try.func55 rfl trivial ?_ rfl
  simp only [Try.ntmps55, List.size_toArray, List.length_cons, List.length_nil, Nat.reduceAdd, Nat.reduceSub, Array.replicate_succ, Array.replicate_zero, List.push_toArray, List.append_toArray, List.nil_append, List.cons_append]
  have h3 : Go.bits .and .i64 (l.length : Int) 3 = ((l.length % 4 : Nat) : Int) := by rw [and3 _ (by omega) (by omega)]; omega
  by_cases h4 : l.length % 4 = 0
  · rw [h4] at h3
    gi_wp2_with (refine ⟨trivial, ?_⟩; gi_at_call 74; refine (fours_made Fence.wide 3 trivial rfl _ _ _ _).mono ?_; rintro e w' ⟨rfl, rfl⟩)
    have b1 := Boxed.new w 76 (.slice none 0 0)
    have b2 := Boxed.new (w.alloc (.cells #[.slice none 0 0] 76)) 4 (.bool false)
    have b3 := Boxed.new ((w.alloc (.cells #[.slice none 0 0] 76)).alloc (.cells #[.bool false] 4)) 76 (.slice none 0 0)
    have b4 := Boxed.new (((w.alloc (.cells #[.slice none 0 0] 76)).alloc (.cells #[.bool false] 4)).alloc (.cells #[.slice none 0 0] 76)) 28 (.slice A0 l.length c0)
    simp only [World.size_alloc] at b2 b3 b4
    obtain ⟨ad, had⟩ : ∃ ad, 0 < l.length → A0 = some ad := by
      by_cases hp : 0 < l.length
      · obtain ⟨ad, e, _⟩ := HR0.out.2.2 hp
        exact ⟨ad, fun _ => e⟩
      · exact ⟨⟨0, 0, none⟩, fun h => absurd h hp⟩
    obtain ⟨W0, hW0⟩ : ∃ W0, W0 = (((w.alloc (.cells #[.slice none 0 0] 76)).alloc (.cells #[.bool false] 4)).alloc (.cells #[.slice none 0 0] 76)).alloc (.cells #[.slice A0 l.length c0] 28) := ⟨_, rfl⟩
    have hsz : W0.heap.size = w.heap.size + 4 := by rw [hW0]; simp
    have hB0 : Below w.heap.size w W0 := by rw [hW0]; exact below_alloc (below_alloc (below_alloc (below_alloc (Below.refl _ _) _) _) _) _
    have hJ0 : J w.heap.size w ad c0 l 0 0 W0 := by
      refine ⟨⟨_, ?_, World.ownsRow_nil _ _ _ _⟩, ⟨A0, _, _, ?_, by omega, hc0, fun hp => ⟨?_, by omega⟩⟩, ?_, ?_, fun j hj => by omega, hB0⟩
      · rw [hW0]; exact b3.alloc _
      · rw [hW0]; exact b4
      · rw [had hp]; simp [Addr.add]
      · rw [hW0]; exact ((b1.alloc _).alloc _).alloc _
      · rw [hW0]; exact (b2.alloc _).alloc _
    rw [← hW0]
    have HJ0 := Aside0.mk hJ0
    clear hW0 b1 b2 b3 b4 hJ0
    refine range_steps (F := Fence.wide) (n := 4) rfl (by decide) (gf := 87) (lb := #[.pointer (some ⟨w.heap.size + 3, 0, none⟩)]) rfl trivial (enters_of Try.func87 (by kernel_rfl) rfl)
      (fun k => #[.slice (some (ad.add (4 * k))) 4 (c0 - 4 * k)]) (fun _ => rfl) (w.heap.size + 3) (l.length / 4) (by omega)
      (fun k W => J w.heap.size w ad c0 l k k W ∧ k ≤ l.length / 4) (fun k W => J w.heap.size w ad c0 l (k + 1) k W) (fun k W => Jx w.heap.size w l k W)
      (fun k W b o hb ho h => ⟨h.1.put b o (by omega) ho, h.2⟩) (fun k W b o hb ho h => h.put b o (by omega) ho) (fun k W b o hb ho h => h.put b o (by omega) ho) (fun k W o h => ⟨h.1.alloc o, h.2⟩) ⟨HJ0.out, by omega⟩
      (fun k => { tmps := #[.slice A0 l.length c0, undef, .pointer (some ⟨w.heap.size, 0, none⟩), .pointer (some ⟨w.heap.size + 1, 0, none⟩), .pointer (some ⟨w.heap.size + 1 + 1, 0, none⟩), .slice (some (ad.add (4 * k))) 4 (c0 - 4 * k), undef, undef, .slice A0 l.length c0, .int .i64 l.length, .int .i64 0, .bool false, .slice A0 l.length c0, .func (.func 87) #[] #[.pointer (some ⟨w.heap.size + 1 + 1 + 1, 0, none⟩)], .slice (some (ad.add (4 * k))) 4 (c0 - 4 * k), undef, undef, undef, undef, undef, undef, undef, undef, undef, undef, undef, undef], defers := [] }) ?assign ?body ?iter ?done ?stop
    case assign =>
      intro b k W K hK
      gi_wp2
      exact hK
    case iter =>
      intro b Rec RecX W hs hy hi hR
      refine fours_in Fence.wide 3 trivial rfl (by decide) ad l.length c0 (w.heap.size + 3) (l.length / 4) (by omega) (by omega) _ _ _ ?_ ?_ ?_ b Rec RecX W hs hy hi hR
      · rintro k W ⟨h, hk⟩
        obtain ⟨A, r, c, hb, hl⟩ := h.left
        exact ⟨hk, A, r, c, hb.cell, hb.frozen, hl⟩
      · rintro k W h _
        obtain ⟨A, r, c, hb, hl⟩ := h.left
        exact ⟨A, r, c, hb.cell, hb.frozen, hl⟩
      · rintro k W A r c h hk hl
        exact ⟨h.took hl, by omega⟩
    case body =>
      rintro b k W ⟨hJ, _⟩ hk
      have hC : Kd.C (Kd.int .i64) W (some (ad.add (4 * k))) (chunk l k).length (chunk l k) := by
        refine chunk_C ?_ k (by omega)
        have h := HR0.out
        rw [had (by omega)] at h
        exact Kd.C_below h hJ.below
      have hof := of_calls (some (ad.add (4 * k))) (c0 - 4 * k) (chunk l k) W hC
      rw [chunk_length l k (by omega)] at hof
      have HOF := Aside0.mk hof
      have HJ := Aside0.mk hJ
      clear hof hC hJ
      cases hx : (ofF (chunk l k)).2 with
      | false =>
        gi_wp2_with (refine ⟨trivial, ?_⟩; gi_at_call 75; refine (CallsIn.inRound b (callsIn_wide.2 HOF.out)).mono ?_; rintro e w1 ⟨rfl, hw1⟩; rw [hx]; have HJ1 := Aside0.mk (HJ.out.grow hw1); have c1 := HJ1.out.r1.cell; have c2 := HJ1.out.r2.cell; have f1 := HJ1.out.r1.frozen; have f2 := HJ1.out.r2.frozen)
        refine ⟨(keeps_below hw1).trans ((KeepsOthers.setCell _ _ _).trans (KeepsOthers.setCell _ _ _)), ?_⟩
        exact ⟨(HJ1.out.r1.set _).other (by omega) _, (HJ1.out.r2.other (by omega) _).set _, ⟨hk, hx⟩, (HJ1.out.below.setCell (p := ⟨w.heap.size, 0, none⟩) (Nat.le_refl _) _).setCell (p := ⟨w.heap.size + 1, 0, none⟩) (by show w.heap.size ≤ w.heap.size + 1; omega) _⟩
      | true =>
        have hkl : k + 1 ≤ maxLen := by have : maxLen = 9223372036854775807 := rfl
                                        omega
        gi_wp2_with (first
          | (refine ⟨trivial, ?_⟩; gi_at_call 75; refine (CallsIn.inRound b (callsIn_wide.2 HOF.out)).mono ?_; rintro e w1 ⟨rfl, hw1⟩; rw [hx]; have HJ1 := Aside0.mk (HJ.out.grow hw1); obtain ⟨v, hv, hrow⟩ := HJ1.out.out; have c1 := hv.cell; have f1 := hv.frozen)
          | (gi_at_builtin; refine wpListIn_append_own _ rfl _ _ 76 rfl w.heap.size 23 i0 (.float .f64 0) 1 8 Try.underlying76 hi hz0 hz1 hz2 rfl (by decide) _ _ _ rfl (hrow.alloc _) ⟨_, 0, none⟩ 1 1 [.float .f64 (ofF (chunk l k)).1] rfl rfl (cell_one_new _ _ _) (by simp [Value.oneCell']) hkl (by omega) (by have := HJ1.out.below.size; simp; omega) ?_; intro v' w2 hown' hgrow _; obtain ⟨g', cap', rfl⟩ := ownsRow_succ hown'; obtain ⟨hv1, hv2, hr2, hk2, hb2⟩ := hv.appended (by decide) hrow HJ1.out.below.size (show w.heap.size ≤ w.heap.size + 2 by omega) hown' hgrow; have hc1 := hv1.cell; have hf1 := hv1.frozen))
        obtain ⟨A, r, c, hb, hl⟩ := HJ1.out.left
        refine ⟨(keeps_below hw1).trans hk2, ⟨_, hv2, by rw [vals_succ]; exact hr2⟩, ⟨A, r, c, ((hb.alloc _).kept hgrow (hb.not_row (by decide) hrow)).other (by omega) _, hl⟩, ((HJ1.out.r1.alloc _).kept hgrow (HJ1.out.r1.not_row (by decide) hrow)).other (by omega) _, ((HJ1.out.r2.alloc _).kept hgrow (HJ1.out.r2.not_row (by decide) hrow)).other (by omega) _, okUpto_succ HJ1.out.ok hx, HJ1.out.below.trans hb2⟩
    case done =>
      rintro D W hD ⟨hJ, _⟩ hK
      obtain ⟨v, hv, hrow⟩ := hJ.out
      obtain ⟨Av, cv, rfl⟩ := own_slice hrow
      have c1 := hv.cell
      have f1 := hv.frozen
      have c2 := hJ.r1.cell
      have f2 := hJ.r1.frozen
      have c3 := hJ.r2.cell
      have f3 := hJ.r2.frozen
      gi_wp2
      refine ⟨by simp, .inl ⟨_, _, rfl, run_takeDeferred (((KeepsOthers.setCell _ _ _).trans (KeepsOthers.setCell _ _ _)).same D _ hK rfl), ?_⟩⟩
      have hk1 := ((KeepsOthers.setCell W ⟨w.heap.size, 0, none⟩ (.slice Av (l.length / 4) cv)).trans (KeepsOthers.setCell (W.setCell ⟨w.heap.size, 0, none⟩ (.slice Av (l.length / 4) cv)) ⟨w.heap.size + 1, 0, none⟩ (.bool true))).same D _ hK rfl
      have r1 := ((hJ.r1.set (.slice Av (l.length / 4) cv)).other (B' := w.heap.size + 1) (by omega) (.bool true)).kept (grownBy_putObj' _ D (.deferred none)) (fun e => by cases e; omega)
      have r2 := ((hJ.r2.other (B' := w.heap.size) (by omega) (.slice Av (l.length / 4) cv)).set (.bool true)).kept (grownBy_putObj' _ D (.deferred none)) (fun e => by cases e; omega)
      refine ⟨_, results_cells2 rfl _ _ ⟨w.heap.size, 0, none⟩ ⟨w.heap.size + 1, 0, none⟩ (.slice Av (l.length / 4) cv) (.bool true) rfl rfl (run_isAgg_plain Try.underlying76 rfl _) (run_isAgg_plain Try.underlying4 rfl _) r1.cell r2.cell, .inl ⟨⟨h4, hJ.ok⟩, _, rfl, ?_⟩, ?_⟩
      · refine ownsRow_putObj ((hrow.kept (grownBy_setCell' _ _ _) ?_).kept (grownBy_setCell' _ _ _) ?_) _ hk1 rfl
        · exact .inr (fun e => hJ.r1.not_row (by decide) hrow e.symm)
        · exact .inr (fun e => hJ.r2.not_row (by decide) hrow e.symm)
      · refine ((hJ.below.setCell (p := ⟨w.heap.size, 0, none⟩) (Nat.le_refl _) _).setCell (p := ⟨w.heap.size + 1, 0, none⟩) (by show w.heap.size ≤ w.heap.size + 1; omega) _).trans (below_put _ (by omega))
    case stop =>
      rintro D k W hD hJ hK
      have r1 := hJ.r1.kept (grownBy_putObj' _ D (.deferred none)) (fun e => by cases e; omega)
      have r2 := hJ.r2.kept (grownBy_putObj' _ D (.deferred none)) (fun e => by cases e; omega)
      gi_wp2
      refine ⟨by simp, .inl ⟨_, _, rfl, run_takeDeferred hK, ?_⟩⟩
      refine ⟨_, results_cells2 rfl _ _ ⟨w.heap.size, 0, none⟩ ⟨w.heap.size + 1, 0, none⟩ (.slice none 0 0) (.bool false) rfl rfl (run_isAgg_plain Try.underlying76 rfl _) (run_isAgg_plain Try.underlying4 rfl _) r1.cell r2.cell, .inr ⟨fun h => ?_, rfl⟩, hJ.below.trans (below_put _ (by omega))⟩
      have := h.2 k hJ.no.1
      rw [hJ.no.2] at this
      cases this
  · have h5 : decide (((l.length % 4 : Nat) : Int) ≠ 0) = true := decide_eq_true (by omega)
    have h6 : ((l.length % 4 : Nat) : Int) ≠ 0 := by omega
    have b1 := Boxed.new w 76 (.slice none 0 0)
    have b2 := Boxed.new (w.alloc (.cells #[.slice none 0 0] 76)) 4 (.bool false)
    simp only [World.size_alloc] at b2
    gi_wp2
    exact ⟨_, results_cells2 rfl _ _ ⟨w.heap.size, 0, none⟩ ⟨w.heap.size + 1, 0, none⟩ (.slice none 0 0) (.bool false) rfl rfl (run_isAgg_plain Try.underlying76 rfl _) (run_isAgg_plain Try.underlying4 rfl _) (b1.alloc _).cell b2.cell, .inr ⟨fun h => h4 h.1, rfl⟩, below_alloc (below_alloc (Below.refl _ _) _) _⟩
end Go.Proofs.Ytppmcbkcohiodaa.Range
