/- Texts of this claim, put together (wip/pack.py): RefInto. -/
import Derived.Test.YtppmcbkcohiodaaK7
import Derived.Test.YtppmcbkcohiodaaK2
namespace Go.Proofs.Ytppmcbkcohiodaa.PMeanTells
open Go Go.RowKit Go.Proofs.YtppmcbkcohiodaaW.PrintWords Go.Proofs.YtppmcbkcohiodaaW.PrintLast Go.Proofs.YtppmcbkcohiodaaW.PrintMore Go.Proofs.Ytppmcbkcohiodaa.Spans Go.Proofs.Ytppmcbkcohiodaa.Base
attribute [local go_sem] max2_int min2_int max_two min_two
set_option maxHeartbeats 2000000
set_option maxRecDepth 100000
set_option linter.unusedVariables false
set_option linter.unusedSimpArgs false
theorem ite_min (a b : Int) : (if b < a then b else a) = min a b := by split <;> omega
theorem take_of (p : R → Bool) : ∀ (l : List R) (k : Nat), k ≤ l.length → (∀ x ∈ l.take k, p x = true) → (∀ h : k < l.length, p l[k] = false) → l.takeWhile p = l.take k ∧ l.dropWhile p = l.drop k
  | [], k, hk, _, _ => by simp
  | x :: l, 0, _, _, h2 => by
    have := h2 (by simp)
    simp at this
    simp [List.takeWhile_cons, List.dropWhile_cons, this]
  | x :: l, k + 1, hk, h1, h2 => by
    have hx := h1 x (by simp)
    obtain ⟨e1, e2⟩ := take_of p l k (by simpa using hk) (fun y hy => h1 y (by simp [hy])) (fun h => by have := h2 (by simpa using h); simpa using this)
    simp [List.takeWhile_cons, List.dropWhile_cons, hx, e1, e2]
def IntoTold (w : World) (out : List R) (e : Ending) (w' : World) : Prop := ∃ v, e = .returned v ∧ Kd.R k55 55 w' w.heap.size (fun _ => True) v out ∧ Below w.heap.size w w'
theorem into_calls (A0 : Option Addr) (c0 : Nat) (l : List R) (r : R) (w : World) (ha : Kd.C k55 w A0 l.length l) (hm : l.length ≤ 1000000) :
    Calls Try.prog 79 #[.slice A0 l.length c0, .agg #[.int .i64 r.f0, .int .i64 r.f1]] w (IntoTold w (intoF l r)) := by
  obtain ⟨T, hT⟩ : ∃ T, T = IntoTold w (intoF l r) := ⟨_, rfl⟩
  have HT := Aside0.mk hT
  rw [← hT]
  clear hT
  have HN := Aside0.mk (blk_new w (.cells #[.int .i64 r.f0, .int .i64 r.f1] 55))
  have HB := Aside0.mk (below_alloc (Below.refl w.heap.size w) (.cells #[.int .i64 r.f0, .int .i64 r.f1] 55))
  have HA := Aside0.mk ha
  clear ha
  obtain ⟨ra, rz⟩ := r
  simp only at HN HB ⊢
  go_enter Try.func79, Try.ntmps79
  go_upto_region 1 with (fail)
  obtain ⟨rb, hrb⟩ : ∃ rb, rb = w.heap.size := ⟨_, rfl⟩
  rw [← hrb] at HN ⊢
  have HRB := Aside0.mk (Nat.le_of_eq hrb.symm)
  clear hrb
  generalize w.alloc (.cells #[.int .i64 ra, .int .i64 rz] 55) = w0 at HN HB ⊢
  go_wp2_with fail
  go_loopg [5, 6, 7, 8] l.length (fun gg s5 s6 _ _ wr => ∃ (kk : Nat) (v : Value) (out : List R) (q0 q1 : Int), kk ≤ l.length ∧ l.length - kk ≤ gg ∧ s5 = v ∧ s6 = .int .i64 (kk : Int) ∧ Aside0 ((l.take kk).foldl takeIn ([], ⟨ra, rz⟩) = (out, ⟨q0, q1⟩)) ∧ Aside0 (out.length ≤ kk) ∧ Aside0 (Kd.R k55 55 wr w.heap.size (fun k => k ≠ rb) v out) ∧ Aside0 (wr.heap[rb]? = some (.cells #[.int .i64 q0, .int .i64 q1] 55 (0, 0))) ∧ Aside0 (Below w.heap.size w wr))
  case atStart => exact ⟨0, _, [], ra, rz, Nat.zero_le _, by omega, rfl, rfl, ⟨rfl⟩, ⟨Nat.le_refl _⟩, ⟨Kd.R_nil _ _ _ _ _⟩, HN, HB⟩
  case round =>
    obtain ⟨kk, v, out, q0, q1, hkk, hgg, rfl, rfl, HFD, HLO, HR, HQ, HBr⟩ := hrel
    by_cases hlt : kk < l.length
    · have hltz : (kk : Int) < (l.length : Int) := by omega
      obtain ⟨ad, hA, c0', c1'⟩ := at_T55 (Kd.C_below HA.out HBr.out) (kk : Int) (by omega) (by omega)
      subst hA
      rw [Int.toNat_natCast] at c0' c1'
      obtain ⟨x, hx⟩ : ∃ x, x = rd_T55 l (kk : Int) := ⟨_, rfl⟩
      rw [← hx] at c0' c1'
      have HX := Aside0.mk (show l.take (kk + 1) = l.take kk ++ [x] from by rw [hx, List.take_succ_eq_append_getElem hlt, Spans.rdR l kk hlt])
      clear hx
      obtain ⟨x0, x1⟩ := x
      simp only at c0' c1'
      have HN1 := Aside0.mk (blk_new wr (.cells #[.int .i64 x0, .int .i64 x1] 55))
      have HBA := Aside0.mk (below_alloc (Below.refl _ wr) (.cells #[.int .i64 x0, .int .i64 x1] 55))
      have HR1 := Aside0.mk (Kd.R_below HR.out HBA.out)
      have HQ1 := Aside0.mk (blk_below HQ.out HBA.out)
      have HB1 := Aside0.mk (below_step HBr.out HBA.out)
      have hqlt := blk_lt HQ.out
      have hqne : rb ≠ wr.heap.size := by omega
      have q0' : wr.cell? ⟨rb, 0, none⟩ = some (.int .i64 q0) := blk_cell HQ.out 0
      have q1' : wr.cell? ⟨rb, 1, none⟩ = some (.int .i64 q1) := blk_cell HQ.out 1
      go_upto_region 6 with (fail)
      obtain ⟨xb, hxb⟩ : ∃ xb, xb = wr.heap.size := ⟨_, rfl⟩
      rw [← hxb] at HN1 hqne ⊢
      clear hxb
      generalize wr.alloc (.cells #[.int .i64 x0, .int .i64 x1] 55) = w1 at HN1 HBA HR1 HQ1 HB1 ⊢
      have p0 : w1.cell? ⟨xb, 0, none⟩ = some (.int .i64 x0) := blk_cell HN1.out 0
      have p1 : w1.cell? ⟨xb, 1, none⟩ = some (.int .i64 x1) := blk_cell HN1.out 1
      have p2 : w1.cell? ⟨rb, 0, none⟩ = some (.int .i64 q0) := blk_cell HQ1.out 0
      have p3 : w1.cell? ⟨rb, 1, none⟩ = some (.int .i64 q1) := blk_cell HQ1.out 1
      clear c0' c1' q0' q1'
      obtain ⟨ap, hap⟩ : ∃ ap, ap = apartB ⟨x0, x1⟩ ⟨q0, q1⟩ := ⟨_, rfl⟩
      have HAP := Aside0.mk hap
      clear hap
      go_cut [8] from 20 to 47 (fun s8 wx => s8 = .bool ap ∧ wx = w1)
      case first =>
        by_cases a1 : x1 < q0
        · have a1' : decide (x1 < q0) = true := decide_eq_true a1
          clear a1
          by_cases a2 : wrap64 (x1 + 1) < q0
          · have a2' : decide (wrap64 (x1 + 1) < q0) = true := decide_eq_true a2
            have a2'' : decide (IntKind.i64.wrap (x1 + 1) < q0) = true := by rw [i64_w]; exact a2'
            clear a2
            go_wp2_with fail
            go_meet
            case rel => exact ⟨by rw [HAP.out]; simp only [apartB, a1', a2']; rfl, rfl⟩
          · have a2' : decide (wrap64 (x1 + 1) < q0) = false := decide_eq_false a2
            have a2'' : decide (IntKind.i64.wrap (x1 + 1) < q0) = false := by rw [i64_w]; exact a2'
            clear a2
            by_cases b1 : q1 < x0
            · have b1' : decide (q1 < x0) = true := decide_eq_true b1
              clear b1
              by_cases b2 : wrap64 (q1 + 1) < x0
              · have b2' : decide (wrap64 (q1 + 1) < x0) = true := decide_eq_true b2
                have b2'' : decide (IntKind.i64.wrap (q1 + 1) < x0) = true := by rw [i64_w]; exact b2'
                clear b2
                go_wp2_with fail
                go_meet
                case rel => exact ⟨by rw [HAP.out]; simp only [apartB, a1', a2', b1', b2']; rfl, rfl⟩
              · have b2' : decide (wrap64 (q1 + 1) < x0) = false := decide_eq_false b2
                have b2'' : decide (IntKind.i64.wrap (q1 + 1) < x0) = false := by rw [i64_w]; exact b2'
                clear b2
                go_wp2_with fail
                go_meet
                case rel => exact ⟨by rw [HAP.out]; simp only [apartB, a1', a2', b1', b2']; rfl, rfl⟩
            · have b1' : decide (q1 < x0) = false := decide_eq_false b1
              clear b1
              go_wp2_with fail
              go_meet
              case rel => exact ⟨by rw [HAP.out]; simp only [apartB, a1', a2', b1']; rfl, rfl⟩
        · have a1' : decide (x1 < q0) = false := decide_eq_false a1
          clear a1
          by_cases b1 : q1 < x0
          · have b1' : decide (q1 < x0) = true := decide_eq_true b1
            clear b1
            by_cases b2 : wrap64 (q1 + 1) < x0
            · have b2' : decide (wrap64 (q1 + 1) < x0) = true := decide_eq_true b2
              have b2'' : decide (IntKind.i64.wrap (q1 + 1) < x0) = true := by rw [i64_w]; exact b2'
              clear b2
              go_wp2_with fail
              go_meet
              case rel => exact ⟨by rw [HAP.out]; simp only [apartB, a1', b1', b2']; rfl, rfl⟩
            · have b2' : decide (wrap64 (q1 + 1) < x0) = false := decide_eq_false b2
              have b2'' : decide (IntKind.i64.wrap (q1 + 1) < x0) = false := by rw [i64_w]; exact b2'
              clear b2
              go_wp2_with fail
              go_meet
              case rel => exact ⟨by rw [HAP.out]; simp only [apartB, a1', b1', b2']; rfl, rfl⟩
          · have b1' : decide (q1 < x0) = false := decide_eq_false b1
            clear b1
            go_wp2_with fail
            go_meet
            case rel => exact ⟨by rw [HAP.out]; simp only [apartB, a1', b1']; rfl, rfl⟩
      case rest =>
      obtain ⟨rfl, rfl⟩ := hcut
      cases ap with
      | true =>
        have HF := Aside0.mk (show (l.take (kk + 1)).foldl takeIn ([], ⟨ra, rz⟩) = (out ++ [⟨x0, x1⟩], ⟨q0, q1⟩) from by rw [HX.out, List.foldl_append, HFD.out]; simp only [List.foldl, takeIn, ← HAP.out, if_true])
        go_wp2_with ((with_reducible refine gate_builtin (b := .append) (xs := #[.tmp 49, .tmp 51]) rfl ?_); at_builtin; go_loud (refine Kd.R_append k55 (w0 := w) w.heap.size rfl (.tmp 49) (.tmp 51) 22 55 (.agg #[.int .i64 0, .int .i64 0]) 16 rfl Try.underlying22 info55 rfl (by decide) (by decide) _ out (⟨x0, x1⟩ : R) [.int .i64 x0, .int .i64 x1] (fun k => k ≠ rb) (fun _ => False) rfl rfl (k55_mkM _ _ _ (⟨x0, x1⟩ : R)) (fun _ hk => hk.elim) (fun k hk => by have := blk_lt HQ1.out; omega) HR1.out HB1.out HB1.out.size (by have h1 := HLO.out; omega) ?_); intro v2 w2 hR2 hB2 hg2 _; have HR2 := Aside0.mk hR2; have HB2 := Aside0.mk hB2; have HG2 := Aside0.mk hg2; clear hR2 hB2 hg2)
        go_roundg (l.length - (kk + 1))
        case measure => omega
        case rel => exact ⟨kk + 1, v2, out ++ [⟨x0, x1⟩], q0, q1, by omega, Nat.le_refl _, rfl, by go_num, HF, ⟨by have := HLO.out; simp; omega⟩, ⟨HR2.out⟩, ⟨blk_grown HQ1.out HG2.out (fun e => HR1.out.1 rb e.symm rfl)⟩, ⟨HB2.out⟩⟩
      | false =>
        have HF := Aside0.mk (show (l.take (kk + 1)).foldl takeIn ([], ⟨ra, rz⟩) = (out, ⟨min q0 x0, max q1 x1⟩) from by rw [HX.out, List.foldl_append, HFD.out]; simp only [List.foldl, takeIn, ← HAP.out]; rfl)
        go_upto_region 9 with (fail)
        have lx := blk_lt HN1.out
        have lq := blk_lt HQ1.out
        have HD := below_drew1 (Below.refl wc.heap.size wc)
        obtain ⟨hc', hf'⟩ := bcell HD
        have e0 := (hc' xb 0 lx).trans p0
        have e1 := (hc' xb 1 lx).trans p1
        have e2 := (hc' rb 0 lq).trans p2
        have e3 := (hc' rb 1 lq).trans p3
        have HQ2 := Aside0.mk (blk_below HQ1.out HD)
        have HR2 := Aside0.mk (Kd.R_below HR1.out HD)
        have HB2 := Aside0.mk (below_step HB1.out HD)
        have fz := blk_frozen HQ2.out
        clear hc' hf' p0 p1 p2 p3
        refine regd_start [13] [0, 2, 5, 7, 3, 6, 8, 9, 1, 4, 10, 11, 12, 13] 14 (fun w' => w'.cell? ⟨xb, 0, none⟩ = some (.int .i64 x0) ∧ w'.cell? ⟨xb, 1, none⟩ = some (.int .i64 x1) ∧ w'.cell? ⟨rb, 1, none⟩ = some (.int .i64 q1)) (by kernel_rfl) rfl ⟨e0, e1, e3⟩ (fun hHeld => ?_)
        clear HD
        generalize wc.drew = w2 at e0 e1 e2 e3 fz HQ2 HR2 HB2 hHeld ⊢
        repeat (first | (refine regd_pure (v := ?_) (a' := ?_) rfl rfl rfl (by kernel_rfl) (fun _ _ _ h => h) (by rfl) ?_ ?_ ?_; rotate_left; (solve | (intro w'; go_simp; with_reducible rfl)); rotate_left; (solve | (simp only [Act.put, List.setIfInBounds_toArray, List.set_cons_zero, List.set_cons_succ, i64_w, i32_w]; rfl))) | (refine regd_load (v := ?_) (a' := ?_) rfl rfl rfl (by kernel_rfl) (fun _ _ _ h => h) (by rfl) ?_ hHeld ?_ ?_; rotate_left; (solve | (intro w' hb'; obtain ⟨h1', h2', h3'⟩ := hb'; go_simp; with_reducible rfl)); rotate_left; (solve | (simp only [Act.put, List.setIfInBounds_toArray, List.set_cons_zero, List.set_cons_succ, i64_w, i32_w]; rfl)); intro hHeld))
        refine regd_run (v := .int .i64 q0) (w1 := w2) rfl rfl rfl (by kernel_rfl) (by decide) (by rfl) (by go_simp) hHeld (fun hHeld a' ha' => ?_)
        simp only [Act.put, List.setIfInBounds_toArray, List.set_cons_zero, List.set_cons_succ, i64_w, i32_w] at ha'
        subst ha'
        repeat (first | (refine regd_pure (v := ?_) (a' := ?_) rfl rfl rfl (by kernel_rfl) (fun _ _ _ h => h) (by rfl) ?_ ?_ ?_; rotate_left; (solve | (intro w'; go_simp; with_reducible rfl)); rotate_left; (solve | (simp only [Act.put, List.setIfInBounds_toArray, List.set_cons_zero, List.set_cons_succ, i64_w, i32_w]; rfl))) | (refine regd_load (v := ?_) (a' := ?_) rfl rfl rfl (by kernel_rfl) (fun _ _ _ h => h) (by rfl) ?_ hHeld ?_ ?_; rotate_left; (solve | (intro w' hb'; obtain ⟨h1', h2', h3'⟩ := hb'; go_simp; with_reducible rfl)); rotate_left; (solve | (simp only [Act.put, List.setIfInBounds_toArray, List.set_cons_zero, List.set_cons_succ, i64_w, i32_w]; rfl)); intro hHeld))
        refine regd_keep (w1 := w2.setCell ⟨rb, 0, none⟩ (.int .i64 (min q0 x0))) rfl rfl rfl (by kernel_rfl) (by decide) (by rfl) (by go_simp; rw [ite_min]) ⟨by rw [World.cell?_setCell_other _ _ _ _ (by intro h; simp only [Addr.mk.injEq] at h; omega)]; exact e0, by rw [World.cell?_setCell_other _ _ _ _ (by intro h; simp only [Addr.mk.injEq] at h; omega)]; exact e1, by rw [World.cell?_setCell_other _ _ _ _ (by intro h; simp only [Addr.mk.injEq] at h; omega)]; exact e3⟩ (fun hHeld => ?_)
        have ez : (w2.setCell ⟨rb, 0, none⟩ (.int .i64 (min q0 x0))).frozen? ⟨rb, 1, none⟩ = false := by rw [World.frozen?_setCell]; exact fz 1
        repeat (first | (refine regd_pure (v := ?_) (a' := ?_) rfl rfl rfl (by kernel_rfl) (fun _ _ _ h => h) (by rfl) ?_ ?_ ?_; rotate_left; (solve | (intro w'; go_simp; with_reducible rfl)); rotate_left; (solve | (simp only [Act.put, List.setIfInBounds_toArray, List.set_cons_zero, List.set_cons_succ, i64_w, i32_w]; rfl))) | (refine regd_load (v := ?_) (a' := ?_) rfl rfl rfl (by kernel_rfl) (fun _ _ _ h => h) (by rfl) ?_ hHeld ?_ ?_; rotate_left; (solve | (intro w' hb'; obtain ⟨h1', h2', h3'⟩ := hb'; go_simp; with_reducible rfl)); rotate_left; (solve | (simp only [Act.put, List.setIfInBounds_toArray, List.set_cons_zero, List.set_cons_succ, i64_w, i32_w]; rfl)); intro hHeld))
        refine regd_store (w1 := (w2.setCell ⟨rb, 0, none⟩ (.int .i64 (min q0 x0))).setCell ⟨rb, 1, none⟩ (.int .i64 (max q1 x1))) rfl rfl rfl (by kernel_rfl) (by decide) (by rfl) (by go_simp; rw [ite_max]) ?_
        refine regd_done (by kernel_rfl) ?_
        have HQ3 := Aside0.mk (setL_all HQ2.out [.int .i64 (min q0 x0), .int .i64 (max q1 x1)] rfl)
        have HR3 := Aside0.mk (setL_R HR2.out (fun k hk => hk) 0 [.int .i64 (min q0 x0), .int .i64 (max q1 x1)])
        have HB3 := Aside0.mk (setL_below HRB.out [.int .i64 (min q0 x0), .int .i64 (max q1 x1)] 0 HB2.out)
        simp only [ite_min, ite_max]
        clear hHeld e0 e1 e2 e3 fz ez HQ2 HR2 HB2
        generalize min q0 x0 = mn at HF HQ3 HR3 HB3 ⊢
        generalize max q1 x1 = mx at HF HQ3 HR3 HB3 ⊢
        go_wp2_with fail
        go_roundg (l.length - (kk + 1))
        case measure => omega
        case rel => exact ⟨kk + 1, _, out, mn, mx, by omega, Nat.le_refl _, rfl, by go_num, HF, ⟨by have := HLO.out; omega⟩, HR3, HQ3, HB3⟩
    · have hkl : kk = l.length := by omega
      subst hkl
      have hltz : ¬ ((l.length : Int) < (l.length : Int)) := by omega
      have HFD' := Aside0.mk (by simpa using HFD.out : l.foldl takeIn ([], ⟨ra, rz⟩) = (out, ⟨q0, q1⟩))
      clear HFD
      obtain ⟨A5, c5, rfl, hc5, hC5⟩ := Kd.R_reads HR.out
      have HC5 := Aside0.mk hC5
      have HLm : out.length ≤ 1000000 := by have := HLO.out; omega
      have hqlt := blk_lt HQ.out
      clear hC5
      generalize wr = w5 at HR HQ HBr HC5 hqlt ⊢
      go_wp2_with fail
      go_loopg [9] out.length (fun gg s9 wq => ∃ k : Nat, k ≤ out.length ∧ out.length - k ≤ gg ∧ s9 = .int .i64 (k : Int) ∧ Aside0 (∀ x ∈ out.take k, x.f0 < q0) ∧ Aside0 (Below w5.heap.size w5 wq))
      case atStart => exact ⟨0, Nat.zero_le _, by omega, rfl, ⟨by simp⟩, ⟨Below.refl _ _⟩⟩
      case round =>
        obtain ⟨k, hk, hgk, rfl, HP, HBq⟩ := hrel
        have hlq := Nat.lt_of_lt_of_le hqlt HBq.out.size
        have p0 : wr.cell? ⟨rb, 0, none⟩ = some (.int .i64 q0) := blk_cell (blk_below HQ.out HBq.out) 0
        obtain ⟨A2, hcut, hA2⟩ := cutR A5 out c5 k hk hc5
        obtain ⟨hto, hA3⟩ := toR A5 out c5 k hk hc5
        have HA2 := Aside0.mk hA2
        have HA3 := Aside0.mk hA3
        have HCU := Aside0.mk hcut
        have HTO := Aside0.mk hto
        clear hA2 hA3 hcut hto
        by_cases hlt : k < out.length
        · have hltz : decide (k < out.length) = true := decide_eq_true hlt
          obtain ⟨ad, hA, g0, g1⟩ := at_T55 (Kd.C_below HC5.out HBq.out) (k : Int) (by omega) (by omega)
          subst hA
          rw [Int.toNat_natCast] at g0 g1
          have HX := Aside0.mk (Spans.rdR out k hlt)
          generalize rd_T55 out (k : Int) = x at HX g0 g1
          obtain ⟨x0, x1⟩ := x
          simp only at g0 g1
          by_cases hx : x0 < q0
          · have HXL := Aside0.mk hx
            have hxd : decide (x0 < q0) = true := decide_eq_true hx
            clear hx
            go_upto_region 11 with (fail)
            go_quiet (fail)
            go_wp2_with fail
            go_roundg (out.length - (k + 1))
            case measure => omega
            case rel => exact ⟨k + 1, by omega, Nat.le_refl _, by go_num, ⟨fun y hy => by
              rw [List.take_succ_eq_append_getElem hlt, List.mem_append, List.mem_singleton] at hy
              rcases hy with hy | rfl
              · exact HP.out y hy
              · rw [← HX.out]; exact HXL.out⟩, ⟨pw_below_drewN HBq.out nq⟩⟩
          · have hxd : decide (x0 < q0) = false := decide_eq_false hx
            have HTK := Aside0.mk (take_of (fun y => decide (y.f0 < q0)) out k hk (fun y hy => decide_eq_true (HP.out y hy)) (fun h => by rw [← HX.out]; exact hxd))
            clear hx
            go_upto_region 11 with (fail)
            go_quiet (fail)
            go_wp2_with fail
            have BQ := Aside0.mk (pw_below_drewN HBq.out nq)
            generalize wr.drewN nq = w6 at BQ ⊢
            clear p0 HBq
            try clear g0 g1 hxd
            clear hltz
            have HQ6 := Aside0.mk (blk_below HQ.out BQ.out)
            have HC6 := Aside0.mk (Kd.C_below HC5.out BQ.out)
            have HB6 := Aside0.mk (below_step HBr.out BQ.out)
            have lq := blk_lt HQ6.out
            have p0 : w6.cell? ⟨rb, 0, none⟩ = some (.int .i64 q0) := blk_cell HQ6.out 0
            have p1 : w6.cell? ⟨rb, 1, none⟩ = some (.int .i64 q1) := blk_cell HQ6.out 1
            have hcut := HCU.out
            have hto := HTO.out
            refine reg_start [1, 2, 8, 9, 3, 10, 5, 0, 4, 6, 7, 11, 12] 13 (fun w' => Below w6.heap.size w6 w') (by kernel_rfl) rfl (below_drew1 (Below.refl _ _)) (fun hHeld => ?_)
            generalize w6.drew = w7 at hHeld ⊢
            repeat (first | (refine reg_pure (v := ?_) (a' := ?_) rfl rfl rfl (by kernel_rfl) (fun _ _ _ h => h) (by rfl) ?_ ?_ ?_; rotate_left; (solve | (intro w'; go_simp; with_reducible rfl)); rotate_left; (solve | (simp only [Act.put, List.setIfInBounds_toArray, List.set_cons_zero, List.set_cons_succ, i64_w, i32_w]; rfl))) | (refine reg_skip (a' := ?_) rfl rfl rfl (by rfl) (by kernel_rfl) (fun _ _ _ h => h) ?_ ?_; rotate_left; (solve | (simp only [Act.put, List.setIfInBounds_toArray, List.set_cons_zero, List.set_cons_succ, i64_w, i32_w]; rfl))) | (refine reg_load (v := ?_) (a' := ?_) rfl rfl rfl (by kernel_rfl) (fun _ _ _ h => h) (by rfl) ?_ hHeld ?_ ?_; rotate_left; (solve | (intro w' hb'; obtain ⟨hc', hf'⟩ := bcell hb'; clear hb'; go_simp; with_reducible rfl)); rotate_left; (solve | (simp only [Act.put, List.setIfInBounds_toArray, List.set_cons_zero, List.set_cons_succ, i64_w, i32_w]; rfl)); intro hHeld))
            refine reg_lay k55 (k55.K w6) w6 (i := 0) (j := 4) (k := 6) (by kernel_rfl) rfl rfl rfl rfl rfl rfl (by decide) (by decide) (by decide) rfl rfl rfl (.tmp 84) 22 55 (.agg #[.int .i64 0, .int .i64 0]) 16 (⟨q0, q1⟩ : R) [.int .i64 q0, .int .i64 q1] ?ri ?rk rfl (by decide) (by simp [List.size_toArray]) Try.underlying22 info55 rfl (by decide) (by decide) (out.take k) _ k c5 rfl (fun W' hb => HA3.out _ (Kd.C_below HC6.out hb)) (fun W' okp x cs hb h => by rw [k55_open h]; exact k55_mkM _ _ _ x) hHeld (by omega) (fun _ h => h) ?_
            case ri =>
              intro W a' ha
              go_simp
            case rk =>
              intro W a' ha
              have h86 : a'.eval (.tmp 86) = .agg #[.int .i64 q0, .int .i64 q1] := (ha (.tmp 86) (by simp)).trans rfl
              have h86' : (a'.tmps[86]?).getD undef = .agg #[.int .i64 q0, .int .i64 q1] := by rw [← Array.getD_eq_getD_getElem?]; exact h86
              go_simp
            intro v0 v1 g w8 hR8 hB8 hg8 hk8 a' ha'
            simp only [Act.put, List.setIfInBounds_toArray, List.set_cons_zero, List.set_cons_succ, i64_w, i32_w] at ha'
            subst ha'
            have HR8 := Aside0.mk hR8
            have HB8 := Aside0.mk hB8
            have HK8 := Aside0.mk hk8
            have lg := blk_lt hk8
            clear hHeld hR8 hk8
            refine reg_rows k55 (k55.K w8) w6 w6.heap.size rfl rfl rfl (by kernel_rfl) (by rfl) (.tmp 85) (.tmp 87) 22 55 (.agg #[.int .i64 0, .int .i64 0]) 16 rfl Try.underlying22 info55 rfl (by decide) (by decide) v1 (out.take k) [(⟨q0, q1⟩ : R)] (some ⟨g, 0, none⟩) 1 1 (fun q => q ≠ g) (fun q => q ≠ g ∧ some q ≠ v1.ownBlock) rfl rfl HR8.out (Own.C (l := [(⟨q0, q1⟩ : R)]) (rest := []) HK8.out (by simp)) (fun x cs h => by rw [k55_open h]; exact k55_mkM _ _ _ x) (fun k hk => hk) (fun _ hk => by omega) HB8.out HB8.out.size (by rw [List.length_take]; omega) (fun _ h => h) ?_
            intro v2 w9 hR9 hB9 _ _ a' ha'
            simp only [Act.put, List.setIfInBounds_toArray, List.set_cons_zero, List.set_cons_succ, i64_w, i32_w] at ha'
            subst ha'
            have HR9 := Aside0.mk (Kd.R_mono (ok' := fun _ => True) hR9 (fun _ _ => trivial))
            have HB9 := Aside0.mk hB9
            clear hR9 hB8
            refine reg_rows k55 (k55.K w9) w6 w6.heap.size rfl rfl rfl (by kernel_rfl) (by rfl) (.tmp 88) (.tmp 91) 22 55 (.agg #[.int .i64 0, .int .i64 0]) 16 rfl Try.underlying22 info55 rfl (by decide) (by decide) v2 (out.take k ++ [(⟨q0, q1⟩ : R)]) (out.drop k) A2 (out.length - k) (c5 - k) (fun _ => True) (fun q => some q ≠ v2.ownBlock) rfl rfl HR9.out (HA2.out _ (Kd.C_below HC6.out HB9.out)) (fun x cs h => by rw [k55_open h]; exact k55_mkM _ _ _ x) (fun k hk => ⟨trivial, hk⟩) (fun _ _ => trivial) HB9.out HB9.out.size (by rw [List.length_append, List.length_take]; simp; omega) (fun _ h => h) ?_
            intro v3 w10 hR10 hB10 _ _ a' ha'
            simp only [Act.put, List.setIfInBounds_toArray, List.set_cons_zero, List.set_cons_succ, i64_w, i32_w] at ha'
            subst ha'
            have hHeld := hB10
            repeat (first | (refine reg_pure (v := ?_) (a' := ?_) rfl rfl rfl (by kernel_rfl) (fun _ _ _ h => h) (by rfl) ?_ ?_ ?_; rotate_left; (solve | (intro w'; go_simp; with_reducible rfl)); rotate_left; (solve | (simp only [Act.put, List.setIfInBounds_toArray, List.set_cons_zero, List.set_cons_succ, i64_w, i32_w]; rfl))) | (refine reg_skip (a' := ?_) rfl rfl rfl (by rfl) (by kernel_rfl) (fun _ _ _ h => h) ?_ ?_; rotate_left; (solve | (simp only [Act.put, List.setIfInBounds_toArray, List.set_cons_zero, List.set_cons_succ, i64_w, i32_w]; rfl))) | (refine reg_load (v := ?_) (a' := ?_) rfl rfl rfl (by kernel_rfl) (fun _ _ _ h => h) (by rfl) ?_ hHeld ?_ ?_; rotate_left; (solve | (intro w' hb'; obtain ⟨hc', hf'⟩ := bcell hb'; clear hb'; go_simp; with_reducible rfl)); rotate_left; (solve | (simp only [Act.put, List.setIfInBounds_toArray, List.set_cons_zero, List.set_cons_succ, i64_w, i32_w]; rfl)); intro hHeld))
            refine reg_done (by kernel_rfl) ?_
            have HR10 := Aside0.mk (Kd.R_mono (ok' := fun _ => True) hR10 (fun _ _ => trivial))
            have HB10 := Aside0.mk (below_step HB6.out hB10)
            have HSZ := Aside0.mk HB6.out.size
            clear hR10 hB10 hHeld hB9
            go_wp2
            rw [HT.out]
            refine ⟨_, rfl, ?_, HB10.out⟩
            have e : intoF l ⟨ra, rz⟩ = out.take k ++ [(⟨q0, q1⟩ : R)] ++ out.drop k := by
              unfold intoF lay
              rw [HFD'.out]
              simp only [HTK.out.1, HTK.out.2]
            rw [e]
            exact Kd.R_lower HR10.out HSZ.out
        · have hltz : decide (k < out.length) = false := decide_eq_false hlt
          have HTK := Aside0.mk (take_of (fun y => decide (y.f0 < q0)) out k hk (fun y hy => decide_eq_true (HP.out y hy)) (fun h => absurd h hlt))
          go_upto_region 11 with (fail)
          go_quiet (fail)
          go_wp2_with fail
          have BQ := Aside0.mk (pw_below_drewN HBq.out nq)
          generalize wr.drewN nq = w6 at BQ ⊢
          clear p0 HBq
          try clear g0 g1 hxd
          clear hltz
          have HQ6 := Aside0.mk (blk_below HQ.out BQ.out)
          have HC6 := Aside0.mk (Kd.C_below HC5.out BQ.out)
          have HB6 := Aside0.mk (below_step HBr.out BQ.out)
          have lq := blk_lt HQ6.out
          have p0 : w6.cell? ⟨rb, 0, none⟩ = some (.int .i64 q0) := blk_cell HQ6.out 0
          have p1 : w6.cell? ⟨rb, 1, none⟩ = some (.int .i64 q1) := blk_cell HQ6.out 1
          have hcut := HCU.out
          have hto := HTO.out
          refine reg_start [1, 2, 8, 9, 3, 10, 5, 0, 4, 6, 7, 11, 12] 13 (fun w' => Below w6.heap.size w6 w') (by kernel_rfl) rfl (below_drew1 (Below.refl _ _)) (fun hHeld => ?_)
          generalize w6.drew = w7 at hHeld ⊢
          repeat (first | (refine reg_pure (v := ?_) (a' := ?_) rfl rfl rfl (by kernel_rfl) (fun _ _ _ h => h) (by rfl) ?_ ?_ ?_; rotate_left; (solve | (intro w'; go_simp; with_reducible rfl)); rotate_left; (solve | (simp only [Act.put, List.setIfInBounds_toArray, List.set_cons_zero, List.set_cons_succ, i64_w, i32_w]; rfl))) | (refine reg_skip (a' := ?_) rfl rfl rfl (by rfl) (by kernel_rfl) (fun _ _ _ h => h) ?_ ?_; rotate_left; (solve | (simp only [Act.put, List.setIfInBounds_toArray, List.set_cons_zero, List.set_cons_succ, i64_w, i32_w]; rfl))) | (refine reg_load (v := ?_) (a' := ?_) rfl rfl rfl (by kernel_rfl) (fun _ _ _ h => h) (by rfl) ?_ hHeld ?_ ?_; rotate_left; (solve | (intro w' hb'; obtain ⟨hc', hf'⟩ := bcell hb'; clear hb'; go_simp; with_reducible rfl)); rotate_left; (solve | (simp only [Act.put, List.setIfInBounds_toArray, List.set_cons_zero, List.set_cons_succ, i64_w, i32_w]; rfl)); intro hHeld))
          refine reg_lay k55 (k55.K w6) w6 (i := 0) (j := 4) (k := 6) (by kernel_rfl) rfl rfl rfl rfl rfl rfl (by decide) (by decide) (by decide) rfl rfl rfl (.tmp 84) 22 55 (.agg #[.int .i64 0, .int .i64 0]) 16 (⟨q0, q1⟩ : R) [.int .i64 q0, .int .i64 q1] ?ri ?rk rfl (by decide) (by simp [List.size_toArray]) Try.underlying22 info55 rfl (by decide) (by decide) (out.take k) _ k c5 rfl (fun W' hb => HA3.out _ (Kd.C_below HC6.out hb)) (fun W' okp x cs hb h => by rw [k55_open h]; exact k55_mkM _ _ _ x) hHeld (by omega) (fun _ h => h) ?_
          case ri =>
            intro W a' ha
            go_simp
          case rk =>
            intro W a' ha
            have h86 : a'.eval (.tmp 86) = .agg #[.int .i64 q0, .int .i64 q1] := (ha (.tmp 86) (by simp)).trans rfl
            have h86' : (a'.tmps[86]?).getD undef = .agg #[.int .i64 q0, .int .i64 q1] := by rw [← Array.getD_eq_getD_getElem?]; exact h86
            go_simp
          intro v0 v1 g w8 hR8 hB8 hg8 hk8 a' ha'
          simp only [Act.put, List.setIfInBounds_toArray, List.set_cons_zero, List.set_cons_succ, i64_w, i32_w] at ha'
          subst ha'
          have HR8 := Aside0.mk hR8
          have HB8 := Aside0.mk hB8
          have HK8 := Aside0.mk hk8
          have lg := blk_lt hk8
          clear hHeld hR8 hk8
          refine reg_rows k55 (k55.K w8) w6 w6.heap.size rfl rfl rfl (by kernel_rfl) (by rfl) (.tmp 85) (.tmp 87) 22 55 (.agg #[.int .i64 0, .int .i64 0]) 16 rfl Try.underlying22 info55 rfl (by decide) (by decide) v1 (out.take k) [(⟨q0, q1⟩ : R)] (some ⟨g, 0, none⟩) 1 1 (fun q => q ≠ g) (fun q => q ≠ g ∧ some q ≠ v1.ownBlock) rfl rfl HR8.out (Own.C (l := [(⟨q0, q1⟩ : R)]) (rest := []) HK8.out (by simp)) (fun x cs h => by rw [k55_open h]; exact k55_mkM _ _ _ x) (fun k hk => hk) (fun _ hk => by omega) HB8.out HB8.out.size (by rw [List.length_take]; omega) (fun _ h => h) ?_
          intro v2 w9 hR9 hB9 _ _ a' ha'
          simp only [Act.put, List.setIfInBounds_toArray, List.set_cons_zero, List.set_cons_succ, i64_w, i32_w] at ha'
          subst ha'
          have HR9 := Aside0.mk (Kd.R_mono (ok' := fun _ => True) hR9 (fun _ _ => trivial))
          have HB9 := Aside0.mk hB9
          clear hR9 hB8
          refine reg_rows k55 (k55.K w9) w6 w6.heap.size rfl rfl rfl (by kernel_rfl) (by rfl) (.tmp 88) (.tmp 91) 22 55 (.agg #[.int .i64 0, .int .i64 0]) 16 rfl Try.underlying22 info55 rfl (by decide) (by decide) v2 (out.take k ++ [(⟨q0, q1⟩ : R)]) (out.drop k) A2 (out.length - k) (c5 - k) (fun _ => True) (fun q => some q ≠ v2.ownBlock) rfl rfl HR9.out (HA2.out _ (Kd.C_below HC6.out HB9.out)) (fun x cs h => by rw [k55_open h]; exact k55_mkM _ _ _ x) (fun k hk => ⟨trivial, hk⟩) (fun _ _ => trivial) HB9.out HB9.out.size (by rw [List.length_append, List.length_take]; simp; omega) (fun _ h => h) ?_
          intro v3 w10 hR10 hB10 _ _ a' ha'
          simp only [Act.put, List.setIfInBounds_toArray, List.set_cons_zero, List.set_cons_succ, i64_w, i32_w] at ha'
          subst ha'
          have hHeld := hB10
          repeat (first | (refine reg_pure (v := ?_) (a' := ?_) rfl rfl rfl (by kernel_rfl) (fun _ _ _ h => h) (by rfl) ?_ ?_ ?_; rotate_left; (solve | (intro w'; go_simp; with_reducible rfl)); rotate_left; (solve | (simp only [Act.put, List.setIfInBounds_toArray, List.set_cons_zero, List.set_cons_succ, i64_w, i32_w]; rfl))) | (refine reg_skip (a' := ?_) rfl rfl rfl (by rfl) (by kernel_rfl) (fun _ _ _ h => h) ?_ ?_; rotate_left; (solve | (simp only [Act.put, List.setIfInBounds_toArray, List.set_cons_zero, List.set_cons_succ, i64_w, i32_w]; rfl))) | (refine reg_load (v := ?_) (a' := ?_) rfl rfl rfl (by kernel_rfl) (fun _ _ _ h => h) (by rfl) ?_ hHeld ?_ ?_; rotate_left; (solve | (intro w' hb'; obtain ⟨hc', hf'⟩ := bcell hb'; clear hb'; go_simp; with_reducible rfl)); rotate_left; (solve | (simp only [Act.put, List.setIfInBounds_toArray, List.set_cons_zero, List.set_cons_succ, i64_w, i32_w]; rfl)); intro hHeld))
          refine reg_done (by kernel_rfl) ?_
          have HR10 := Aside0.mk (Kd.R_mono (ok' := fun _ => True) hR10 (fun _ _ => trivial))
          have HB10 := Aside0.mk (below_step HB6.out hB10)
          have HSZ := Aside0.mk HB6.out.size
          clear hR10 hB10 hHeld hB9
          go_wp2
          rw [HT.out]
          refine ⟨_, rfl, ?_, HB10.out⟩
          have e : intoF l ⟨ra, rz⟩ = out.take k ++ [(⟨q0, q1⟩ : R)] ++ out.drop k := by
            unfold intoF lay
            rw [HFD'.out]
            simp only [HTK.out.1, HTK.out.2]
          rw [e]
          exact Kd.R_lower HR10.out HSZ.out
end Go.Proofs.Ytppmcbkcohiodaa.PMeanTells
