/- Texts of this claim, put together (wip/pack.py): RefNorm. -/
import Derived.Test.YtedmjfngpofoaaaK15
namespace Go.Proofs.Ytedmjfngpofoaaa.PSpanTells
open Go Go.RowKit Go.Proofs.YtedmjfngpofoaaaW.PrintWords Go.Proofs.YtedmjfngpofoaaaW.PrintLast Go.Proofs.YtedmjfngpofoaaaW.PrintMore Go.Proofs.Ytedmjfngpofoaaa.Spans Go.Proofs.Ytedmjfngpofoaaa.Base
set_option maxHeartbeats 2000000
set_option maxRecDepth 100000
set_option linter.unusedVariables false
set_option linter.unusedSimpArgs false
theorem fit_take {l : List R} (h : Fit l) (k : Nat) : Fit (l.take k) := fun x hx => h x (List.mem_of_mem_take hx)
def RefNormTold (w : World) (out : List R) (e : Ending) (w' : World) : Prop := ∃ v, e = .returned v ∧ Kd.R k26 26 w' w.heap.size (fun _ => True) v out ∧ Below w.heap.size w w'
theorem refNorm_calls (A0 : Option Addr) (c0 : Nat) (l : List R) (w : World) (ha : Kd.C k26 w A0 l.length l) (hm : l.length ≤ 1000000) (hf : Fit l) :
    Calls Try.prog 18 #[.slice A0 l.length c0] w (RefNormTold w (l.foldl refStep [])) := by
  obtain ⟨T, hT⟩ : ∃ T, T = RefNormTold w (l.foldl refStep []) := ⟨_, rfl⟩
  have HT := Aside0.mk hT
  rw [← hT]
  clear hT
  have HA := Aside0.mk ha
  have HF := Aside0.mk hf
  clear ha hf
  go_enter Try.func18, Try.ntmps18
  go_wp2_with fail
  go_loopg [3, 4] l.length (fun gg s3 s4 wr => ∃ (kk : Nat) (v : Value), kk ≤ l.length ∧ l.length - kk ≤ gg ∧ s3 = v ∧ s4 = .int .i64 (kk : Int) ∧ Aside0 (Kd.R k26 26 wr w.heap.size (fun _ => True) v ((l.take kk).foldl refStep [])) ∧ Aside0 (Below w.heap.size w wr))
  case atStart => exact ⟨0, _, Nat.zero_le _, by omega, rfl, rfl, ⟨Kd.R_nil _ _ _ _ _⟩, ⟨Below.refl _ _⟩⟩
  case round =>
    obtain ⟨kk, v, hkk, hgg, rfl, rfl, HR, HBr⟩ := hrel
    by_cases hlt : kk < l.length
    · have hltz : (kk : Int) < (l.length : Int) := by omega
      obtain ⟨ad, hA, c0', c1'⟩ := at_T26 (Kd.C_below HA.out HBr.out) (kk : Int) (by omega) (by omega)
      subst hA
      rw [Int.toNat_natCast] at c0' c1'
      obtain ⟨x, hx⟩ : ∃ x, x = rd_T26 l (kk : Int) := ⟨_, rfl⟩
      rw [← hx] at c0' c1'
      have HX := Aside0.mk (show l.take (kk + 1) = l.take kk ++ [x] from by rw [hx, List.take_succ_eq_append_getElem hlt, Spans.rdR l kk hlt])
      have HFL := Aside0.mk (show (l.take (kk + 1)).foldl refStep [] = refStep ((l.take kk).foldl refStep []) x from by rw [HX.out, List.foldl_append]; rfl)
      have HLN := Aside0.mk (show ((l.take kk).foldl refStep []).length ≤ 1000000 from by have := (refNorm_of (fit_take HF.out kk)).len; rw [List.length_take] at this; omega)
      clear hx
      generalize (l.take kk).foldl refStep [] = out at HR HFL HLN
      obtain ⟨x0, x1⟩ := x
      simp only at c0' c1'
      obtain ⟨A1, c1, rfl, hc1, hC1⟩ := Kd.R_reads HR.out
      have HC1 := Aside0.mk hC1
      clear hC1 hc1
      by_cases hx : x0 ≤ x1
      · have hxd : decide (x0 ≤ x1) = true := decide_eq_true hx
        have HFS := Aside0.mk (HFL.out.trans (show refStep out ⟨x0, x1⟩ = intoF out ⟨x0, x1⟩ from if_pos hx))
        clear hx HFL
        go_upto_region 5 with (fail)
        go_quiet (fail)
        go_wp2_with fail
        refine (into_calls A1 c1 out ⟨x0, x1⟩ _ (Kd.C_below HC1.out (pw_below_drewN (Below.refl _ _) nq)) HLN.out).mono ?_
        rintro e w9 ⟨v9, rfl, hR9, hB9⟩
        have HR9 := Aside0.mk (Kd.R_lower hR9 (by have := (below_step HBr.out (pw_below_drewN (Below.refl _ _) nq)).size; exact this))
        have HB9 := Aside0.mk (below_step (below_step HBr.out (pw_below_drewN (Below.refl _ _) nq)) hB9)
        rw [← HFS.out] at HR9
        clear hR9 hB9
        go_wp2_with fail
        go_roundg (l.length - (kk + 1))
        case measure => omega
        case rel => exact ⟨kk + 1, v9, by omega, Nat.le_refl _, rfl, by go_num, HR9, HB9⟩
      · have hxd : decide (x0 ≤ x1) = false := decide_eq_false hx
        have HFS := Aside0.mk (HFL.out.trans (show refStep out ⟨x0, x1⟩ = out from if_neg hx))
        clear hx HFL
        go_upto_region 5 with (fail)
        go_quiet (fail)
        go_wp2_with fail
        go_roundg (l.length - (kk + 1))
        case measure => omega
        case rel => exact ⟨kk + 1, _, by omega, Nat.le_refl _, rfl, by go_num, ⟨by rw [HFS.out]; exact Kd.R_below HR.out (pw_below_drewN (Below.refl _ _) nq)⟩, ⟨below_step HBr.out (pw_below_drewN (Below.refl _ _) nq)⟩⟩
    · have hkl : kk = l.length := by omega
      subst hkl
      have hltz : ¬ ((l.length : Int) < (l.length : Int)) := by omega
      rw [List.take_length] at HR
      go_wp2_with fail
      rw [HT.out]
      exact ⟨_, rfl, HR.out, HBr.out⟩
/-- What ref04.Covers answers. -/
def refCov (l : List R) (r : R) : Bool := if r.f0 > r.f1 then true else coversB (l.foldl refStep []) r
theorem refCovers_calls (A0 : Option Addr) (c0 : Nat) (l : List R) (r : R) (w : World) (ha : Kd.C k26 w A0 l.length l) (hm : l.length ≤ 1000000) (hf : Fit l) :
    Calls Try.prog 20 #[.slice A0 l.length c0, .agg #[.int .i64 r.f0, .int .i64 r.f1]] w fun e w' => e = .returned (.bool (refCov l r)) ∧ Below w.heap.size w w' := by
  obtain ⟨T, hT⟩ : ∃ T : Ending → World → Prop, T = fun e w' => e = .returned (.bool (refCov l r)) ∧ Below w.heap.size w w' := ⟨_, rfl⟩
  have HT := Aside0.mk hT
  rw [← hT]
  clear hT
  have HN := Aside0.mk (blk_new w (.cells #[.int .i64 r.f0, .int .i64 r.f1] 26))
  have HB := Aside0.mk (below_alloc (Below.refl w.heap.size w) (.cells #[.int .i64 r.f0, .int .i64 r.f1] 26))
  have HA := Aside0.mk ha
  have HF := Aside0.mk hf
  clear ha hf
  obtain ⟨ra, rz⟩ := r
  simp only at HN HB ⊢
  go_enter Try.func20, Try.ntmps20
  by_cases hgt : ra > rz
  · have hgd : decide (ra > rz) = true := decide_eq_true hgt
    have hgd' : decide (rz < ra) = true := hgd
    have HC := Aside0.mk (show refCov l ⟨ra, rz⟩ = true from if_pos hgt)
    clear hgt
    go_wp2_with fail
    rw [HT.out, HC.out]
    exact ⟨rfl, HB.out⟩
  have hgd : decide (ra > rz) = false := decide_eq_false hgt
  have hgd' : decide (rz < ra) = false := hgd
  have HC := Aside0.mk (show refCov l ⟨ra, rz⟩ = coversB (l.foldl refStep []) ⟨ra, rz⟩ from if_neg hgt)
  clear hgt
  obtain ⟨rb, hrb⟩ : ∃ rb, rb = w.heap.size := ⟨_, rfl⟩
  have HRB := Aside0.mk (Nat.le_of_eq hrb.symm)
  rw [← hrb] at HN
  go_upto_region 1 with (fail)
  rw [← hrb]
  clear hrb
  generalize w.alloc (.cells #[.int .i64 ra, .int .i64 rz] 26) = w0 at HN HB ⊢
  have p0 : w0.cell? ⟨rb, 0, none⟩ = some (.int .i64 ra) := blk_cell HN.out 0
  have p1 : w0.cell? ⟨rb, 1, none⟩ = some (.int .i64 rz) := blk_cell HN.out 1
  go_wp2_with fail
  refine (refNorm_calls A0 c0 l _ (Kd.C_below HA.out HB.out) hm HF.out).mono ?_
  rintro e w1 ⟨v1, rfl, hR1, hB1⟩
  obtain ⟨A1, c1, rfl, hc1, hC1⟩ := Kd.R_reads hR1
  have HC1 := Aside0.mk hC1
  have HB1 := Aside0.mk (below_step HB.out hB1)
  have HN1 := Aside0.mk (blk_below HN.out hB1)
  have HL1 := Aside0.mk (show (l.foldl refStep []).length ≤ 1000000 from by have := (refNorm_of HF.out).len; omega)
  clear hR1 hB1 hc1 hC1 p0 p1
  generalize l.foldl refStep [] = n at HC HC1 HL1 ⊢
  have hnl := HL1.out
  go_wp2_with fail
  go_loopg [4, 6] n.length (fun gg s4 s6 wr => ∃ (kk : Nat), kk ≤ n.length ∧ n.length - kk ≤ gg ∧ s4 = .bool false ∧ s6 = .int .i64 (kk : Int) ∧ Aside0 (coversB (n.take kk) ⟨ra, rz⟩ = false) ∧ Aside0 (Below w1.heap.size w1 wr))
  case atStart => exact ⟨0, Nat.zero_le _, by omega, rfl, rfl, ⟨rfl⟩, ⟨Below.refl _ _⟩⟩
  case round =>
    obtain ⟨kk, hkk, hgg, rfl, rfl, HNO, HBr⟩ := hrel
    by_cases hlt : kk < n.length
    · have hltz : (kk : Int) < (n.length : Int) := by omega
      obtain ⟨ad, hA, c0', c1'⟩ := at_T26 (Kd.C_below HC1.out HBr.out) (kk : Int) (by omega) (by omega)
      subst hA
      rw [Int.toNat_natCast] at c0' c1'
      have HX := Aside0.mk (Spans.rdR n kk hlt)
      generalize rd_T26 n (kk : Int) = x at HX c0' c1'
      have HT1 := Aside0.mk (show coversB (n.take (kk + 1)) ⟨ra, rz⟩ = (decide (x.f0 ≤ ra) && decide (rz ≤ x.f1)) from by
        have h := HNO.out
        unfold coversB at h ⊢
        rw [List.take_succ_eq_append_getElem hlt, List.any_append, h, Bool.false_or, ← HX.out]; simp)
      have HT2 := Aside0.mk (show coversB (n.take (kk + 1)) ⟨ra, rz⟩ = true → coversB n ⟨ra, rz⟩ = true from by
        intro h
        unfold coversB at h ⊢
        obtain ⟨y, hy, hy'⟩ := List.any_eq_true.1 h
        exact List.any_eq_true.2 ⟨y, List.mem_of_mem_take hy, hy'⟩)
      have q0 : wr.cell? ⟨rb, 0, none⟩ = some (.int .i64 ra) := blk_cell (blk_below HN1.out HBr.out) 0
      have q1 : wr.cell? ⟨rb, 1, none⟩ = some (.int .i64 rz) := blk_cell (blk_below HN1.out HBr.out) 1
      obtain ⟨x0, x1⟩ := x
      simp only at c0' c1' HT1
      by_cases h0 : x0 ≤ ra
      · have hd0 : decide (x0 ≤ ra) = true := decide_eq_true h0
        clear h0
        by_cases h1 : rz ≤ x1
        · have hd1 : decide (rz ≤ x1) = true := decide_eq_true h1
          clear h1
          rw [hd0, hd1] at HT1
          go_upto_region 7 with (fail)
          go_quiet (fail)
          go_wp2_with fail
          rw [HT.out, HC.out, HT2.out HT1.out]
          exact ⟨rfl, below_step HB1.out (pw_below_drewN HBr.out nq)⟩
        · have hd1 : decide (rz ≤ x1) = false := decide_eq_false h1
          clear h1
          rw [hd0, hd1] at HT1
          go_upto_region 7 with (fail)
          go_quiet (fail)
          go_wp2_with fail
          go_roundg (n.length - (kk + 1))
          case measure => omega
          case rel => exact ⟨kk + 1, by omega, Nat.le_refl _, rfl, by go_num, HT1, ⟨pw_below_drewN HBr.out nq⟩⟩
      · have hd0 : decide (x0 ≤ ra) = false := decide_eq_false h0
        clear h0
        rw [hd0] at HT1
        go_upto_region 7 with (fail)
        go_quiet (fail)
        go_wp2_with fail
        go_roundg (n.length - (kk + 1))
        case measure => omega
        case rel => exact ⟨kk + 1, by omega, Nat.le_refl _, rfl, by go_num, HT1, ⟨pw_below_drewN HBr.out nq⟩⟩
    · have hkl : kk = n.length := by omega
      subst hkl
      have hltz : ¬ ((n.length : Int) < (n.length : Int)) := by omega
      rw [List.take_length] at HNO
      go_wp2_with fail
      rw [HT.out, HC.out, HNO.out]
      exact ⟨rfl, below_step HB1.out HBr.out⟩
end Go.Proofs.Ytedmjfngpofoaaa.PSpanTells
