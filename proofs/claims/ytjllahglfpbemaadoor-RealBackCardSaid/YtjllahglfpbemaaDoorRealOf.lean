/- The float of four numbers, walked by hand. -/
import Derived.Test.YtjllahglfpbemaaDoorRealWalk
namespace Go.Proofs.YtjllahglfpbemaaDoor.Fl
open Go Go.RowKit Go.Proofs.YtjllahglfpbemaaDoorW.PrintWords Go.Proofs.YtjllahglfpbemaaDoor.Base
attribute [-go_sem] binOp_float_cmp_eql binOp_float_cmp_neq binOp_float_cmp_lss binOp_float_cmp_leq
attribute [local go_sem] f_eql f_neq f_lss f_leq bits_run frombits_run
set_option maxHeartbeats 8000000
set_option maxRecDepth 100000
/-- A number more behind. -/
def more (b n : Int) : Int := Go.bits .or .u64 (IntKind.u64.wrap (b * 65536)) n
/-- The float of numbers, from those that are left on. -/
def ofL : List Int → Int → Nat × Bool
  | [], b => (b.toNat, true)
  | n :: t, b => if n < 0 ∨ 65535 < n then (0, false) else ofL t (more b n)
def ofF (l : List Int) : Nat × Bool := if l.length = 4 then ofL l 0 else (0, false)
theorem of_calls (A0 : Option Addr) (c0 : Nat) (l0 : List Int) (w : World) (hr0 : Kd.C (Kd.int .i64) w A0 l0.length l0) :
    Calls Tryd.prog 22 #[.slice A0 l0.length c0] w fun e w' => e = .returned (.tuple #[.float .f64 (ofF l0).1, .bool (ofF l0).2]) ∧ Below w.heap.size w w' := by
  by_cases h4 : l0.length = 4
  · have HR0 := Aside0.mk hr0
    clear hr0
    obtain ⟨res, hres⟩ : ∃ res, res = ofF l0 := ⟨_, rfl⟩
    have HF := Aside0.mk (show res = ofL l0 0 by rw [hres]; unfold ofF; rw [if_pos h4])
    rw [← hres, h4]
    clear hres
    go_enter Tryd.func22, Tryd.ntmps22
    go_wp2
    go_loopg [4, 6, 12] 4 (fun gg s4 s6 s12 wr => ∃ (kk : Nat) (b : Int), kk ≤ 4 ∧ 4 - kk ≤ gg ∧ s12 = .int .i64 kk ∧ s4 = .int .u64 b ∧ Aside0 (Below w.heap.size w wr) ∧ Aside0 (res = ofL (l0.drop kk) b))
    case atStart => exact ⟨0, 0, Nat.zero_le _, by omega, rfl, rfl, ⟨Below.refl _ _⟩, ⟨HF.out⟩⟩
    case round =>
      obtain ⟨kk, b, hkk, hg, rfl, rfl, D, A⟩ := hrel
      by_cases hlt : kk < 4
      · have hltz : ((kk : Int) < 4) := by omega
        obtain ⟨ad, hA, hcell⟩ := Kd.at_int (Kd.C_below HR0.out D.out) (kk : Int) (by omega) (by omega)
        subst hA
        rw [Int.toNat_natCast] at hcell
        obtain ⟨y, hy⟩ : ∃ y, y = rd l0 (kk : Int) := ⟨_, rfl⟩
        rw [← hy] at hcell
        have HY := Aside0.mk hy
        clear hy
        have hd : l0.drop kk = y :: l0.drop (kk + 1) := by
          rw [HY.out]
          have : rd l0 (kk : Int) = l0[kk]'(by omega) := by simp [rd, List.getD_eq_getElem?_getD, List.getElem?_eq_getElem (show kk < l0.length by omega)]
          rw [this]; exact List.drop_eq_getElem_cons (by omega)
        have HD := Aside0.mk hd
        clear hd
        by_cases h0 : y < 0
        · have HX := Aside0.mk (show res = (0, false) by rw [A.out, HD.out]; exact if_pos (.inl h0))
          go_wp2
          go_ret2
          exact ⟨by rw [HX.out]; rfl, D.out⟩
        · by_cases h1 : y > 65535
          · have HX := Aside0.mk (show res = (0, false) by rw [A.out, HD.out]; exact if_pos (.inr h1))
            go_wp2
            go_ret2
            exact ⟨by rw [HX.out]; rfl, D.out⟩
          · have HX := Aside0.mk (show res = ofL (l0.drop (kk + 1)) (more b y) by rw [A.out, HD.out]; exact if_neg (by omega))
            go_wp2
            go_roundg (4 - (kk + 1))
            case measure => omega
            case rel =>
              refine ⟨kk + 1, more b y, by omega, by omega, by go_num, ?_, ⟨D.out⟩, ⟨HX.out⟩⟩
              rfl
      · have hltz : ¬ ((kk : Int) < 4) := by omega
        have HX := Aside0.mk (show res = (b.toNat, true) by rw [A.out, List.drop_of_length_le (by omega)]; rfl)
        go_wp2
        go_ret2
        exact ⟨by rw [HX.out]; rfl, D.out⟩
  · have h4z : ¬ (l0.length : Int) = 4 := by omega
    have HF := Aside0.mk (show ofF l0 = (0, false) by unfold ofF; rw [if_neg h4])
    go_enter Tryd.func22, Tryd.ntmps22
    go_wp2
    go_ret2
    exact ⟨by rw [HF.out]; rfl, Below.refl _ _⟩
end Go.Proofs.YtjllahglfpbemaaDoor.Fl
