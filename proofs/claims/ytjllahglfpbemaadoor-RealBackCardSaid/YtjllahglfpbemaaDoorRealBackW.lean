/- The law RealBack, walked by hand. -/
import Derived.Test.YtjllahglfpbemaaDoorRealAll
namespace Go.Proofs.YtjllahglfpbemaaDoor.Fl
open Go Go.RowKit Go.Proofs.YtjllahglfpbemaaDoorW.PrintWords Go.Proofs.YtjllahglfpbemaaDoorW.PrintLast Go.Proofs.YtjllahglfpbemaaDoorW.PrintMore Go.Proofs.YtjllahglfpbemaaDoor.Dbl Go.Proofs.YtjllahglfpbemaaDoor.PGuardTells
set_option maxHeartbeats 8000000
set_option maxRecDepth 100000
set_option linter.unusedVariables false
set_option linter.unusedSimpArgs false
attribute [-go_sem] binOp_float_cmp_eql binOp_float_cmp_neq binOp_float_cmp_lss binOp_float_cmp_leq binOp_float_cmp_gtr binOp_float_cmp_geq
attribute [local go_sem] f_eql f_neq f_lss f_leq f_gtr bits_run frombits_run neg_run
theorem rb_big (x : Nat) (A0 : Option Addr) (c0 : Nat) (l0 : List Int) (s : ByteArray) (w : World) (h : (100 : Int) < (s.size : Int) ∨ ¬ (100 : Int) < (s.size : Int) ∧ (9 : Int) < (l0.length : Int)) : Calls Tryd.prog 7 #[.float .f64 x, .slice A0 l0.length c0, .string s] w fun e w' => e = .returned (.bool true) ∧ Below w.heap.size w w' := by
  obtain ⟨T, hT⟩ : ∃ T : Ending → World → Prop, T = fun e w' => e = .returned (.bool true) ∧ Below w.heap.size w w' := ⟨_, rfl⟩
  have HT := Aside0.mk hT
  rw [← hT]
  clear hT
  rcases h with h | ⟨h1, h2⟩
  all_goals
    go_enter Tryd.func7, Tryd.ntmps7
    go_wp2_with fail
    refine (awake_calls _).mono ?_
    rintro e w1 ⟨rfl, b1⟩
    have B1 := Aside0.mk b1
    clear b1
    go_wp2_with fail
    rw [HT.out]
    exact ⟨rfl, B1.out⟩
/-- What the law's second half asks of texts. -/
structure Texts (x : Nat) (s t ws : ByteArray) (p q r q2 : Bool) (u v : Nat) : Prop where
  ct : ∀ W, Tab W → Calls Tryd.prog 17 #[.float .f64 x] W fun e w' => e = .returned (.tuple #[.string t, .bool p]) ∧ Below W.heap.size W w'
  cu : ∀ W, Calls Tryd.prog 19 #[.string t] W fun e w' => e = .returned (.tuple #[.float .f64 u, .bool q]) ∧ Below W.heap.size W w'
  cv : ∀ W, Calls Tryd.prog 19 #[.string s] W fun e w' => e = .returned (.tuple #[.float .f64 v, .bool r]) ∧ Below W.heap.size W w'
  cw : ∀ W, Tab W → Calls Tryd.prog 17 #[.float .f64 v] W fun e w' => e = .returned (.tuple #[.string ws, .bool q2]) ∧ Below W.heap.size W w'
  hp : (p = true ∧ q = true ∧ u = x) ∨ (p = false ∧ t = ⟨#[]⟩)
  hr : (r = true ∧ ws = s) ∨ r = false
theorem texts_of (x : Nat) (hx : x < 18446744073709551616) (s : ByteArray) (hs : s.size ≤ 1000) : ∃ t ws p q r q2 u v, Texts x s t ws p q r q2 u v := by
  have hlen : (textB x).1.length ≤ 1000 := by
    unfold textB signed
    split
    · split <;> decide
    · split
      · rename_i hc
        have := nDigits_M (n := whole (absF x)) (by have := whole_53 hc.1; omega)
        have h2 := Go.Lib.decDigits_length (whole (absF x))
        split <;> simp <;> omega
      · exact Nat.zero_le _
  have hu := fun W => read_calls (strOf (textB x).1) (by rw [size_list, strOf_list]; omega) W
  rw [strOf_list] at hu
  refine ⟨strOf (textB x).1, strOf (textB (readB s.data.toList).1).1, (textB x).2, (readB (textB x).1).2, (readB s.data.toList).2, (textB (readB s.data.toList).1).2, (readB (textB x).1).1, (readB s.data.toList).1, ?_⟩
  refine ⟨fun W hW => text_calls x hx W hW, hu, fun W => read_calls s (by omega) W, fun W hW => text_calls _ (readB_lt _) W hW, ?_, ?_⟩
  · cases hp : (textB x).2 with
    | true =>
      have hb := text_back hx hp
      exact .inl ⟨rfl, by rw [hb], by rw [hb]⟩
    | false => exact .inr ⟨rfl, by rw [text_empty hp]; rfl⟩
  · cases hr : (readB s.data.toList).2 with
    | true => exact .inl ⟨rfl, by rw [read_back hr]; exact ext_list (strOf_list _)⟩
    | false => exact .inr rfl
/-- What the law asks of numbers. -/
structure Nums (l0 : List Int) (z : Nat) (is qz : Bool) : Prop where
  co : ∀ W A0 c0, Kd.C (Kd.int .i64) W A0 l0.length l0 → Calls Tryd.prog 22 #[.slice A0 l0.length c0] W fun e w' => e = .returned (.tuple #[.float .f64 z, .bool is]) ∧ Below W.heap.size W w'
  ez : eqF z z = qz
  cr : is = true → qz = true → ∀ W, Calls Tryd.prog 23 #[.float .f64 z] W (Row4 W l0)
  ci : is = true → qz = true → ∀ W A0 c0 A1 c1, Kd.C (Kd.int .i64) W A0 l0.length l0 → l0.length ≤ c0 → Kd.C (Kd.int .i64) W A1 l0.length l0 → l0.length ≤ c1 → Calls Tryd.prog 25 #[.slice A0 l0.length c0, .slice A1 l0.length c1] W fun e w' => e = .returned (.bool true) ∧ Drawn0 W w'
theorem nums_of (l0 : List Int) : ∃ z is qz, Nums l0 z is qz := by
  refine ⟨(ofF l0).1, (ofF l0).2, eqF (ofF l0).1 (ofF l0).1, fun W A0 c0 h => of_calls A0 c0 l0 W h, rfl, fun h1 h2 W => ?_, fun h1 h2 W A0 c0 A1 c1 h3 h4 h5 h6 => ?_⟩
  · have h := regs_of h1 h2
    have hc := regs_calls (ofF l0).1 h.2.1 W
    rw [h.1] at hc
    exact hc
  · have h := (regs_of h1 h2).2.2
    refine gatewardenref01_Ints.calls 9 A0 c0 l0 A1 c1 l0 true W h3 h4 h5 h6 ?_
    match l0, h with
    | [a, b, c, d], _ => exact ints_four a b c d
theorem rb_main (x : Nat) (hx : x < 18446744073709551616) (A0 : Option Addr) (c0 : Nat) (l0 : List Int) (s : ByteArray) (w : World) (ht : Tab w) (hr0 : Kd.C (Kd.int .i64) w A0 l0.length l0) (hc0 : l0.length ≤ c0) (hs : ¬ (100 : Int) < (s.size : Int)) (hl : ¬ (9 : Int) < (l0.length : Int)) : Calls Tryd.prog 7 #[.float .f64 x, .slice A0 l0.length c0, .string s] w fun e w' => e = .returned (.bool true) ∧ Below w.heap.size w w' := by
  obtain ⟨T, hT⟩ : ∃ T : Ending → World → Prop, T = fun e w' => e = .returned (.bool true) ∧ Below w.heap.size w w' := ⟨_, rfl⟩
  have HT := Aside0.mk hT
  rw [← hT]
  clear hT
  obtain ⟨t, ws, p, q, r, q2, u, v, hTX⟩ := texts_of x hx s (by omega)
  obtain ⟨z, is, qz, hN⟩ := nums_of l0
  obtain ⟨y, hy, hy2, hy3⟩ := of_regs hx
  have HX := Aside0.mk hTX
  have HN := Aside0.mk hN
  have CR := Aside0.mk (fun W => regs_calls x hx W)
  have CO := Aside0.mk (fun W A c (hW : Kd.C (Kd.int .i64) W A (regsP x).length (regsP x)) => of_calls A c (regsP x) W hW)
  rw [hy] at CO
  have CS := Aside0.mk (fun W => same_calls x y W)
  rw [hy3] at CS
  have CRS := Aside0.mk (fun W => rsame_calls x y hx hy2 W)
  rw [hy3] at CRS
  have CSX := Aside0.mk (fun W => rsame_calls x x hx hx W)
  rw [same_self] at CSX
  have HR0 := Aside0.mk hr0
  have HC0 := Aside0.mk hc0
  have hpp := hTX.hp
  have hrr := hTX.hr
  have hez := hN.ez
  clear hTX hN hy hy2 hy3 hr0 hc0 hx
  have hcases : is = false ∨ (is = true ∧ qz = false) ∨ (is = true ∧ qz = true) := by cases is <;> cases qz <;> simp
  rcases hcases with rfl | ⟨rfl, rfl⟩ | ⟨rfl, rfl⟩
  · rcases hpp with ⟨rfl, rfl, rfl⟩ | ⟨rfl, rfl⟩
    · rcases hrr with ⟨rfl, rfl⟩ | rfl
      all_goals
        go_enter Tryd.func7, Tryd.ntmps7
        go_wp2_with fail
        refine (CR.out _).mono ?_
        rintro e w1 ⟨⟨A1, c1, rfl, hc1, hC1⟩, b1⟩
        have B1 := Aside0.mk b1
        have HC1 := Aside0.mk hC1
        clear b1 hC1 hc1
        go_wp2_with fail
        refine (CO.out _ _ _ HC1.out).mono ?_
        rintro e w2 ⟨rfl, b2⟩
        have B2 := Aside0.mk (below_step B1.out b2)
        clear b2 HC1
        go_wp2_with fail
        refine (CS.out _).mono ?_
        rintro e w3 ⟨rfl, b3⟩
        have B3 := Aside0.mk (below_step B2.out b3)
        clear b3
        go_wp2_with fail
        refine (CRS.out _).mono ?_
        rintro e w4 ⟨rfl, b4⟩
        have B4 := Aside0.mk (below_step B3.out b4)
        clear b4
        have HR4 := Aside0.mk (Kd.C_below HR0.out B4.out)
        go_wp2_with fail
        refine (HN.out.co _ _ _ HR4.out).mono ?_
        rintro e w5 ⟨rfl, b5⟩
        have B5 := Aside0.mk (below_step B4.out b5)
        have HR5 := Aside0.mk (Kd.C_below HR4.out b5)
        clear b5
        go_wp2_with fail
        refine (HX.out.ct _ (ht.on B5.out)).mono ?_
        rintro e w6 ⟨rfl, b6⟩
        have B6 := Aside0.mk (below_step B5.out b6)
        clear b6
        go_wp2_with fail
        refine (HX.out.cu _).mono ?_
        rintro e w7 ⟨rfl, b7⟩
        have B7 := Aside0.mk (below_step B6.out b7)
        clear b7
        go_wp2_with fail
        refine (HX.out.cv _).mono ?_
        rintro e w8 ⟨rfl, b8⟩
        have B8 := Aside0.mk (below_step B7.out b8)
        clear b8
        go_wp2_with fail
        refine (HX.out.cw _ (ht.on B8.out)).mono ?_
        rintro e w9 ⟨rfl, b9⟩
        have B9 := Aside0.mk (below_step B8.out b9)
        clear b9
        go_wp2_with fail
        refine (awake_calls _).mono ?_
        rintro e w10 ⟨rfl, b10⟩
        have B10 := Aside0.mk (below_step B9.out b10)
        clear b10
        go_wp2_with fail
        refine (CSX.out _).mono ?_
        rintro e w11 ⟨rfl, b11⟩
        have B11 := Aside0.mk (below_step B10.out b11)
        clear b11
        go_wp2_with fail
        rw [HT.out]
        exact ⟨rfl, B11.out⟩
    · rcases hrr with ⟨rfl, rfl⟩ | rfl
      all_goals
        go_enter Tryd.func7, Tryd.ntmps7
        go_wp2_with fail
        refine (CR.out _).mono ?_
        rintro e w1 ⟨⟨A1, c1, rfl, hc1, hC1⟩, b1⟩
        have B1 := Aside0.mk b1
        have HC1 := Aside0.mk hC1
        clear b1 hC1 hc1
        go_wp2_with fail
        refine (CO.out _ _ _ HC1.out).mono ?_
        rintro e w2 ⟨rfl, b2⟩
        have B2 := Aside0.mk (below_step B1.out b2)
        clear b2 HC1
        go_wp2_with fail
        refine (CS.out _).mono ?_
        rintro e w3 ⟨rfl, b3⟩
        have B3 := Aside0.mk (below_step B2.out b3)
        clear b3
        go_wp2_with fail
        refine (CRS.out _).mono ?_
        rintro e w4 ⟨rfl, b4⟩
        have B4 := Aside0.mk (below_step B3.out b4)
        clear b4
        have HR4 := Aside0.mk (Kd.C_below HR0.out B4.out)
        go_wp2_with fail
        refine (HN.out.co _ _ _ HR4.out).mono ?_
        rintro e w5 ⟨rfl, b5⟩
        have B5 := Aside0.mk (below_step B4.out b5)
        have HR5 := Aside0.mk (Kd.C_below HR4.out b5)
        clear b5
        go_wp2_with fail
        refine (HX.out.ct _ (ht.on B5.out)).mono ?_
        rintro e w6 ⟨rfl, b6⟩
        have B6 := Aside0.mk (below_step B5.out b6)
        clear b6
        go_wp2_with fail
        refine (HX.out.cu _).mono ?_
        rintro e w7 ⟨rfl, b7⟩
        have B7 := Aside0.mk (below_step B6.out b7)
        clear b7
        go_wp2_with fail
        refine (HX.out.cv _).mono ?_
        rintro e w8 ⟨rfl, b8⟩
        have B8 := Aside0.mk (below_step B7.out b8)
        clear b8
        go_wp2_with fail
        refine (HX.out.cw _ (ht.on B8.out)).mono ?_
        rintro e w9 ⟨rfl, b9⟩
        have B9 := Aside0.mk (below_step B8.out b9)
        clear b9
        go_wp2_with fail
        refine (awake_calls _).mono ?_
        rintro e w10 ⟨rfl, b10⟩
        have B10 := Aside0.mk (below_step B9.out b10)
        clear b10
        go_wp2_with fail
        rw [HT.out]
        exact ⟨rfl, B10.out⟩
  · rcases hpp with ⟨rfl, rfl, rfl⟩ | ⟨rfl, rfl⟩
    · rcases hrr with ⟨rfl, rfl⟩ | rfl
      all_goals
        go_enter Tryd.func7, Tryd.ntmps7
        go_wp2_with fail
        refine (CR.out _).mono ?_
        rintro e w1 ⟨⟨A1, c1, rfl, hc1, hC1⟩, b1⟩
        have B1 := Aside0.mk b1
        have HC1 := Aside0.mk hC1
        clear b1 hC1 hc1
        go_wp2_with fail
        refine (CO.out _ _ _ HC1.out).mono ?_
        rintro e w2 ⟨rfl, b2⟩
        have B2 := Aside0.mk (below_step B1.out b2)
        clear b2 HC1
        go_wp2_with fail
        refine (CS.out _).mono ?_
        rintro e w3 ⟨rfl, b3⟩
        have B3 := Aside0.mk (below_step B2.out b3)
        clear b3
        go_wp2_with fail
        refine (CRS.out _).mono ?_
        rintro e w4 ⟨rfl, b4⟩
        have B4 := Aside0.mk (below_step B3.out b4)
        clear b4
        have HR4 := Aside0.mk (Kd.C_below HR0.out B4.out)
        go_wp2_with fail
        refine (HN.out.co _ _ _ HR4.out).mono ?_
        rintro e w5 ⟨rfl, b5⟩
        have B5 := Aside0.mk (below_step B4.out b5)
        have HR5 := Aside0.mk (Kd.C_below HR4.out b5)
        clear b5
        go_wp2_with fail
        refine (HX.out.ct _ (ht.on B5.out)).mono ?_
        rintro e w6 ⟨rfl, b6⟩
        have B6 := Aside0.mk (below_step B5.out b6)
        clear b6
        go_wp2_with fail
        refine (HX.out.cu _).mono ?_
        rintro e w7 ⟨rfl, b7⟩
        have B7 := Aside0.mk (below_step B6.out b7)
        clear b7
        go_wp2_with fail
        refine (HX.out.cv _).mono ?_
        rintro e w8 ⟨rfl, b8⟩
        have B8 := Aside0.mk (below_step B7.out b8)
        clear b8
        go_wp2_with fail
        refine (HX.out.cw _ (ht.on B8.out)).mono ?_
        rintro e w9 ⟨rfl, b9⟩
        have B9 := Aside0.mk (below_step B8.out b9)
        clear b9
        go_wp2_with fail
        refine (awake_calls _).mono ?_
        rintro e w10 ⟨rfl, b10⟩
        have B10 := Aside0.mk (below_step B9.out b10)
        clear b10
        go_wp2_with fail
        refine (CSX.out _).mono ?_
        rintro e w11 ⟨rfl, b11⟩
        have B11 := Aside0.mk (below_step B10.out b11)
        clear b11
        go_wp2_with fail
        rw [HT.out]
        exact ⟨rfl, B11.out⟩
    · rcases hrr with ⟨rfl, rfl⟩ | rfl
      all_goals
        go_enter Tryd.func7, Tryd.ntmps7
        go_wp2_with fail
        refine (CR.out _).mono ?_
        rintro e w1 ⟨⟨A1, c1, rfl, hc1, hC1⟩, b1⟩
        have B1 := Aside0.mk b1
        have HC1 := Aside0.mk hC1
        clear b1 hC1 hc1
        go_wp2_with fail
        refine (CO.out _ _ _ HC1.out).mono ?_
        rintro e w2 ⟨rfl, b2⟩
        have B2 := Aside0.mk (below_step B1.out b2)
        clear b2 HC1
        go_wp2_with fail
        refine (CS.out _).mono ?_
        rintro e w3 ⟨rfl, b3⟩
        have B3 := Aside0.mk (below_step B2.out b3)
        clear b3
        go_wp2_with fail
        refine (CRS.out _).mono ?_
        rintro e w4 ⟨rfl, b4⟩
        have B4 := Aside0.mk (below_step B3.out b4)
        clear b4
        have HR4 := Aside0.mk (Kd.C_below HR0.out B4.out)
        go_wp2_with fail
        refine (HN.out.co _ _ _ HR4.out).mono ?_
        rintro e w5 ⟨rfl, b5⟩
        have B5 := Aside0.mk (below_step B4.out b5)
        have HR5 := Aside0.mk (Kd.C_below HR4.out b5)
        clear b5
        go_wp2_with fail
        refine (HX.out.ct _ (ht.on B5.out)).mono ?_
        rintro e w6 ⟨rfl, b6⟩
        have B6 := Aside0.mk (below_step B5.out b6)
        clear b6
        go_wp2_with fail
        refine (HX.out.cu _).mono ?_
        rintro e w7 ⟨rfl, b7⟩
        have B7 := Aside0.mk (below_step B6.out b7)
        clear b7
        go_wp2_with fail
        refine (HX.out.cv _).mono ?_
        rintro e w8 ⟨rfl, b8⟩
        have B8 := Aside0.mk (below_step B7.out b8)
        clear b8
        go_wp2_with fail
        refine (HX.out.cw _ (ht.on B8.out)).mono ?_
        rintro e w9 ⟨rfl, b9⟩
        have B9 := Aside0.mk (below_step B8.out b9)
        clear b9
        go_wp2_with fail
        refine (awake_calls _).mono ?_
        rintro e w10 ⟨rfl, b10⟩
        have B10 := Aside0.mk (below_step B9.out b10)
        clear b10
        go_wp2_with fail
        rw [HT.out]
        exact ⟨rfl, B10.out⟩
  · rcases hpp with ⟨rfl, rfl, rfl⟩ | ⟨rfl, rfl⟩
    · rcases hrr with ⟨rfl, rfl⟩ | rfl
      all_goals
        go_enter Tryd.func7, Tryd.ntmps7
        go_wp2_with fail
        refine (CR.out _).mono ?_
        rintro e w1 ⟨⟨A1, c1, rfl, hc1, hC1⟩, b1⟩
        have B1 := Aside0.mk b1
        have HC1 := Aside0.mk hC1
        clear b1 hC1 hc1
        go_wp2_with fail
        refine (CO.out _ _ _ HC1.out).mono ?_
        rintro e w2 ⟨rfl, b2⟩
        have B2 := Aside0.mk (below_step B1.out b2)
        clear b2 HC1
        go_wp2_with fail
        refine (CS.out _).mono ?_
        rintro e w3 ⟨rfl, b3⟩
        have B3 := Aside0.mk (below_step B2.out b3)
        clear b3
        go_wp2_with fail
        refine (CRS.out _).mono ?_
        rintro e w4 ⟨rfl, b4⟩
        have B4 := Aside0.mk (below_step B3.out b4)
        clear b4
        have HR4 := Aside0.mk (Kd.C_below HR0.out B4.out)
        go_wp2_with fail
        refine (HN.out.co _ _ _ HR4.out).mono ?_
        rintro e w5 ⟨rfl, b5⟩
        have B5 := Aside0.mk (below_step B4.out b5)
        have HR5 := Aside0.mk (Kd.C_below HR4.out b5)
        clear b5
        go_wp2_with fail
        refine (HN.out.cr rfl rfl _).mono ?_
        rintro e w6 ⟨⟨A6, c6, rfl, hc6, hC6⟩, b6⟩
        have B6 := Aside0.mk (below_step B5.out b6)
        have HC6 := Aside0.mk hC6
        have HR6 := Aside0.mk (Kd.C_below HR5.out b6)
        clear b6 hC6
        go_wp2_with fail
        refine (HN.out.ci rfl rfl _ _ _ _ _ HC6.out hc6 HR6.out HC0.out).mono ?_
        rintro e w7 ⟨rfl, b7⟩
        have B7 := Aside0.mk (below_step B6.out b7.below)
        clear b7 hc6
        go_wp2_with fail
        refine (HX.out.ct _ (ht.on B7.out)).mono ?_
        rintro e w8 ⟨rfl, b8⟩
        have B8 := Aside0.mk (below_step B7.out b8)
        clear b8
        go_wp2_with fail
        refine (HX.out.cu _).mono ?_
        rintro e w9 ⟨rfl, b9⟩
        have B9 := Aside0.mk (below_step B8.out b9)
        clear b9
        go_wp2_with fail
        refine (HX.out.cv _).mono ?_
        rintro e w10 ⟨rfl, b10⟩
        have B10 := Aside0.mk (below_step B9.out b10)
        clear b10
        go_wp2_with fail
        refine (HX.out.cw _ (ht.on B10.out)).mono ?_
        rintro e w11 ⟨rfl, b11⟩
        have B11 := Aside0.mk (below_step B10.out b11)
        clear b11
        go_wp2_with fail
        refine (awake_calls _).mono ?_
        rintro e w12 ⟨rfl, b12⟩
        have B12 := Aside0.mk (below_step B11.out b12)
        clear b12
        go_wp2_with fail
        refine (CSX.out _).mono ?_
        rintro e w13 ⟨rfl, b13⟩
        have B13 := Aside0.mk (below_step B12.out b13)
        clear b13
        go_wp2_with fail
        rw [HT.out]
        exact ⟨rfl, B13.out⟩
    · rcases hrr with ⟨rfl, rfl⟩ | rfl
      all_goals
        go_enter Tryd.func7, Tryd.ntmps7
        go_wp2_with fail
        refine (CR.out _).mono ?_
        rintro e w1 ⟨⟨A1, c1, rfl, hc1, hC1⟩, b1⟩
        have B1 := Aside0.mk b1
        have HC1 := Aside0.mk hC1
        clear b1 hC1 hc1
        go_wp2_with fail
        refine (CO.out _ _ _ HC1.out).mono ?_
        rintro e w2 ⟨rfl, b2⟩
        have B2 := Aside0.mk (below_step B1.out b2)
        clear b2 HC1
        go_wp2_with fail
        refine (CS.out _).mono ?_
        rintro e w3 ⟨rfl, b3⟩
        have B3 := Aside0.mk (below_step B2.out b3)
        clear b3
        go_wp2_with fail
        refine (CRS.out _).mono ?_
        rintro e w4 ⟨rfl, b4⟩
        have B4 := Aside0.mk (below_step B3.out b4)
        clear b4
        have HR4 := Aside0.mk (Kd.C_below HR0.out B4.out)
        go_wp2_with fail
        refine (HN.out.co _ _ _ HR4.out).mono ?_
        rintro e w5 ⟨rfl, b5⟩
        have B5 := Aside0.mk (below_step B4.out b5)
        have HR5 := Aside0.mk (Kd.C_below HR4.out b5)
        clear b5
        go_wp2_with fail
        refine (HN.out.cr rfl rfl _).mono ?_
        rintro e w6 ⟨⟨A6, c6, rfl, hc6, hC6⟩, b6⟩
        have B6 := Aside0.mk (below_step B5.out b6)
        have HC6 := Aside0.mk hC6
        have HR6 := Aside0.mk (Kd.C_below HR5.out b6)
        clear b6 hC6
        go_wp2_with fail
        refine (HN.out.ci rfl rfl _ _ _ _ _ HC6.out hc6 HR6.out HC0.out).mono ?_
        rintro e w7 ⟨rfl, b7⟩
        have B7 := Aside0.mk (below_step B6.out b7.below)
        clear b7 hc6
        go_wp2_with fail
        refine (HX.out.ct _ (ht.on B7.out)).mono ?_
        rintro e w8 ⟨rfl, b8⟩
        have B8 := Aside0.mk (below_step B7.out b8)
        clear b8
        go_wp2_with fail
        refine (HX.out.cu _).mono ?_
        rintro e w9 ⟨rfl, b9⟩
        have B9 := Aside0.mk (below_step B8.out b9)
        clear b9
        go_wp2_with fail
        refine (HX.out.cv _).mono ?_
        rintro e w10 ⟨rfl, b10⟩
        have B10 := Aside0.mk (below_step B9.out b10)
        clear b10
        go_wp2_with fail
        refine (HX.out.cw _ (ht.on B10.out)).mono ?_
        rintro e w11 ⟨rfl, b11⟩
        have B11 := Aside0.mk (below_step B10.out b11)
        clear b11
        go_wp2_with fail
        refine (awake_calls _).mono ?_
        rintro e w12 ⟨rfl, b12⟩
        have B12 := Aside0.mk (below_step B11.out b12)
        clear b12
        go_wp2_with fail
        rw [HT.out]
        exact ⟨rfl, B12.out⟩
theorem RealBack_calls (x : Nat) (hx : x < 18446744073709551616) (A0 : Option Addr) (c0 : Nat) (l0 : List Int) (s : ByteArray) (w : World) (ht : Tab w) (hr0 : Kd.C (Kd.int .i64) w A0 l0.length l0) (hc0 : l0.length ≤ c0) : Calls Tryd.prog 7 #[.float .f64 x, .slice A0 l0.length c0, .string s] w fun e w' => e = .returned (.bool true) ∧ Below w.heap.size w w' := by
  by_cases h : (100 : Int) < (s.size : Int)
  · exact rb_big x A0 c0 l0 s w (.inl h)
  by_cases h2 : (9 : Int) < (l0.length : Int)
  · exact rb_big x A0 c0 l0 s w (.inr ⟨h, h2⟩)
  · exact rb_main x hx A0 c0 l0 s w ht hr0 hc0 h h2
end Go.Proofs.YtjllahglfpbemaaDoor.Fl
