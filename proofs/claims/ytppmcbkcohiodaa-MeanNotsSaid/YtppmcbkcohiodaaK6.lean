/- Texts of this claim, put together (wip/pack.py): SpanNorm. -/
import Derived.Test.YtppmcbkcohiodaaK5
import Derived.Test.YtppmcbkcohiodaaK2
import Derived.Shelf.SlSortCmp.NoneTotal
namespace Go.Proofs.Ytppmcbkcohiodaa.PMeanTells
open Go Go.RowKit Go.Proofs.YtppmcbkcohiodaaW.PrintWords Go.Proofs.YtppmcbkcohiodaaW.PrintLast Go.Proofs.YtppmcbkcohiodaaW.PrintMore Go.Proofs.Ytppmcbkcohiodaa.Spans Go.Proofs.Ytppmcbkcohiodaa.Base
attribute [local go_sem] max2_int min2_int max_two min_two
set_option maxHeartbeats 2000000
set_option maxRecDepth 100000
set_option linter.unusedVariables false
set_option linter.unusedSimpArgs false
theorem bcell {W w1 : World} (hb : Below W.heap.size W w1) : (∀ b o, b < W.heap.size → w1.cell? ⟨b, o, none⟩ = W.cell? ⟨b, o, none⟩) ∧ (∀ b o, b < W.heap.size → w1.frozen? ⟨b, o, none⟩ = W.frozen? ⟨b, o, none⟩) :=
  ⟨fun b o h => hb.cell (p := ⟨b, o, none⟩) h, fun b o h => hb.frozen (p := ⟨b, o, none⟩) h⟩
/-- A block's ranges, as the printed texts have rows. -/
theorem own_R {w : World} {base g cap : Nat} {ok : Nat → Prop} {l : List R} {rest : List Value} (h : Own w g l rest) (hb : base ≤ g) (hok : ok g) (hc : l.length ≤ cap) (hm : cap ≤ maxLen) (hs : (flatR l ++ rest).length = cap * 2) : Kd.R k55 55 w base ok (.slice (some ⟨g, 0, none⟩) l.length cap) l := by
  refine ⟨fun k hk => (by injection hk with hk; exact hk ▸ hok), flatR l, ⟨flatR_length l, .inr ⟨g, cap, (flatR l ++ rest).toArray, rfl, hb, h, hc, hm, (by show (flatR l ++ rest).toArray.size = cap * 2; simpa using hs), ?_⟩⟩, flatR_length l, fun j p hp => ?_⟩
  · show (flatR l ++ rest).take (l.length * 2) = _
    rw [← flatR_length, List.take_left']
    rfl
  · obtain ⟨hj, rfl⟩ := List.getElem?_eq_some_iff.1 hp
    have e : ((flatR l).drop (j * k55.sz)).take k55.sz = [.int .i64 l[j].f0, .int .i64 l[j].f1] := by
      show ((flatR l).drop (j * 2)).take 2 = _
      have e : l = l.take j ++ l[j] :: l.drop (j + 1) := by rw [List.getElem_cons_drop, List.take_append_drop]
      have hl : (flatR (l.take j)).length = j * 2 := by rw [flatR_length, List.length_take]; omega
      conv => lhs; rw [e, flatR_append]
      rw [List.drop_left' hl]
      rfl
    rw [e]
    exact k55_mkM _ _ _ _
theorem own_of' {w : World} {base : Nat} {ok : Nat → Prop} {v : Value} {l : List R} (h : Kd.R k55 55 w base ok v l) (hl : l ≠ []) : ∃ g cap rest, v = .slice (some ⟨g, 0, none⟩) l.length cap ∧ base ≤ g ∧ ok g ∧ l.length ≤ cap ∧ cap ≤ maxLen ∧ (flatR l ++ rest).length = cap * 2 ∧ Own w g l rest := by
  rcases own_of h with ⟨rfl, h0⟩ | ⟨g, cap, rest, rfl, h1, h2, h3, h4, h5⟩
  · exact absurd h0 hl
  · refine ⟨g, cap, rest, rfl, h1, h2, h3, ?_, h4, h5⟩
    obtain ⟨_, inner, ⟨hi, ⟨h6, _⟩ | ⟨g', cap', cur, e, _, _, _, hm, _⟩⟩, _⟩ := h
    · cases h6
    · cases e; exact hm
theorem Own.set1 {w : World} {g : Nat} {l : List R} {rest : List Value} (h : Own w g l rest) (i : Nat) (hi : i < l.length) (y : Int) : Own (w.setCell ⟨g, i * 2 + 1, none⟩ (.int .i64 y)) g (l.set i ⟨l[i].f0, y⟩) rest := by
  have e : l = l.take i ++ l[i] :: l.drop (i + 1) := by rw [List.getElem_cons_drop, List.take_append_drop]
  have hl : (flatR (l.take i) ++ [Value.int .i64 l[i].f0]).length = i * 2 + 1 := by rw [List.length_append, flatR_length, List.length_take]; simp; omega
  have e1 : flatR l ++ rest = (flatR (l.take i) ++ [.int .i64 l[i].f0]) ++ [.int .i64 l[i].f1] ++ (flatR (l.drop (i + 1)) ++ rest) := by
    conv => lhs; rw [e, flatR_append]
    simp [flatR]
  have e2 : flatR (l.set i ⟨l[i].f0, y⟩) ++ rest = (flatR (l.take i) ++ [.int .i64 l[i].f0]) ++ [.int .i64 y] ++ (flatR (l.drop (i + 1)) ++ rest) := by
    rw [List.set_eq_take_append_cons_drop, if_pos hi, flatR_append]
    simp [flatR]
  unfold Own at h ⊢
  rw [e1] at h
  have h2 := setL_mid [.int .i64 y] [.int .i64 l[i].f1] (flatR (l.take i) ++ [.int .i64 l[i].f0]) (flatR (l.drop (i + 1)) ++ rest) rfl h
  rw [hl] at h2
  rw [e2]
  exact h2
theorem C_move {w w' : World} {g n : Nat} {l : List R} (h : Kd.C k55 w (some ⟨g, 0, none⟩) n l) (hh : w'.heap[g]? = w.heap[g]?) : Kd.C k55 w' (some ⟨g, 0, none⟩) n l := by
  refine ⟨h.1, h.2.1, fun hn => ?_⟩
  obtain ⟨ad, e, h3⟩ := h.2.2 hn
  cases e
  refine ⟨_, rfl, fun j p hp => ?_⟩
  obtain ⟨c, h4, h5, h6⟩ := h3 j p hp
  obtain rfl := k55_open h5
  refine ⟨_, h4, k55_mk _ _, fun i u hu => ?_⟩
  have := h6 i u hu
  unfold World.cell? at this ⊢
  have hbk : (((⟨g, 0, none⟩ : Addr).add (j * k55.sz + i))).block = g := by unfold Addr.add; split <;> rfl
  rw [hbk] at this ⊢
  rw [hh]
  exact this
theorem pred1 : PredAny 83 (fun r => decide (r.f0 > r.f1)) := by
  intro W x
  obtain ⟨x0, x1⟩ := x
  simp only
  have HB : Aside0 (Below W.heap.size W (W.alloc (.cells #[.int .i64 x0, .int .i64 x1] 55))) := ⟨below_alloc (Below.refl _ _) _⟩
  by_cases h1 : x0 > x1
  · have e1 : decide (x0 > x1) = true := decide_eq_true h1
    go_enter Try.func83, Try.ntmps83
    go_wp2
    go_ret
    exact ⟨by rw [e1]; rfl, HB.out⟩
  · have e1 : decide (x0 > x1) = false := decide_eq_false h1
    go_enter Try.func83, Try.ntmps83
    go_wp2
    go_ret
    exact ⟨rfl, HB.out⟩
theorem DeleteNil {p : R → Bool} (gf : Nat) (cap : Nat) (w : World) (eg : ∀ args w, (callFunc gf args).run Try.prog w = .ok (.enter gf args) w) (hp : PredAny gf p) :
    Calls Try.prog 81 #[.slice none 0 0, .func (.func gf) #[] #[]] w fun e w' => e = .returned (.slice none 0 0) ∧ Below w.heap.size w w' := by
  have HI := Aside0.mk (IndexFuncR none 0 [] gf #[] p w (Kd.C_nil _ _) (by simp) eg (fun W x _ => hp W x))
  clear hp eg
  go_enter Try.func81, Try.ntmps81
  go_wp2_with fail
  refine HI.out.mono ?_
  rintro e w1 ⟨rfl, hb⟩
  have HB := Aside0.mk hb
  clear hb
  go_wp2_with fail
  go_ret
  exact ⟨rfl, HB.out⟩
/-- What Norm walks over: sorted ranges. -/
def Over (s : List R) (A : Option Addr) (w' : World) : Prop := (A = none ∧ s = []) ∨ ∃ g, A = some ⟨g, 0, none⟩ ∧ g < w'.heap.size ∧ Kd.C k55 w' (some ⟨g, 0, none⟩) s.length s
theorem Over.move {s : List R} {A : Option Addr} {w w' : World} (h : Over s A w) (hs : w.heap.size ≤ w'.heap.size) (hh : ∀ g, A = some ⟨g, 0, none⟩ → w'.heap[g]? = w.heap[g]?) : Over s A w' := by
  rcases h with h | ⟨g, h1, h2, h3⟩
  · exact .inl h
  · exact .inr ⟨g, h1, by omega, C_move h3 (hh g h1)⟩
theorem Over.C {s : List R} {A : Option Addr} {w : World} (h : Over s A w) : Kd.C k55 w A s.length s := by
  rcases h with ⟨rfl, rfl⟩ | ⟨g, rfl, _, h3⟩
  · exact Kd.C_nil _ _
  · exact h3
theorem Over.lt {s : List R} {A : Option Addr} {w : World} (h : Over s A w) {g : Nat} (hA : A = some ⟨g, 0, none⟩) : g < w.heap.size := by
  rcases h with ⟨rfl, rfl⟩ | ⟨g', rfl, h2, _⟩
  · cases hA
  · injection hA with hA; injection hA with hA; omega
def NormTold (w : World) (l : List R) (e : Ending) (w' : World) : Prop := ∃ v out, e = .returned v ∧ Kd.R k55 55 w' w.heap.size (fun _ => True) v out ∧ NormOf l out ∧ Below w.heap.size w w'
abbrev struck (l : List R) : List R := l.filter fun r => !decide (r.f0 > r.f1)
/-- Behind the striking. -/
def Mid (w : World) (l : List R) (v : Value) (w' : World) : Prop := Below w.heap.size w w' ∧ ((v = .slice none 0 0 ∧ l = []) ∨ ∃ g cap rest, v = .slice (some ⟨g, 0, none⟩) l.length cap ∧ w.heap.size ≤ g ∧ Own w' g l rest)
def SortTold (w : World) (l : List R) (v : Value) (w' : World) : Prop := Below w.heap.size w w' ∧ ∃ (s : List R) (A : Option Addr) (cap : Nat), v = .slice A s.length cap ∧ s.Perm l ∧ s.Pairwise (fun a b => a.f0 ≤ b.f0) ∧ Over s A w'
theorem ite_max (a b : Int) : (if a < b then b else a) = max a b := by split <;> omega
theorem wpred (a : Int) : IntKind.i64.wrap (a - 1) = wrap64 (a - 1) := i64_w _
theorem span_Norm_calls (A0 : Option Addr) (c0 : Nat) (l0 : List R) (w : World) (hr0 : Kd.C k55 w A0 l0.length l0) (hm : l0.length ≤ 1000000) (hf : Fit l0) :
    Calls Try.prog 71 #[.slice A0 l0.length c0] w (NormTold w l0) := by
  have eg : ∀ args w, (callFunc 83 args).run Try.prog w = .ok (.enter 83 args) w := fun args w => enters_ Try.func83 (by kernel_rfl) rfl args w
  have EG := Aside0.mk eg
  clear eg
  obtain ⟨T, hT⟩ : ∃ T, T = NormTold w l0 := ⟨_, rfl⟩
  have HT := Aside0.mk hT
  rw [← hT]
  clear hT
  have HC := Aside0.mk (CloneR A0 c0 l0 w hr0 (by omega))
  have HF := Aside0.mk hf
  clear hr0 hf
  go_enter Try.func71, Try.ntmps71
  go_upto_region 1 with (fail)
  go_cut [3] from 8 to 10 (fun s3 wr => Mid w (struck l0) s3 wr)
  case first =>
    go_wp2_with fail
    refine HC.out.mono ?_
    rintro e w1 ⟨v, rfl, hR, hb⟩
    have HB := Aside0.mk hb
    clear hb
    rcases own_of hR with ⟨rfl, rfl⟩ | ⟨g, cap, rest, rfl, h1, _, h2, h3, h4⟩
    · clear hR
      go_wp2_with fail
      refine (DeleteNil 83 0 _ EG.out pred1).mono ?_
      rintro e w2 ⟨rfl, hb⟩
      have HB2 := Aside0.mk (below_step HB.out hb)
      clear hb
      go_wp2_with fail
      go_meet
      case rel => exact ⟨HB2.out, .inl ⟨rfl, rfl⟩⟩
    · have HO := Aside0.mk h4
      clear hR h3 h4
      go_wp2_with fail
      refine (DeleteFuncR g cap l0 rest 83 (fun r => decide (r.f0 > r.f1)) _ HO.out (by omega) h2 EG.out pred1).mono ?_
      rintro e w2 ⟨rfl, ⟨rest', hO, _⟩, hb⟩
      have HB2 := Aside0.mk (HB.out.trans (hb _ h1))
      have HO2 := Aside0.mk hO
      clear hb hO
      go_wp2_with fail
      go_meet
      case rel => exact ⟨HB2.out, .inr ⟨g, cap, rest', rfl, h1, HO2.out⟩⟩
  case rest =>
  obtain ⟨HBm, hmid⟩ := hcut
  have HM := Aside0.mk hmid
  have HBM := Aside0.mk HBm
  clear hmid HBm HC
  go_upto_region 2 with (fail)
  go_cut [] from 11 to 12 (fun wr => SortTold w (struck l0) u3 wr)
  case first =>
    have hm2 : (struck l0).length ≤ 1099511627776 := by have := List.length_filter_le (fun r : R => !decide (r.f0 > r.f1)) l0; show ((l0.filter fun r => !decide (r.f0 > r.f1))).length ≤ _; omega
    have HM2 := Aside0.mk hm2
    clear hm2
    rcases HM.out with ⟨hv, he⟩ | ⟨g, cap, rest, hv, h1, hO⟩
    · subst hv
      have HE := Aside0.mk he
      clear he
      go_wp2_with fail
      refine (AnyF.slices_SortFunc_none Try.sortR none 0 _ _).mono ?_
      rintro e w2 ⟨rfl, rfl⟩
      go_wp2_with fail
      go_meet
      case rel => exact ⟨HBM.out, [], none, 0, rfl, by rw [HE.out], List.Pairwise.nil, .inl ⟨rfl, rfl⟩⟩
    · subst hv
      have HO := Aside0.mk hO
      clear hO
      go_wp2_with fail
      refine (SortFuncR g cap (struck l0) rest _ HO.out HM2.out).mono ?_
      rintro e w2 ⟨rfl, s, hsl, hsp, hss, hC, hb⟩
      have HS := Aside0.mk (And.intro hsl (And.intro hsp (And.intro hss (And.intro hC hb))))
      clear hsl hsp hss hC hb
      go_wp2_with fail
      go_meet
      case rel =>
        obtain ⟨hsl, hsp, hss, hC, hb⟩ := HS.out
        exact ⟨HBM.out.trans (hb _ h1), s, some ⟨g, 0, none⟩, cap, by rw [hsl], hsp, hss, .inr ⟨g, rfl, Nat.lt_of_lt_of_le HO.out.lt (hb g (Nat.le_refl _)).size, hC⟩⟩
  case rest =>
  obtain ⟨hB, s, A, cap, hv, hperm, hsort, hover⟩ := hcut
  subst hv
  have HB := Aside0.mk hB
  have HP := Aside0.mk hperm
  have HS := Aside0.mk hsort
  have HO := Aside0.mk hover
  have hlen : s.length ≤ 1000000 := by
    have h1 := hperm.length_eq
    have h2 := List.length_filter_le (fun r : R => !decide (r.f0 > r.f1)) l0
    have h3 : (struck l0).length ≤ l0.length := h2
    omega
  have HFS := Aside0.mk (show Fit s from fun x hx => HF.out x (List.mem_filter.1 (hperm.mem_iff.1 hx)).1)
  clear hB hperm hsort hover HM HBM
  go_wp2_with fail
  go_loopg [4, 6, 7, 15] s.length (fun gg s4 _ _ s15 wr => ∃ (kk : Nat) (v : Value), kk ≤ s.length ∧ s.length - kk ≤ gg ∧ s4 = v ∧ s15 = .int .i64 (kk : Int) ∧ Aside0 (((s.take kk).foldl stepR []).length ≤ kk) ∧ Aside0 (Fit ((s.take kk).foldl stepR [])) ∧ Aside0 (Kd.R k55 55 wr w.heap.size (fun k => A ≠ some ⟨k, 0, none⟩) v ((s.take kk).foldl stepR [])) ∧ Aside0 (Over s A wr) ∧ Aside0 (Below w.heap.size w wr))
  case atStart => exact ⟨0, _, Nat.zero_le _, by omega, rfl, rfl, ⟨Nat.le_refl _⟩, ⟨fun x hx => by cases hx⟩, ⟨Kd.R_nil _ _ _ _ _⟩, HO, HB⟩
  case round =>
    obtain ⟨kk, v, hkk, hgg, rfl, rfl, HLO, HFO, HR, HOv, HBr⟩ := hrel
    by_cases hlt : kk < s.length
    · have hltz : (kk : Int) < (s.length : Int) := by omega
      rcases HOv.out with ⟨_, hs0⟩ | ⟨g, hA, hgl, hC⟩
      · rw [hs0] at hlt; simp at hlt
      subst hA
      obtain ⟨ad, hA, c0, c1⟩ := at_T55 hC (kk : Int) (by omega) (by omega)
      cases hA
      rw [Int.toNat_natCast] at c0 c1
      obtain ⟨x, hx⟩ : ∃ x, x = rd_T55 s (kk : Int) := ⟨_, rfl⟩
      rw [← hx] at c0 c1
      have hx' : x = s[kk] := by rw [hx]; simp [rd_T55, List.getD_eq_getElem?_getD, List.getElem?_eq_getElem hlt]
      have HX := Aside0.mk (show s.take (kk + 1) = s.take kk ++ [x] from by rw [hx', List.take_succ_eq_append_getElem hlt])
      have HXF := Aside0.mk (HFS.out x (by rw [hx']; exact List.getElem_mem hlt))
      clear hx hx' hC
      have ha : (⟨g, 0, none⟩ : Addr).add (kk * 2) = ⟨g, kk * 2, none⟩ := by
        unfold Addr.add
        split
        · rename_i e; simp only [e]
        · simp
      rw [ha] at c0 c1
      clear ha
      simp only at c1
      obtain ⟨x0, x1⟩ := x
      simp only at c0 c1
      generalize hout : (s.take kk).foldl stepR [] = out at HLO HFO HR
      have HOUT := Aside0.mk (show (s.take (kk + 1)).foldl stepR [] = stepR out ⟨x0, x1⟩ from by rw [HX.out, List.foldl_append, hout]; rfl)
      clear hout HX
      obtain ⟨A2, c2, rfl⟩ := Kd.R_slice HR.out
      have HBA := Aside0.mk (below_alloc (Below.refl _ wr) (.cells #[.int .i64 x0, .int .i64 x1] 55))
      have HN := Aside0.mk (blk_new wr (.cells #[.int .i64 x0, .int .i64 x1] 55))
      have HO0 := Aside0.mk (HOv.out.move HBA.out.size (fun g' hg' => HBA.out.block g' (HOv.out.lt hg')))
      have HR0 := Aside0.mk (Kd.R_below HR.out HBA.out)
      have HB0 := Aside0.mk (below_step HBr.out HBA.out)
      rcases List.eq_nil_or_concat out with rfl | ⟨init, q, rfl⟩
      · skip
        go_upto_region 8 with (fail)
        obtain ⟨rb, hrb⟩ : ∃ rb, rb = wr.heap.size := ⟨_, rfl⟩
        rw [← hrb] at HN ⊢
        clear hrb
        generalize wr.alloc (.cells #[.int .i64 x0, .int .i64 x1] 55) = w0 at HN HO0 HR0 HB0 HBA ⊢
        have lrb := blk_lt HN.out
        have r0 : w0.cell? ⟨rb, 0, none⟩ = some (.int .i64 x0) := blk_cell HN.out 0
        have r1 : w0.cell? ⟨rb, 1, none⟩ = some (.int .i64 x1) := blk_cell HN.out 1
        clear c0 c1
        refine reg_start (List.range 25) 25 (fun w' => Below w0.heap.size w0 w') (by kernel_rfl) rfl (below_drew1 (Below.refl _ _)) (fun hHeld => ?_)
        generalize w0.drew = w1 at hHeld ⊢
        repeat (first | (refine reg_pure (v := ?_) (a' := ?_) rfl rfl rfl (by kernel_rfl) (fun _ _ _ h => h) (by rfl) ?_ ?_ ?_; rotate_left; (solve | (intro w'; go_simp; with_reducible rfl)); rotate_left; (solve | (simp only [Act.put, List.setIfInBounds_toArray, List.set_cons_zero, List.set_cons_succ, i64_w, i32_w]; rfl))) | (refine reg_skip (a' := ?_) rfl rfl rfl (by rfl) (by kernel_rfl) (fun _ _ _ h => h) ?_ ?_; rotate_left; (solve | (simp only [Act.put, List.setIfInBounds_toArray, List.set_cons_zero, List.set_cons_succ, i64_w, i32_w]; rfl))) | (refine reg_load (v := ?_) (a' := ?_) rfl rfl rfl (by kernel_rfl) (fun _ _ _ h => h) (by rfl) ?_ hHeld ?_ ?_; rotate_left; (solve | (intro w' hb'; obtain ⟨hc', hf'⟩ := bcell hb'; clear hb'; go_simp; with_reducible rfl)); rotate_left; (solve | (simp only [Act.put, List.setIfInBounds_toArray, List.set_cons_zero, List.set_cons_succ, i64_w, i32_w]; rfl)); intro hHeld))
        refine reg_done (by kernel_rfl) ?_
        have HN1 := Aside0.mk (blk_below HN.out hHeld)
        have HR1 := Aside0.mk (Kd.R_below HR0.out hHeld)
        have HB1 := Aside0.mk (below_step HB0.out hHeld)
        have HO1 := Aside0.mk (HO0.out.move hHeld.size (fun g' hg' => hHeld.block g' (HO0.out.lt hg')))
        clear hHeld r0 r1 HN HR0 HB0 HO0 HBA
        have r0 : w1.cell? ⟨rb, 0, none⟩ = some (.int .i64 x0) := blk_cell HN1.out 0
        have r1 : w1.cell? ⟨rb, 1, none⟩ = some (.int .i64 x1) := blk_cell HN1.out 1
        go_wp2_with ((with_reducible refine gate_builtin (b := .append) (xs := #[.tmp 60, .tmp 62]) rfl ?_); at_builtin; go_loud (refine Kd.R_append k55 (w0 := w) w.heap.size rfl (.tmp 60) (.tmp 62) 22 55 (.agg #[.int .i64 0, .int .i64 0]) 16 rfl Try.underlying22 info55 rfl (by decide) (by decide) _ [] (⟨x0, x1⟩ : R) [.int .i64 x0, .int .i64 x1] (fun k => (some ⟨g, 0, none⟩ : Option Addr) ≠ some ⟨k, 0, none⟩) (fun _ => False) rfl rfl (k55_mkM _ _ _ (⟨x0, x1⟩ : R)) (fun _ hk => hk.elim) (fun k hk e => by injection e with e; injection e with e; have := HO1.out.lt rfl; omega) HR1.out HB1.out HB1.out.size (by have h1 := HLO.out; simp at h1 ⊢ <;> omega) ?_); intro v2 w2 hR2 hB2 hg2 _; have HR2 := Aside0.mk hR2; have HB2 := Aside0.mk hB2; have HG2 := Aside0.mk hg2; clear hR2 hB2 hg2)
        go_roundg (s.length - (kk + 1))
        case measure => omega
        case rel =>
          have hst : stepR [] ⟨x0, x1⟩ = [] ++ [⟨x0, x1⟩] := by rfl
          have hgn : some g ≠ (Value.slice A2 ([] : List R).length c2).ownBlock := fun e => HR1.out.1 g e.symm rfl
          refine ⟨kk + 1, v2, by omega, Nat.le_refl _, rfl, by go_num, ⟨?_⟩, ⟨?_⟩, ⟨?_⟩, ⟨HO1.out.move HG2.out.size (fun g' hg' => ?_)⟩, ⟨HB2.out⟩⟩
          · rw [HOUT.out, hst]; have := HLO.out; simp at this ⊢ <;> omega
          · rw [HOUT.out, hst]; intro y hy; rcases List.mem_append.1 hy with hy | hy; exact HFO.out y hy; rw [List.mem_singleton.1 hy]; exact HXF.out
          · rw [HOUT.out, hst]; exact HR2.out
          · injection hg' with hg'; injection hg' with hg'; subst hg'; exact HG2.out.block g (HO1.out.lt rfl) hgn
      · simp only [List.concat_eq_append] at HLO HFO HR HOUT HR0 ⊢
        obtain ⟨b, cb, rest, hv, hbb, hbok, hcl, hcm, hsz, hOw⟩ := own_of' HR0.out (by simp)
        obtain ⟨rfl, rfl⟩ : A2 = some ⟨b, 0, none⟩ ∧ c2 = cb := by injection hv with h1 h2 h3; exact ⟨h1, h3⟩
        have HOw := Aside0.mk hOw
        have HBK := Aside0.mk (And.intro hbb (And.intro hbok (And.intro hcl (And.intro hcm hsz))))
        obtain ⟨n, hn⟩ : ∃ n, n = (init ++ [q]).length := ⟨_, rfl⟩
        obtain ⟨m, hm⟩ : ∃ m, m = init.length := ⟨_, rfl⟩
        have HNL := Aside0.mk hn
        have HML := Aside0.mk hm
        have HQ := Aside0.mk (show ∀ h, ((init ++ [q])[m]'h).f1 = q.f1 from fun h => by subst hm; simp)
        have hnm : n = m + 1 := by rw [hn, hm]; simp
        rw [← hn] at HR HR0 ⊢
        have hmn : m < n := by omega
        have hn1 : n ≤ 1000000 := by have := HLO.out; rw [← hn] at this; omega
        have hmz : (m : Int) < (n : Int) := by omega
        have hw1 : IntKind.i64.wrap ((n : Int) - 1) = (m : Int) := by rw [i64_w, w64 (by omega) (by omega)]; omega
        have hw2 : wrap64 ((n : Int) - 1) = (m : Int) := by rw [w64 (by omega) (by omega)]; omega
        have hn0 : (0 : Int) < (n : Int) := by omega
        have hnd : decide (0 < n) = true := decide_eq_true (by omega)
        clear hn hm hnm hv hbb hbok hcl hcm hsz hOw
        obtain ⟨q0, q1⟩ := q
        simp only at HQ
        go_upto_region 8 with (fail)
        obtain ⟨rb, hrb⟩ : ∃ rb, rb = wr.heap.size := ⟨_, rfl⟩
        rw [← hrb] at HN ⊢
        clear hrb
        generalize wr.alloc (.cells #[.int .i64 x0, .int .i64 x1] 55) = w0 at HN HO0 HR0 HB0 HBA HOw ⊢
        have lrb := blk_lt HN.out
        have r0 : w0.cell? ⟨rb, 0, none⟩ = some (.int .i64 x0) := blk_cell HN.out 0
        have r1 : w0.cell? ⟨rb, 1, none⟩ = some (.int .i64 x1) := blk_cell HN.out 1
        clear c0 c1
        have lb := HOw.out.lt
        have bq : w0.cell? ⟨b, m * 2 + 1, none⟩ = some (.int .i64 q1) := (HOw.out.get1 m (by rw [← HNL.out]; omega)).trans (by rw [HQ.out])
        by_cases h1 : x0 ≤ q1
        · have h1' : decide (x0 ≤ q1) = true := decide_eq_true h1
          have HCO : Aside0 (x0 ≤ q1 ∨ wrap64 (x0 - 1) = q1) := ⟨.inl h1⟩
          refine reg_start (List.range 25) 25 (fun w' => Below w0.heap.size w0 w') (by kernel_rfl) rfl (below_drew1 (Below.refl _ _)) (fun hHeld => ?_)
          generalize w0.drew = w1 at hHeld ⊢
          repeat (first | (refine reg_pure (v := ?_) (a' := ?_) rfl rfl rfl (by kernel_rfl) (fun _ _ _ h => h) (by rfl) ?_ ?_ ?_; rotate_left; (solve | (intro w'; go_simp; with_reducible rfl)); rotate_left; (solve | (simp only [Act.put, List.setIfInBounds_toArray, List.set_cons_zero, List.set_cons_succ, i64_w, i32_w]; rfl))) | (refine reg_skip (a' := ?_) rfl rfl rfl (by rfl) (by kernel_rfl) (fun _ _ _ h => h) ?_ ?_; rotate_left; (solve | (simp only [Act.put, List.setIfInBounds_toArray, List.set_cons_zero, List.set_cons_succ, i64_w, i32_w]; rfl))) | (refine reg_load (v := ?_) (a' := ?_) rfl rfl rfl (by kernel_rfl) (fun _ _ _ h => h) (by rfl) ?_ hHeld ?_ ?_; rotate_left; (solve | (intro w' hb'; obtain ⟨hc', hf'⟩ := bcell hb'; clear hb'; go_simp; with_reducible rfl)); rotate_left; (solve | (simp only [Act.put, List.setIfInBounds_toArray, List.set_cons_zero, List.set_cons_succ, i64_w, i32_w]; rfl)); intro hHeld))
          refine reg_done (by kernel_rfl) ?_
          have HN1 := Aside0.mk (blk_below HN.out hHeld)
          have HOw1 := Aside0.mk (HOw.out.below hHeld)
          have HB1 := Aside0.mk (below_step HB0.out hHeld)
          have HO1 := Aside0.mk (HO0.out.move hHeld.size (fun g' hg' => hHeld.block g' (HO0.out.lt hg')))
          clear hHeld r0 r1 bq HN HR0 HB0 HO0 HBA HOw
          go_upto_region 9 with (fail)
          have lrb1 := blk_lt HN1.out
          have lb1 := HOw1.out.lt
          have r1 : w1.cell? ⟨rb, 1, none⟩ = some (.int .i64 x1) := blk_cell HN1.out 1
          have bq : w1.cell? ⟨b, m * 2 + 1, none⟩ = some (.int .i64 q1) := (HOw1.out.get1 m (by rw [← HNL.out]; omega)).trans (by rw [HQ.out])
          refine regd_start [14] [0, 1, 2, 3, 4, 5, 6, 7, 8, 9, 10, 11, 12, 13, 14] 15 (fun w' => Below w1.heap.size w1 w') (by kernel_rfl) rfl (below_drew1 (Below.refl _ _)) (fun hHeld => ?_)
          generalize w1.drew = w2 at hHeld ⊢
          repeat (first | (refine regd_pure (v := ?_) (a' := ?_) rfl rfl rfl (by kernel_rfl) (fun _ _ _ h => h) (by rfl) ?_ ?_ ?_; rotate_left; (solve | (intro w'; go_simp; with_reducible rfl)); rotate_left; (solve | (simp only [Act.put, List.setIfInBounds_toArray, List.set_cons_zero, List.set_cons_succ, i64_w, i32_w]; rfl))) | (refine regd_skip (a' := ?_) rfl rfl rfl (by rfl) (by kernel_rfl) (fun _ _ _ h => h) ?_ ?_; rotate_left; (solve | (simp only [Act.put, List.setIfInBounds_toArray, List.set_cons_zero, List.set_cons_succ, i64_w, i32_w]; rfl))) | (refine regd_load (v := ?_) (a' := ?_) rfl rfl rfl (by kernel_rfl) (fun _ _ _ h => h) (by rfl) ?_ hHeld ?_ ?_; rotate_left; (solve | (intro w' hb'; obtain ⟨hc', hf'⟩ := bcell hb'; clear hb'; go_simp; with_reducible rfl)); rotate_left; (solve | (simp only [Act.put, List.setIfInBounds_toArray, List.set_cons_zero, List.set_cons_succ, i64_w, i32_w]; rfl)); intro hHeld))
          have HOw2 := Aside0.mk (HOw1.out.below hHeld)
          have bq2 : w2.cell? ⟨b, m * 2 + 1, none⟩ = some (.int .i64 q1) := (HOw2.out.get1 m (by rw [← HNL.out]; omega)).trans (by rw [HQ.out])
          have fz := HOw2.out.frozen
          refine regd_store (w1 := w2.setCell ⟨b, m * 2 + 1, none⟩ (.int .i64 (max q1 x1))) rfl rfl rfl (by kernel_rfl) (by decide) (by rfl) (by go_simp; rw [ite_max]) ?_
          refine regd_done (by kernel_rfl) ?_
          simp only [ite_max]
          generalize hmx : max q1 x1 = mx
          have HMX := Aside0.mk hmx
          clear hmx
          have HB2 := Aside0.mk ((below_step HB1.out hHeld).setCell (p := ⟨b, m * 2 + 1, none⟩) HBK.out.1 (.int .i64 mx))
          have HO2 := Aside0.mk ((HO1.out.move hHeld.size (fun g' hg' => hHeld.block g' (HO1.out.lt hg'))).move (w' := w2.setCell ⟨b, m * 2 + 1, none⟩ (.int .i64 mx)) (by simp) (fun g' hg' => Below.heap_setCell w2 _ _ g' (fun e => HBK.out.2.1 (by rw [hg']; rw [show g' = b from e]))))
          have HOw3 := Aside0.mk (HOw2.out.set1 m (by rw [← HNL.out]; omega) mx)
          clear hHeld bq bq2 r1 fz HOw2 HOw1 HO1 HB1 HN1
          go_wp2_with fail
          go_roundg (s.length - (kk + 1))
          case measure => omega
          case rel =>
            have hst : stepR (init ++ [⟨q0, q1⟩]) ⟨x0, x1⟩ = init ++ [⟨q0, mx⟩] := by rw [stepR_snoc, if_pos (HCO.out), ← HMX.out]
            have hset : (init ++ [(⟨q0, q1⟩ : R)]).set m ⟨((init ++ [(⟨q0, q1⟩ : R)])[m]'(by rw [← HNL.out]; omega)).f0, mx⟩ = init ++ [⟨q0, mx⟩] := by have := HML.out; subst this; simp
            have hOw := HOw3.out
            rw [hset] at hOw
            have hnl : n = (init ++ [(⟨q0, mx⟩ : R)]).length := by rw [HNL.out]; simp
            obtain ⟨k1, k2, k3, k4, k5⟩ := HBK.out
            have hRR := own_R (cap := c2) (ok := fun k => (some ⟨g, 0, none⟩ : Option Addr) ≠ some ⟨k, 0, none⟩) hOw k1 k2 (by rw [← hnl]; rw [← HNL.out] at k3; exact k3) k4 (by rw [List.length_append, flatR_length] at k5 ⊢; rw [← hnl]; rw [← HNL.out] at k5; exact k5)
            rw [← hnl] at hRR
            refine ⟨kk + 1, _, by omega, Nat.le_refl _, rfl, by go_num, ⟨?_⟩, ⟨?_⟩, ⟨?_⟩, HO2, HB2⟩
            · rw [HOUT.out, hst, ← hnl]; have := HLO.out; rw [← HNL.out] at this; omega
            · rw [HOUT.out, hst]; intro y hy; rcases List.mem_append.1 hy with hy | hy
              · exact HFO.out y (List.mem_append_left _ hy)
              · rw [List.mem_singleton.1 hy]; have h1 := HFO.out ⟨q0, q1⟩ (by simp); have h2 := HXF.out; have h3 := HMX.out; exact ⟨h1.1, by have := h1.2; have := h2.2; simp only at *; omega⟩
            · rw [HOUT.out, hst]; exact hRR
        · have h1' : decide (x0 ≤ q1) = false := decide_eq_false h1
          by_cases h2 : wrap64 (x0 - 1) = q1
          · have HCO : Aside0 (x0 ≤ q1 ∨ wrap64 (x0 - 1) = q1) := ⟨.inr h2⟩
            have he1 : (IntKind.i64.wrap (x0 - 1) == q1) = true := by rw [i64_w]; exact beq_iff_eq.2 h2
            have he2 : (wrap64 (x0 - 1) == q1) = true := beq_iff_eq.2 h2
            clear h2
            refine reg_start (List.range 25) 25 (fun w' => Below w0.heap.size w0 w') (by kernel_rfl) rfl (below_drew1 (Below.refl _ _)) (fun hHeld => ?_)
            generalize w0.drew = w1 at hHeld ⊢
            repeat (first | (refine reg_pure (v := ?_) (a' := ?_) rfl rfl rfl (by kernel_rfl) (fun _ _ _ h => h) (by rfl) ?_ ?_ ?_; rotate_left; (solve | (intro w'; go_simp; with_reducible rfl)); rotate_left; (solve | (simp only [Act.put, List.setIfInBounds_toArray, List.set_cons_zero, List.set_cons_succ, i64_w, i32_w]; rfl))) | (refine reg_skip (a' := ?_) rfl rfl rfl (by rfl) (by kernel_rfl) (fun _ _ _ h => h) ?_ ?_; rotate_left; (solve | (simp only [Act.put, List.setIfInBounds_toArray, List.set_cons_zero, List.set_cons_succ, i64_w, i32_w]; rfl))) | (refine reg_load (v := ?_) (a' := ?_) rfl rfl rfl (by kernel_rfl) (fun _ _ _ h => h) (by rfl) ?_ hHeld ?_ ?_; rotate_left; (solve | (intro w' hb'; obtain ⟨hc', hf'⟩ := bcell hb'; clear hb'; go_simp; with_reducible rfl)); rotate_left; (solve | (simp only [Act.put, List.setIfInBounds_toArray, List.set_cons_zero, List.set_cons_succ, i64_w, i32_w]; rfl)); intro hHeld))
            refine reg_done (by kernel_rfl) ?_
            clear he1 he2
            have HN1 := Aside0.mk (blk_below HN.out hHeld)
            have HOw1 := Aside0.mk (HOw.out.below hHeld)
            have HB1 := Aside0.mk (below_step HB0.out hHeld)
            have HO1 := Aside0.mk (HO0.out.move hHeld.size (fun g' hg' => hHeld.block g' (HO0.out.lt hg')))
            clear hHeld r0 r1 bq HN HR0 HB0 HO0 HBA HOw
            go_upto_region 9 with (fail)
            have lrb1 := blk_lt HN1.out
            have lb1 := HOw1.out.lt
            have r1 : w1.cell? ⟨rb, 1, none⟩ = some (.int .i64 x1) := blk_cell HN1.out 1
            have bq : w1.cell? ⟨b, m * 2 + 1, none⟩ = some (.int .i64 q1) := (HOw1.out.get1 m (by rw [← HNL.out]; omega)).trans (by rw [HQ.out])
            refine regd_start [14] [0, 1, 2, 3, 4, 5, 6, 7, 8, 9, 10, 11, 12, 13, 14] 15 (fun w' => Below w1.heap.size w1 w') (by kernel_rfl) rfl (below_drew1 (Below.refl _ _)) (fun hHeld => ?_)
            generalize w1.drew = w2 at hHeld ⊢
            repeat (first | (refine regd_pure (v := ?_) (a' := ?_) rfl rfl rfl (by kernel_rfl) (fun _ _ _ h => h) (by rfl) ?_ ?_ ?_; rotate_left; (solve | (intro w'; go_simp; with_reducible rfl)); rotate_left; (solve | (simp only [Act.put, List.setIfInBounds_toArray, List.set_cons_zero, List.set_cons_succ, i64_w, i32_w]; rfl))) | (refine regd_skip (a' := ?_) rfl rfl rfl (by rfl) (by kernel_rfl) (fun _ _ _ h => h) ?_ ?_; rotate_left; (solve | (simp only [Act.put, List.setIfInBounds_toArray, List.set_cons_zero, List.set_cons_succ, i64_w, i32_w]; rfl))) | (refine regd_load (v := ?_) (a' := ?_) rfl rfl rfl (by kernel_rfl) (fun _ _ _ h => h) (by rfl) ?_ hHeld ?_ ?_; rotate_left; (solve | (intro w' hb'; obtain ⟨hc', hf'⟩ := bcell hb'; clear hb'; go_simp; with_reducible rfl)); rotate_left; (solve | (simp only [Act.put, List.setIfInBounds_toArray, List.set_cons_zero, List.set_cons_succ, i64_w, i32_w]; rfl)); intro hHeld))
            have HOw2 := Aside0.mk (HOw1.out.below hHeld)
            have bq2 : w2.cell? ⟨b, m * 2 + 1, none⟩ = some (.int .i64 q1) := (HOw2.out.get1 m (by rw [← HNL.out]; omega)).trans (by rw [HQ.out])
            have fz := HOw2.out.frozen
            refine regd_store (w1 := w2.setCell ⟨b, m * 2 + 1, none⟩ (.int .i64 (max q1 x1))) rfl rfl rfl (by kernel_rfl) (by decide) (by rfl) (by go_simp; rw [ite_max]) ?_
            refine regd_done (by kernel_rfl) ?_
            simp only [ite_max]
            generalize hmx : max q1 x1 = mx
            have HMX := Aside0.mk hmx
            clear hmx
            have HB2 := Aside0.mk ((below_step HB1.out hHeld).setCell (p := ⟨b, m * 2 + 1, none⟩) HBK.out.1 (.int .i64 mx))
            have HO2 := Aside0.mk ((HO1.out.move hHeld.size (fun g' hg' => hHeld.block g' (HO1.out.lt hg'))).move (w' := w2.setCell ⟨b, m * 2 + 1, none⟩ (.int .i64 mx)) (by simp) (fun g' hg' => Below.heap_setCell w2 _ _ g' (fun e => HBK.out.2.1 (by rw [hg']; rw [show g' = b from e]))))
            have HOw3 := Aside0.mk (HOw2.out.set1 m (by rw [← HNL.out]; omega) mx)
            clear hHeld bq bq2 r1 fz HOw2 HOw1 HO1 HB1 HN1
            go_wp2_with fail
            go_roundg (s.length - (kk + 1))
            case measure => omega
            case rel =>
              have hst : stepR (init ++ [⟨q0, q1⟩]) ⟨x0, x1⟩ = init ++ [⟨q0, mx⟩] := by rw [stepR_snoc, if_pos (HCO.out), ← HMX.out]
              have hset : (init ++ [(⟨q0, q1⟩ : R)]).set m ⟨((init ++ [(⟨q0, q1⟩ : R)])[m]'(by rw [← HNL.out]; omega)).f0, mx⟩ = init ++ [⟨q0, mx⟩] := by have := HML.out; subst this; simp
              have hOw := HOw3.out
              rw [hset] at hOw
              have hnl : n = (init ++ [(⟨q0, mx⟩ : R)]).length := by rw [HNL.out]; simp
              obtain ⟨k1, k2, k3, k4, k5⟩ := HBK.out
              have hRR := own_R (cap := c2) (ok := fun k => (some ⟨g, 0, none⟩ : Option Addr) ≠ some ⟨k, 0, none⟩) hOw k1 k2 (by rw [← hnl]; rw [← HNL.out] at k3; exact k3) k4 (by rw [List.length_append, flatR_length] at k5 ⊢; rw [← hnl]; rw [← HNL.out] at k5; exact k5)
              rw [← hnl] at hRR
              refine ⟨kk + 1, _, by omega, Nat.le_refl _, rfl, by go_num, ⟨?_⟩, ⟨?_⟩, ⟨?_⟩, HO2, HB2⟩
              · rw [HOUT.out, hst, ← hnl]; have := HLO.out; rw [← HNL.out] at this; omega
              · rw [HOUT.out, hst]; intro y hy; rcases List.mem_append.1 hy with hy | hy
                · exact HFO.out y (List.mem_append_left _ hy)
                · rw [List.mem_singleton.1 hy]; have h1 := HFO.out ⟨q0, q1⟩ (by simp); have h2 := HXF.out; have h3 := HMX.out; exact ⟨h1.1, by have := h1.2; have := h2.2; simp only at *; omega⟩
              · rw [HOUT.out, hst]; exact hRR
          · have HCO : Aside0 (¬ (x0 ≤ q1 ∨ wrap64 (x0 - 1) = q1)) := ⟨fun h => h.elim h1 h2⟩
            have he1 : (IntKind.i64.wrap (x0 - 1) == q1) = false := by rw [i64_w]; exact beq_eq_false_iff_ne.2 h2
            have he2 : (wrap64 (x0 - 1) == q1) = false := beq_eq_false_iff_ne.2 h2
            clear h2
            refine reg_start (List.range 25) 25 (fun w' => Below w0.heap.size w0 w') (by kernel_rfl) rfl (below_drew1 (Below.refl _ _)) (fun hHeld => ?_)
            generalize w0.drew = w1 at hHeld ⊢
            repeat (first | (refine reg_pure (v := ?_) (a' := ?_) rfl rfl rfl (by kernel_rfl) (fun _ _ _ h => h) (by rfl) ?_ ?_ ?_; rotate_left; (solve | (intro w'; go_simp; with_reducible rfl)); rotate_left; (solve | (simp only [Act.put, List.setIfInBounds_toArray, List.set_cons_zero, List.set_cons_succ, i64_w, i32_w]; rfl))) | (refine reg_skip (a' := ?_) rfl rfl rfl (by rfl) (by kernel_rfl) (fun _ _ _ h => h) ?_ ?_; rotate_left; (solve | (simp only [Act.put, List.setIfInBounds_toArray, List.set_cons_zero, List.set_cons_succ, i64_w, i32_w]; rfl))) | (refine reg_load (v := ?_) (a' := ?_) rfl rfl rfl (by kernel_rfl) (fun _ _ _ h => h) (by rfl) ?_ hHeld ?_ ?_; rotate_left; (solve | (intro w' hb'; obtain ⟨hc', hf'⟩ := bcell hb'; clear hb'; go_simp; with_reducible rfl)); rotate_left; (solve | (simp only [Act.put, List.setIfInBounds_toArray, List.set_cons_zero, List.set_cons_succ, i64_w, i32_w]; rfl)); intro hHeld))
            refine reg_done (by kernel_rfl) ?_
            clear he1 he2 bq
            have HN1 := Aside0.mk (blk_below HN.out hHeld)
            have HR1 := Aside0.mk (Kd.R_below HR0.out hHeld)
            have HB1 := Aside0.mk (below_step HB0.out hHeld)
            have HO1 := Aside0.mk (HO0.out.move hHeld.size (fun g' hg' => hHeld.block g' (HO0.out.lt hg')))
            clear hHeld r0 r1 HN HR0 HB0 HO0 HBA
            have r0 : w1.cell? ⟨rb, 0, none⟩ = some (.int .i64 x0) := blk_cell HN1.out 0
            have r1 : w1.cell? ⟨rb, 1, none⟩ = some (.int .i64 x1) := blk_cell HN1.out 1
            go_wp2_with ((with_reducible refine gate_builtin (b := .append) (xs := #[.tmp 60, .tmp 62]) rfl ?_); at_builtin; go_loud (refine Kd.R_append k55 (w0 := w) w.heap.size rfl (.tmp 60) (.tmp 62) 22 55 (.agg #[.int .i64 0, .int .i64 0]) 16 rfl Try.underlying22 info55 rfl (by decide) (by decide) _ (init ++ [(⟨q0, q1⟩ : R)]) (⟨x0, x1⟩ : R) [.int .i64 x0, .int .i64 x1] (fun k => (some ⟨g, 0, none⟩ : Option Addr) ≠ some ⟨k, 0, none⟩) (fun _ => False) rfl rfl (k55_mkM _ _ _ (⟨x0, x1⟩ : R)) (fun _ hk => hk.elim) (fun k hk e => by injection e with e; injection e with e; have := HO1.out.lt rfl; omega) HR1.out HB1.out HB1.out.size (by have h1 := HLO.out; simp at h1 ⊢ <;> omega) ?_); intro v2 w2 hR2 hB2 hg2 _; have HR2 := Aside0.mk hR2; have HB2 := Aside0.mk hB2; have HG2 := Aside0.mk hg2; clear hR2 hB2 hg2)
            go_roundg (s.length - (kk + 1))
            case measure => omega
            case rel =>
              have hst : stepR (init ++ [(⟨q0, q1⟩ : R)]) ⟨x0, x1⟩ = (init ++ [(⟨q0, q1⟩ : R)]) ++ [⟨x0, x1⟩] := by rw [stepR_snoc, if_neg HCO.out]
              have hgn : some g ≠ (Value.slice (some ⟨b, 0, none⟩) n c2).ownBlock := fun e => HR1.out.1 g e.symm rfl
              refine ⟨kk + 1, v2, by omega, Nat.le_refl _, rfl, by go_num, ⟨?_⟩, ⟨?_⟩, ⟨?_⟩, ⟨HO1.out.move HG2.out.size (fun g' hg' => ?_)⟩, ⟨HB2.out⟩⟩
              · rw [HOUT.out, hst]; have := HLO.out; simp at this ⊢ <;> omega
              · rw [HOUT.out, hst]; intro y hy; rcases List.mem_append.1 hy with hy | hy; exact HFO.out y hy; rw [List.mem_singleton.1 hy]; exact HXF.out
              · rw [HOUT.out, hst]; exact HR2.out
              · injection hg' with hg'; injection hg' with hg'; subst hg'; exact HG2.out.block g (HO1.out.lt rfl) hgn
    · obtain rfl : kk = s.length := by omega
      have hltz : ¬ (s.length : Int) < (s.length : Int) := by omega
      go_wp2_with fail
      rw [HT.out]
      have hR := HR.out
      rw [List.take_length] at hR
      exact ⟨_, _, rfl, Kd.R_mono hR (fun _ _ => trivial), norm_of HF.out HP.out HS.out, HBr.out⟩
end Go.Proofs.Ytppmcbkcohiodaa.PMeanTells
