/- lex.reader.next, walked by hand. -/
import Derived.Test.YtjllahglfpbemaaDoorLexSkip
import Derived.Test.YtjllahglfpbemaaDoorGuardLaws
namespace Go.Proofs.YtjllahglfpbemaaDoor.PGuardTells
open Go Go.RowKit Go.Proofs.YtjllahglfpbemaaDoorW.PrintWords Go.Proofs.YtjllahglfpbemaaDoorW.PrintLast Go.Proofs.YtjllahglfpbemaaDoorW.PrintMore
set_option maxHeartbeats 4000000
set_option maxRecDepth 100000
set_option linter.unusedVariables false
set_option linter.unusedSimpArgs false
theorem put_calls (w0 : World) (B p : Nat) (s : ByteArray) (k n : Nat) (line kind num : Int) (xs : List S28) (w : World) (h : ST w0 w B p s k line xs) (hk : k + n ≤ s.size) (hs : s.size ≤ 4096) (hl : xs.length ≤ 4096) :
    Calls Tryd.prog 56 #[.pointer (some ⟨p, 0, none⟩), .int .i64 kind, .int .i64 (n : Int), .int .i64 num] w fun e w' => e = .returned (.tuple #[]) ∧ ST w0 w' B p s (k + n) line (xs ++ [⟨kind, s.extract k (k + n), num, line⟩]) := by
  obtain ⟨v, hr, hv⟩ := h.rd
  refine (put_walk w0 B p s k n line kind num v xs w hr hv h.below h.base hk hs hl).mono ?_
  rintro e w' ⟨rfl, v', hr', hv', hb'⟩
  exact ⟨rfl, h.base, ⟨v', hr', hv'⟩, hb'⟩
/-- skip has found something. -/
theorem next_skip (w0 : World) (B p : Nat) (s : ByteArray) (j : Nat) (line : Int) (xs : List S28) (w : World) (h : Calls Tryd.prog 54 #[.pointer (some ⟨p, 0, none⟩)] w fun e w' => e = .returned (.bool true) ∧ ST w0 w' B p s j line xs) :
    Calls Tryd.prog 33 #[.pointer (some ⟨p, 0, none⟩)] w fun e w' => e = .returned (.bool true) ∧ ST w0 w' B p s j line xs := by
  obtain ⟨T, hT⟩ : ∃ T : Ending → World → Prop, T = fun e w' => e = .returned (.bool true) ∧ ST w0 w' B p s j line xs := ⟨_, rfl⟩
  have HT := Aside0.mk hT
  rw [← hT]
  clear hT
  go_enter Tryd.func33, Tryd.ntmps33
  go_wp2_with fail
  refine h.mono ?_
  rintro e w' ⟨rfl, h2⟩
  have H := Aside0.mk h2
  clear h2 h
  go_wp2_with fail
  rw [HT.out]
  exact ⟨rfl, H.out⟩
/-- A word. -/
theorem next_word (w0 : World) (B p : Nat) (s : ByteArray) (k n : Nat) (line : Int) (xs : List S28) (w : World) (h : Calls Tryd.prog 54 #[.pointer (some ⟨p, 0, none⟩)] w fun e w' => e = .returned (.bool false) ∧ ST w0 w' B p s k line xs)
    (hn : letters (s.data.toList.drop k) = n) (h0 : 0 < n) (hk : k + n ≤ s.size) (hs : s.size ≤ 4096) (hl : xs.length ≤ 4096) :
    Calls Tryd.prog 33 #[.pointer (some ⟨p, 0, none⟩)] w fun e w' => e = .returned (.bool true) ∧ ST w0 w' B p s (k + n) line (xs ++ [⟨1, s.extract k (k + n), 0, line⟩]) := by
  obtain ⟨T, hT⟩ : ∃ T : Ending → World → Prop, T = fun e w' => e = .returned (.bool true) ∧ ST w0 w' B p s (k + n) line (xs ++ [⟨1, s.extract k (k + n), 0, line⟩]) := ⟨_, rfl⟩
  have HT := Aside0.mk hT
  rw [← hT]
  clear hT
  have CW := Aside0.mk (fun w' (h' : ST w0 w' B p s k line xs) => word_calls w0 B p s k line xs w' h' (by omega) hs)
  rw [hn] at CW
  have hpos : (0 : Int) < (n : Int) := by omega
  have HN := Aside0.mk hn
  clear hn
  go_enter Tryd.func33, Tryd.ntmps33
  go_wp2_with fail
  refine h.mono ?_
  rintro e w1 ⟨rfl, h1⟩
  have H1 := Aside0.mk h1
  clear h1 h
  go_wp2_with fail
  refine (CW.out _ H1.out).mono ?_
  rintro e w2 ⟨rfl, h2⟩
  have H2 := Aside0.mk h2
  clear h2
  go_wp2_with fail
  refine (put_calls w0 B p s k n line 1 0 xs _ H2.out hk hs hl).mono ?_
  rintro e w3 ⟨rfl, h3⟩
  have H3 := Aside0.mk h3
  clear h3
  go_wp2_with fail
  rw [HT.out]
  exact ⟨rfl, H3.out⟩
theorem slice_end (s : ByteArray) (k : Nat) (hk : k ≤ s.size) : ∀ w' : World, (Instr.slice 9 (.string s) (some (.int .i64 (k : Int))) none none).run Tryd.prog w' = .ok (.string (s.extract k s.size)) w' := fun w' => by
  have h := run_slice_string_l (P := Tryd.prog) w' 9 s Tryd.underlying9 .i64 (k : Int) (by omega) (by omega)
  rw [Int.toNat_natCast] at h
  exact h
theorem slice_mid (s : ByteArray) (k n : Nat) (hk : k + n ≤ s.size) : ∀ w' : World, (Instr.slice 9 (.string s) (some (.int .i64 (k : Int))) (some (.int .i64 ((k : Int) + (n : Int)))) none).run Tryd.prog w' = .ok (.string (s.extract k (k + n))) w' := fun w' => by
  have h := run_slice_string (P := Tryd.prog) w' 9 s .i64 .i64 (k : Int) ((k : Int) + (n : Int)) Tryd.underlying9 (by omega) (by omega) (by omega)
  rw [show ((k : Int) + (n : Int)).toNat = k + n by omega, Int.toNat_natCast] at h
  exact h
theorem lead_call (s : ByteArray) (k : Nat) (hs : s.size ≤ 4096) (hk : k ≤ s.size) (w : World) : Calls Tryd.prog 31 #[.string (s.extract k s.size)] w fun e w' => e = .returned (.int .i64 ((lead (s.data.toList.drop k) : Nat) : Int)) ∧ Below w.heap.size w w' := by
  have h := guard_Lead_eq (s.extract k s.size) w (by rw [size_list, extract_end, List.length_drop, ← size_list]; omega)
  rw [extract_end] at h
  exact h
theorem get_call (s : ByteArray) (k n : Nat) (hs : s.size ≤ 4096) (hk : k + n ≤ s.size) (w : World) : Calls Tryd.prog 29 #[.string (s.extract k (k + n))] w fun e w' => e = .returned (getV (readF ((s.data.toList.drop k).take n))) ∧ Below w.heap.size w w' := by
  have h := guard_Get_calls (s.extract k (k + n)) w (by rw [size_list, extract_list, List.length_drop, List.length_take, ← size_list]; omega)
  rw [extract_list, List.drop_take, show k + n - k = n by omega] at h
  exact h
theorem next_num (w0 : World) (B p : Nat) (s : ByteArray) (k n : Nat) (line : Int) (xs : List S28) (w : World) (h : Calls Tryd.prog 54 #[.pointer (some ⟨p, 0, none⟩)] w fun e w' => e = .returned (.bool false) ∧ ST w0 w' B p s k line xs)
    (hw : letters (s.data.toList.drop k) = 0) (hn : lead (s.data.toList.drop k) = n) (h0 : 0 < n) (v : Int) (hg : readF ((s.data.toList.drop k).take n) = some v) (hk : k + n ≤ s.size) (hs : s.size ≤ 4096) (hl : xs.length ≤ 4096) :
    Calls Tryd.prog 33 #[.pointer (some ⟨p, 0, none⟩)] w fun e w' => e = .returned (.bool true) ∧ ST w0 w' B p s (k + n) line (xs ++ [⟨2, s.extract k (k + n), v, line⟩]) := by
  obtain ⟨T, hT⟩ : ∃ T : Ending → World → Prop, T = fun e w' => e = .returned (.bool true) ∧ ST w0 w' B p s (k + n) line (xs ++ [⟨2, s.extract k (k + n), v, line⟩]) := ⟨_, rfl⟩
  have HT := Aside0.mk hT
  rw [← hT]
  clear hT
  have CW := Aside0.mk (fun w' (h' : ST w0 w' B p s k line xs) => word_calls w0 B p s k line xs w' h' (by omega) hs)
  rw [hw] at CW
  have CL := Aside0.mk (fun w' => lead_call s k hs (by omega) w')
  rw [hn] at CL
  have CG := Aside0.mk (fun w' => get_call s k n hs hk w')
  rw [hg] at CG
  have SE := slice_end s k (by omega)
  have SM := slice_mid s k n hk
  have hpos : (0 : Int) < (n : Int) := by omega
  have e1 : wrap64 ((k : Int) + (n : Int)) = ((k + n : Nat) : Int) := by unfold wrap64; omega
  have e2 : IntKind.i64.wrap ((k : Int) + (n : Int)) = ((k + n : Nat) : Int) := by rw [IntKind.wrap_i64]; omega
  clear hn hw hg
  go_enter Tryd.func33, Tryd.ntmps33
  go_wp2_with fail
  refine h.mono ?_
  rintro e w1 ⟨rfl, h1⟩
  have H1 := Aside0.mk h1
  clear h1 h
  go_wp2_with fail
  refine (CW.out _ H1.out).mono ?_
  rintro e w2 ⟨rfl, h2⟩
  have H2 := Aside0.mk h2
  clear h2
  go_wp2_with fail
  refine reg_start (List.range 11) 11 (fun w' => ST w0 w' B p s k line xs) (by kernel_rfl) rfl (H2.out.drew 1) (fun hHeld => ?_)
  clear H1 H2
  generalize w2.drew = w3 at hHeld ⊢
  repeat (first | (refine reg_pure (v := ?_) (a' := ?_) rfl rfl rfl (by kernel_rfl) (fun _ _ _ h => h) (by rfl) ?_ ?_ ?_; rotate_left; (solve | (intro w'; go_simp; with_reducible rfl)); rotate_left; (solve | (simp only [Act.put, List.setIfInBounds_toArray, List.set_cons_zero, List.set_cons_succ, i64_w, i32_w]; rfl))) | (refine reg_load (v := ?_) (a' := ?_) rfl rfl rfl (by kernel_rfl) (fun _ _ _ h => h) (by rfl) ?_ hHeld ?_ ?_; rotate_left; (solve | (intro w' hs'; obtain ⟨v', ⟨c0', c1', c2', c3'⟩, f1', f2', f3'⟩ := hs'.cells; go_simp; with_reducible rfl)); rotate_left; (solve | (simp only [Act.put, List.setIfInBounds_toArray, List.set_cons_zero, List.set_cons_succ, i64_w, i32_w]; rfl)); intro hHeld))
  refine reg_call rfl rfl rfl (by kernel_rfl) (by rfl) Tryd.func31 (by kernel_rfl) rfl #[.string (s.extract k s.size)] rfl (by (try simp only [List.map_toArray, List.map_cons, List.map_nil]); first | done | rfl) ?_
  refine (CL.out _).mono ?_
  rintro e w4 ⟨rfl, hb⟩
  refine ⟨_, rfl, hHeld.on hb, fun hHeld => ?_⟩
  rintro a' ha'
  simp only [Act.put, List.setIfInBounds_toArray, List.set_cons_zero, List.set_cons_succ, i64_w, i32_w] at ha'
  subst ha'
  repeat (first | (refine reg_pure (v := ?_) (a' := ?_) rfl rfl rfl (by kernel_rfl) (fun _ _ _ h => h) (by rfl) ?_ ?_ ?_; rotate_left; (solve | (intro w'; go_simp; with_reducible rfl)); rotate_left; (solve | (simp only [Act.put, List.setIfInBounds_toArray, List.set_cons_zero, List.set_cons_succ, i64_w, i32_w]; rfl))) | (refine reg_load (v := ?_) (a' := ?_) rfl rfl rfl (by kernel_rfl) (fun _ _ _ h => h) (by rfl) ?_ hHeld ?_ ?_; rotate_left; (solve | (intro w' hs'; obtain ⟨v', ⟨c0', c1', c2', c3'⟩, f1', f2', f3'⟩ := hs'.cells; go_simp; with_reducible rfl)); rotate_left; (solve | (simp only [Act.put, List.setIfInBounds_toArray, List.set_cons_zero, List.set_cons_succ, i64_w, i32_w]; rfl)); intro hHeld))
  refine reg_done (by kernel_rfl) ?_
  have H4 := Aside0.mk hHeld
  clear hHeld hb
  go_wp2_with fail
  refine reg_start (List.range 21) 21 (fun w' => ST w0 w' B p s k line xs) (by kernel_rfl) rfl (H4.out.drew 1) (fun hHeld => ?_)
  clear H4
  generalize w4.drew = w5 at hHeld ⊢
  repeat (first | (refine reg_pure (v := ?_) (a' := ?_) rfl rfl rfl (by kernel_rfl) (fun _ _ _ h => h) (by rfl) ?_ ?_ ?_; rotate_left; (solve | (intro w'; go_simp; with_reducible rfl)); rotate_left; (solve | (simp only [Act.put, List.setIfInBounds_toArray, List.set_cons_zero, List.set_cons_succ, i64_w, i32_w]; rfl))) | (refine reg_load (v := ?_) (a' := ?_) rfl rfl rfl (by kernel_rfl) (fun _ _ _ h => h) (by rfl) ?_ hHeld ?_ ?_; rotate_left; (solve | (intro w' hs'; obtain ⟨v', ⟨c0', c1', c2', c3'⟩, f1', f2', f3'⟩ := hs'.cells; go_simp; with_reducible rfl)); rotate_left; (solve | (simp only [Act.put, List.setIfInBounds_toArray, List.set_cons_zero, List.set_cons_succ, i64_w, i32_w]; rfl)); intro hHeld))
  refine reg_call rfl rfl rfl (by kernel_rfl) (by rfl) Tryd.func29 (by kernel_rfl) rfl #[.string (s.extract k (k + n))] rfl (by (try simp only [List.map_toArray, List.map_cons, List.map_nil]); first | done | rfl) ?_
  refine (CG.out _).mono ?_
  rintro e w6 ⟨rfl, hb⟩
  refine ⟨_, rfl, hHeld.on hb, fun hHeld => ?_⟩
  rintro a' ha'
  simp only [getV] at ha'
  simp only [Act.put, List.setIfInBounds_toArray, List.set_cons_zero, List.set_cons_succ, i64_w, i32_w] at ha'
  subst ha'
  repeat (first | (refine reg_pure (v := ?_) (a' := ?_) rfl rfl rfl (by kernel_rfl) (fun _ _ _ h => h) (by rfl) ?_ ?_ ?_; rotate_left; (solve | (intro w'; go_simp; with_reducible rfl)); rotate_left; (solve | (simp only [Act.put, List.setIfInBounds_toArray, List.set_cons_zero, List.set_cons_succ, i64_w, i32_w]; rfl))) | (refine reg_load (v := ?_) (a' := ?_) rfl rfl rfl (by kernel_rfl) (fun _ _ _ h => h) (by rfl) ?_ hHeld ?_ ?_; rotate_left; (solve | (intro w' hs'; obtain ⟨v', ⟨c0', c1', c2', c3'⟩, f1', f2', f3'⟩ := hs'.cells; go_simp; with_reducible rfl)); rotate_left; (solve | (simp only [Act.put, List.setIfInBounds_toArray, List.set_cons_zero, List.set_cons_succ, i64_w, i32_w]; rfl)); intro hHeld))
  refine reg_done (by kernel_rfl) ?_
  have H6 := Aside0.mk hHeld
  clear hHeld hb
  go_wp2_with fail
  refine (put_calls w0 B p s k n line 2 v xs _ H6.out hk hs hl).mono ?_
  rintro e w7 ⟨rfl, h7⟩
  have H7 := Aside0.mk h7
  clear h7
  go_wp2_with fail
  rw [HT.out]
  exact ⟨rfl, H7.out⟩
theorem next_bad (w0 : World) (B p : Nat) (s : ByteArray) (k n : Nat) (line : Int) (xs : List S28) (w : World) (h : Calls Tryd.prog 54 #[.pointer (some ⟨p, 0, none⟩)] w fun e w' => e = .returned (.bool false) ∧ ST w0 w' B p s k line xs)
    (hw : letters (s.data.toList.drop k) = 0) (hn : lead (s.data.toList.drop k) = n) (h0 : 0 < n) (hg : readF ((s.data.toList.drop k).take n) = none) (hk : k + n ≤ s.size) (hs : s.size ≤ 4096) (hl : xs.length ≤ 4096) :
    Calls Tryd.prog 33 #[.pointer (some ⟨p, 0, none⟩)] w fun e w' => e = .returned (.bool false) ∧ ST w0 w' B p s k line xs := by
  obtain ⟨T, hT⟩ : ∃ T : Ending → World → Prop, T = fun e w' => e = .returned (.bool false) ∧ ST w0 w' B p s k line xs := ⟨_, rfl⟩
  have HT := Aside0.mk hT
  rw [← hT]
  clear hT
  have CW := Aside0.mk (fun w' (h' : ST w0 w' B p s k line xs) => word_calls w0 B p s k line xs w' h' (by omega) hs)
  rw [hw] at CW
  have CL := Aside0.mk (fun w' => lead_call s k hs (by omega) w')
  rw [hn] at CL
  have CG := Aside0.mk (fun w' => get_call s k n hs hk w')
  rw [hg] at CG
  have SE := slice_end s k (by omega)
  have SM := slice_mid s k n hk
  have hpos : (0 : Int) < (n : Int) := by omega
  have e1 : wrap64 ((k : Int) + (n : Int)) = ((k + n : Nat) : Int) := by unfold wrap64; omega
  have e2 : IntKind.i64.wrap ((k : Int) + (n : Int)) = ((k + n : Nat) : Int) := by rw [IntKind.wrap_i64]; omega
  clear hn hw hg
  go_enter Tryd.func33, Tryd.ntmps33
  go_wp2_with fail
  refine h.mono ?_
  rintro e w1 ⟨rfl, h1⟩
  have H1 := Aside0.mk h1
  clear h1 h
  go_wp2_with fail
  refine (CW.out _ H1.out).mono ?_
  rintro e w2 ⟨rfl, h2⟩
  have H2 := Aside0.mk h2
  clear h2
  go_wp2_with fail
  refine reg_start (List.range 11) 11 (fun w' => ST w0 w' B p s k line xs) (by kernel_rfl) rfl (H2.out.drew 1) (fun hHeld => ?_)
  clear H1 H2
  generalize w2.drew = w3 at hHeld ⊢
  repeat (first | (refine reg_pure (v := ?_) (a' := ?_) rfl rfl rfl (by kernel_rfl) (fun _ _ _ h => h) (by rfl) ?_ ?_ ?_; rotate_left; (solve | (intro w'; go_simp; with_reducible rfl)); rotate_left; (solve | (simp only [Act.put, List.setIfInBounds_toArray, List.set_cons_zero, List.set_cons_succ, i64_w, i32_w]; rfl))) | (refine reg_load (v := ?_) (a' := ?_) rfl rfl rfl (by kernel_rfl) (fun _ _ _ h => h) (by rfl) ?_ hHeld ?_ ?_; rotate_left; (solve | (intro w' hs'; obtain ⟨v', ⟨c0', c1', c2', c3'⟩, f1', f2', f3'⟩ := hs'.cells; go_simp; with_reducible rfl)); rotate_left; (solve | (simp only [Act.put, List.setIfInBounds_toArray, List.set_cons_zero, List.set_cons_succ, i64_w, i32_w]; rfl)); intro hHeld))
  refine reg_call rfl rfl rfl (by kernel_rfl) (by rfl) Tryd.func31 (by kernel_rfl) rfl #[.string (s.extract k s.size)] rfl (by (try simp only [List.map_toArray, List.map_cons, List.map_nil]); first | done | rfl) ?_
  refine (CL.out _).mono ?_
  rintro e w4 ⟨rfl, hb⟩
  refine ⟨_, rfl, hHeld.on hb, fun hHeld => ?_⟩
  rintro a' ha'
  simp only [Act.put, List.setIfInBounds_toArray, List.set_cons_zero, List.set_cons_succ, i64_w, i32_w] at ha'
  subst ha'
  repeat (first | (refine reg_pure (v := ?_) (a' := ?_) rfl rfl rfl (by kernel_rfl) (fun _ _ _ h => h) (by rfl) ?_ ?_ ?_; rotate_left; (solve | (intro w'; go_simp; with_reducible rfl)); rotate_left; (solve | (simp only [Act.put, List.setIfInBounds_toArray, List.set_cons_zero, List.set_cons_succ, i64_w, i32_w]; rfl))) | (refine reg_load (v := ?_) (a' := ?_) rfl rfl rfl (by kernel_rfl) (fun _ _ _ h => h) (by rfl) ?_ hHeld ?_ ?_; rotate_left; (solve | (intro w' hs'; obtain ⟨v', ⟨c0', c1', c2', c3'⟩, f1', f2', f3'⟩ := hs'.cells; go_simp; with_reducible rfl)); rotate_left; (solve | (simp only [Act.put, List.setIfInBounds_toArray, List.set_cons_zero, List.set_cons_succ, i64_w, i32_w]; rfl)); intro hHeld))
  refine reg_done (by kernel_rfl) ?_
  have H4 := Aside0.mk hHeld
  clear hHeld hb
  go_wp2_with fail
  refine reg_start (List.range 21) 21 (fun w' => ST w0 w' B p s k line xs) (by kernel_rfl) rfl (H4.out.drew 1) (fun hHeld => ?_)
  clear H4
  generalize w4.drew = w5 at hHeld ⊢
  repeat (first | (refine reg_pure (v := ?_) (a' := ?_) rfl rfl rfl (by kernel_rfl) (fun _ _ _ h => h) (by rfl) ?_ ?_ ?_; rotate_left; (solve | (intro w'; go_simp; with_reducible rfl)); rotate_left; (solve | (simp only [Act.put, List.setIfInBounds_toArray, List.set_cons_zero, List.set_cons_succ, i64_w, i32_w]; rfl))) | (refine reg_load (v := ?_) (a' := ?_) rfl rfl rfl (by kernel_rfl) (fun _ _ _ h => h) (by rfl) ?_ hHeld ?_ ?_; rotate_left; (solve | (intro w' hs'; obtain ⟨v', ⟨c0', c1', c2', c3'⟩, f1', f2', f3'⟩ := hs'.cells; go_simp; with_reducible rfl)); rotate_left; (solve | (simp only [Act.put, List.setIfInBounds_toArray, List.set_cons_zero, List.set_cons_succ, i64_w, i32_w]; rfl)); intro hHeld))
  refine reg_call rfl rfl rfl (by kernel_rfl) (by rfl) Tryd.func29 (by kernel_rfl) rfl #[.string (s.extract k (k + n))] rfl (by (try simp only [List.map_toArray, List.map_cons, List.map_nil]); first | done | rfl) ?_
  refine (CG.out _).mono ?_
  rintro e w6 ⟨rfl, hb⟩
  refine ⟨_, rfl, hHeld.on hb, fun hHeld => ?_⟩
  rintro a' ha'
  simp only [getV] at ha'
  simp only [Act.put, List.setIfInBounds_toArray, List.set_cons_zero, List.set_cons_succ, i64_w, i32_w] at ha'
  subst ha'
  repeat (first | (refine reg_pure (v := ?_) (a' := ?_) rfl rfl rfl (by kernel_rfl) (fun _ _ _ h => h) (by rfl) ?_ ?_ ?_; rotate_left; (solve | (intro w'; go_simp; with_reducible rfl)); rotate_left; (solve | (simp only [Act.put, List.setIfInBounds_toArray, List.set_cons_zero, List.set_cons_succ, i64_w, i32_w]; rfl))) | (refine reg_load (v := ?_) (a' := ?_) rfl rfl rfl (by kernel_rfl) (fun _ _ _ h => h) (by rfl) ?_ hHeld ?_ ?_; rotate_left; (solve | (intro w' hs'; obtain ⟨v', ⟨c0', c1', c2', c3'⟩, f1', f2', f3'⟩ := hs'.cells; go_simp; with_reducible rfl)); rotate_left; (solve | (simp only [Act.put, List.setIfInBounds_toArray, List.set_cons_zero, List.set_cons_succ, i64_w, i32_w]; rfl)); intro hHeld))
  refine reg_done (by kernel_rfl) ?_
  have H6 := Aside0.mk hHeld
  clear hHeld hb
  go_wp2_with fail
  rw [HT.out]
  exact ⟨rfl, H6.out⟩
theorem next_mark (w0 : World) (B p : Nat) (s : ByteArray) (k : Nat) (line : Int) (xs : List S28) (w : World) (h : Calls Tryd.prog 54 #[.pointer (some ⟨p, 0, none⟩)] w fun e w' => e = .returned (.bool false) ∧ ST w0 w' B p s k line xs)
    (hw : letters (s.data.toList.drop k) = 0) (hn : lead (s.data.toList.drop k) = 0) (hk : k < s.size) (hv : ((s[k]'hk).toNat : Int) = 40 ∨ ((s[k]'hk).toNat : Int) = 41 ∨ ((s[k]'hk).toNat : Int) = 44 ∨ ((s[k]'hk).toNat : Int) = 59) (hs : s.size ≤ 4096) (hl : xs.length ≤ 4096) :
    Calls Tryd.prog 33 #[.pointer (some ⟨p, 0, none⟩)] w fun e w' => e = .returned (.bool true) ∧ ST w0 w' B p s (k + 1) line (xs ++ [⟨3, s.extract k (k + 1), 0, line⟩]) := by
  obtain ⟨T, hT⟩ : ∃ T : Ending → World → Prop, T = fun e w' => e = .returned (.bool true) ∧ ST w0 w' B p s (k + 1) line (xs ++ [⟨3, s.extract k (k + 1), 0, line⟩]) := ⟨_, rfl⟩
  have HT := Aside0.mk hT
  rw [← hT]
  clear hT
  have CW := Aside0.mk (fun w' (h' : ST w0 w' B p s k line xs) => word_calls w0 B p s k line xs w' h' (by omega) hs)
  rw [hw] at CW
  have CL := Aside0.mk (fun w' => lead_call s k hs (by omega) w')
  rw [hn] at CL
  have SE := slice_end s k (by omega)
  clear hn hw
  rcases hv with hv | hv | hv | hv
  all_goals
    go_enter Tryd.func33, Tryd.ntmps33
    go_wp2_with fail
    refine h.mono ?_
    rintro e w1 ⟨rfl, h1⟩
    have H1 := Aside0.mk h1
    clear h1 h
    go_wp2_with fail
    refine (CW.out _ H1.out).mono ?_
    rintro e w2 ⟨rfl, h2⟩
    have H2 := Aside0.mk h2
    clear h2
    go_wp2_with fail
    refine reg_start (List.range 11) 11 (fun w' => ST w0 w' B p s k line xs) (by kernel_rfl) rfl (H2.out.drew 1) (fun hHeld => ?_)
    clear H1 H2
    generalize w2.drew = w3 at hHeld ⊢
    repeat (first | (refine reg_pure (v := ?_) (a' := ?_) rfl rfl rfl (by kernel_rfl) (fun _ _ _ h => h) (by rfl) ?_ ?_ ?_; rotate_left; (solve | (intro w'; go_simp; with_reducible rfl)); rotate_left; (solve | (simp only [Act.put, List.setIfInBounds_toArray, List.set_cons_zero, List.set_cons_succ, i64_w, i32_w]; rfl))) | (refine reg_load (v := ?_) (a' := ?_) rfl rfl rfl (by kernel_rfl) (fun _ _ _ h => h) (by rfl) ?_ hHeld ?_ ?_; rotate_left; (solve | (intro w' hs'; obtain ⟨v', ⟨c0', c1', c2', c3'⟩, f1', f2', f3'⟩ := hs'.cells; go_simp; with_reducible rfl)); rotate_left; (solve | (simp only [Act.put, List.setIfInBounds_toArray, List.set_cons_zero, List.set_cons_succ, i64_w, i32_w]; rfl)); intro hHeld))
    refine reg_call rfl rfl rfl (by kernel_rfl) (by rfl) Tryd.func31 (by kernel_rfl) rfl #[.string (s.extract k s.size)] rfl (by (try simp only [List.map_toArray, List.map_cons, List.map_nil]); first | done | rfl) ?_
    refine (CL.out _).mono ?_
    rintro e w4 ⟨rfl, hb⟩
    refine ⟨_, rfl, hHeld.on hb, fun hHeld => ?_⟩
    rintro a' ha'
    simp only [Act.put, List.setIfInBounds_toArray, List.set_cons_zero, List.set_cons_succ, i64_w, i32_w] at ha'
    subst ha'
    repeat (first | (refine reg_pure (v := ?_) (a' := ?_) rfl rfl rfl (by kernel_rfl) (fun _ _ _ h => h) (by rfl) ?_ ?_ ?_; rotate_left; (solve | (intro w'; go_simp; with_reducible rfl)); rotate_left; (solve | (simp only [Act.put, List.setIfInBounds_toArray, List.set_cons_zero, List.set_cons_succ, i64_w, i32_w]; rfl))) | (refine reg_load (v := ?_) (a' := ?_) rfl rfl rfl (by kernel_rfl) (fun _ _ _ h => h) (by rfl) ?_ hHeld ?_ ?_; rotate_left; (solve | (intro w' hs'; obtain ⟨v', ⟨c0', c1', c2', c3'⟩, f1', f2', f3'⟩ := hs'.cells; go_simp; with_reducible rfl)); rotate_left; (solve | (simp only [Act.put, List.setIfInBounds_toArray, List.set_cons_zero, List.set_cons_succ, i64_w, i32_w]; rfl)); intro hHeld))
    refine reg_done (by kernel_rfl) ?_
    have H4 := Aside0.mk hHeld
    clear hHeld hb
    go_wp2_with fail
    obtain ⟨v4, ⟨c0, c1, c2, c3⟩, f1, f2, f3⟩ := H4.out.cells
    go_quiet (fail)
    have H5 := Aside0.mk (H4.out.drew nq)
    clear c0 c1 c2 c3 f1 f2 f3 H4
    go_wp2_with fail
    refine (put_calls w0 B p s k 1 line 3 0 xs _ H5.out (by omega) hs hl).mono ?_
    rintro e w7 ⟨rfl, h7⟩
    have H7 := Aside0.mk h7
    clear h7
    go_wp2_with fail
    rw [HT.out]
    exact ⟨rfl, H7.out⟩
theorem next_minus (w0 : World) (B p : Nat) (s : ByteArray) (k : Nat) (line : Int) (xs : List S28) (w : World) (h : Calls Tryd.prog 54 #[.pointer (some ⟨p, 0, none⟩)] w fun e w' => e = .returned (.bool false) ∧ ST w0 w' B p s k line xs)
    (hw : letters (s.data.toList.drop k) = 0) (hn : lead (s.data.toList.drop k) = 0) (hk : k < s.size) (hv : ((s[k]'hk).toNat : Int) = 45) (hs : s.size ≤ 4096) (hl : xs.length ≤ 4096) :
    Calls Tryd.prog 33 #[.pointer (some ⟨p, 0, none⟩)] w fun e w' => e = .returned (.bool true) ∧ ST w0 w' B p s (k + 1) line (xs ++ [⟨4, s.extract k (k + 1), 0, line⟩]) := by
  obtain ⟨T, hT⟩ : ∃ T : Ending → World → Prop, T = fun e w' => e = .returned (.bool true) ∧ ST w0 w' B p s (k + 1) line (xs ++ [⟨4, s.extract k (k + 1), 0, line⟩]) := ⟨_, rfl⟩
  have HT := Aside0.mk hT
  rw [← hT]
  clear hT
  have CW := Aside0.mk (fun w' (h' : ST w0 w' B p s k line xs) => word_calls w0 B p s k line xs w' h' (by omega) hs)
  rw [hw] at CW
  have CL := Aside0.mk (fun w' => lead_call s k hs (by omega) w')
  rw [hn] at CL
  have SE := slice_end s k (by omega)
  clear hn hw
  go_enter Tryd.func33, Tryd.ntmps33
  go_wp2_with fail
  refine h.mono ?_
  rintro e w1 ⟨rfl, h1⟩
  have H1 := Aside0.mk h1
  clear h1 h
  go_wp2_with fail
  refine (CW.out _ H1.out).mono ?_
  rintro e w2 ⟨rfl, h2⟩
  have H2 := Aside0.mk h2
  clear h2
  go_wp2_with fail
  refine reg_start (List.range 11) 11 (fun w' => ST w0 w' B p s k line xs) (by kernel_rfl) rfl (H2.out.drew 1) (fun hHeld => ?_)
  clear H1 H2
  generalize w2.drew = w3 at hHeld ⊢
  repeat (first | (refine reg_pure (v := ?_) (a' := ?_) rfl rfl rfl (by kernel_rfl) (fun _ _ _ h => h) (by rfl) ?_ ?_ ?_; rotate_left; (solve | (intro w'; go_simp; with_reducible rfl)); rotate_left; (solve | (simp only [Act.put, List.setIfInBounds_toArray, List.set_cons_zero, List.set_cons_succ, i64_w, i32_w]; rfl))) | (refine reg_load (v := ?_) (a' := ?_) rfl rfl rfl (by kernel_rfl) (fun _ _ _ h => h) (by rfl) ?_ hHeld ?_ ?_; rotate_left; (solve | (intro w' hs'; obtain ⟨v', ⟨c0', c1', c2', c3'⟩, f1', f2', f3'⟩ := hs'.cells; go_simp; with_reducible rfl)); rotate_left; (solve | (simp only [Act.put, List.setIfInBounds_toArray, List.set_cons_zero, List.set_cons_succ, i64_w, i32_w]; rfl)); intro hHeld))
  refine reg_call rfl rfl rfl (by kernel_rfl) (by rfl) Tryd.func31 (by kernel_rfl) rfl #[.string (s.extract k s.size)] rfl (by (try simp only [List.map_toArray, List.map_cons, List.map_nil]); first | done | rfl) ?_
  refine (CL.out _).mono ?_
  rintro e w4 ⟨rfl, hb⟩
  refine ⟨_, rfl, hHeld.on hb, fun hHeld => ?_⟩
  rintro a' ha'
  simp only [Act.put, List.setIfInBounds_toArray, List.set_cons_zero, List.set_cons_succ, i64_w, i32_w] at ha'
  subst ha'
  repeat (first | (refine reg_pure (v := ?_) (a' := ?_) rfl rfl rfl (by kernel_rfl) (fun _ _ _ h => h) (by rfl) ?_ ?_ ?_; rotate_left; (solve | (intro w'; go_simp; with_reducible rfl)); rotate_left; (solve | (simp only [Act.put, List.setIfInBounds_toArray, List.set_cons_zero, List.set_cons_succ, i64_w, i32_w]; rfl))) | (refine reg_load (v := ?_) (a' := ?_) rfl rfl rfl (by kernel_rfl) (fun _ _ _ h => h) (by rfl) ?_ hHeld ?_ ?_; rotate_left; (solve | (intro w' hs'; obtain ⟨v', ⟨c0', c1', c2', c3'⟩, f1', f2', f3'⟩ := hs'.cells; go_simp; with_reducible rfl)); rotate_left; (solve | (simp only [Act.put, List.setIfInBounds_toArray, List.set_cons_zero, List.set_cons_succ, i64_w, i32_w]; rfl)); intro hHeld))
  refine reg_done (by kernel_rfl) ?_
  have H4 := Aside0.mk hHeld
  clear hHeld hb
  go_wp2_with fail
  obtain ⟨v4, ⟨c0, c1, c2, c3⟩, f1, f2, f3⟩ := H4.out.cells
  go_quiet (fail)
  have H5 := Aside0.mk (H4.out.drew nq)
  clear c0 c1 c2 c3 f1 f2 f3 H4
  go_wp2_with fail
  refine (put_calls w0 B p s k 1 line 4 0 xs _ H5.out (by omega) hs hl).mono ?_
  rintro e w7 ⟨rfl, h7⟩
  have H7 := Aside0.mk h7
  clear h7
  go_wp2_with fail
  rw [HT.out]
  exact ⟨rfl, H7.out⟩
theorem next_none (w0 : World) (B p : Nat) (s : ByteArray) (k : Nat) (line : Int) (xs : List S28) (w : World) (h : Calls Tryd.prog 54 #[.pointer (some ⟨p, 0, none⟩)] w fun e w' => e = .returned (.bool false) ∧ ST w0 w' B p s k line xs)
    (hw : letters (s.data.toList.drop k) = 0) (hn : lead (s.data.toList.drop k) = 0) (hk : k < s.size) (h40 : (((s[k]'hk).toNat : Int) == 40) = false) (h41 : (((s[k]'hk).toNat : Int) == 41) = false) (h44 : (((s[k]'hk).toNat : Int) == 44) = false) (h59 : (((s[k]'hk).toNat : Int) == 59) = false) (h45 : (((s[k]'hk).toNat : Int) == 45) = false) (hs : s.size ≤ 4096) (hl : xs.length ≤ 4096) :
    Calls Tryd.prog 33 #[.pointer (some ⟨p, 0, none⟩)] w fun e w' => e = .returned (.bool false) ∧ ST w0 w' B p s k line xs := by
  obtain ⟨T, hT⟩ : ∃ T : Ending → World → Prop, T = fun e w' => e = .returned (.bool false) ∧ ST w0 w' B p s k line xs := ⟨_, rfl⟩
  have HT := Aside0.mk hT
  rw [← hT]
  clear hT
  have CW := Aside0.mk (fun w' (h' : ST w0 w' B p s k line xs) => word_calls w0 B p s k line xs w' h' (by omega) hs)
  rw [hw] at CW
  have CL := Aside0.mk (fun w' => lead_call s k hs (by omega) w')
  rw [hn] at CL
  have SE := slice_end s k (by omega)
  clear hn hw
  go_enter Tryd.func33, Tryd.ntmps33
  go_wp2_with fail
  refine h.mono ?_
  rintro e w1 ⟨rfl, h1⟩
  have H1 := Aside0.mk h1
  clear h1 h
  go_wp2_with fail
  refine (CW.out _ H1.out).mono ?_
  rintro e w2 ⟨rfl, h2⟩
  have H2 := Aside0.mk h2
  clear h2
  go_wp2_with fail
  refine reg_start (List.range 11) 11 (fun w' => ST w0 w' B p s k line xs) (by kernel_rfl) rfl (H2.out.drew 1) (fun hHeld => ?_)
  clear H1 H2
  generalize w2.drew = w3 at hHeld ⊢
  repeat (first | (refine reg_pure (v := ?_) (a' := ?_) rfl rfl rfl (by kernel_rfl) (fun _ _ _ h => h) (by rfl) ?_ ?_ ?_; rotate_left; (solve | (intro w'; go_simp; with_reducible rfl)); rotate_left; (solve | (simp only [Act.put, List.setIfInBounds_toArray, List.set_cons_zero, List.set_cons_succ, i64_w, i32_w]; rfl))) | (refine reg_load (v := ?_) (a' := ?_) rfl rfl rfl (by kernel_rfl) (fun _ _ _ h => h) (by rfl) ?_ hHeld ?_ ?_; rotate_left; (solve | (intro w' hs'; obtain ⟨v', ⟨c0', c1', c2', c3'⟩, f1', f2', f3'⟩ := hs'.cells; go_simp; with_reducible rfl)); rotate_left; (solve | (simp only [Act.put, List.setIfInBounds_toArray, List.set_cons_zero, List.set_cons_succ, i64_w, i32_w]; rfl)); intro hHeld))
  refine reg_call rfl rfl rfl (by kernel_rfl) (by rfl) Tryd.func31 (by kernel_rfl) rfl #[.string (s.extract k s.size)] rfl (by (try simp only [List.map_toArray, List.map_cons, List.map_nil]); first | done | rfl) ?_
  refine (CL.out _).mono ?_
  rintro e w4 ⟨rfl, hb⟩
  refine ⟨_, rfl, hHeld.on hb, fun hHeld => ?_⟩
  rintro a' ha'
  simp only [Act.put, List.setIfInBounds_toArray, List.set_cons_zero, List.set_cons_succ, i64_w, i32_w] at ha'
  subst ha'
  repeat (first | (refine reg_pure (v := ?_) (a' := ?_) rfl rfl rfl (by kernel_rfl) (fun _ _ _ h => h) (by rfl) ?_ ?_ ?_; rotate_left; (solve | (intro w'; go_simp; with_reducible rfl)); rotate_left; (solve | (simp only [Act.put, List.setIfInBounds_toArray, List.set_cons_zero, List.set_cons_succ, i64_w, i32_w]; rfl))) | (refine reg_load (v := ?_) (a' := ?_) rfl rfl rfl (by kernel_rfl) (fun _ _ _ h => h) (by rfl) ?_ hHeld ?_ ?_; rotate_left; (solve | (intro w' hs'; obtain ⟨v', ⟨c0', c1', c2', c3'⟩, f1', f2', f3'⟩ := hs'.cells; go_simp; with_reducible rfl)); rotate_left; (solve | (simp only [Act.put, List.setIfInBounds_toArray, List.set_cons_zero, List.set_cons_succ, i64_w, i32_w]; rfl)); intro hHeld))
  refine reg_done (by kernel_rfl) ?_
  have H4 := Aside0.mk hHeld
  clear hHeld hb
  go_wp2_with fail
  obtain ⟨v4, ⟨c0, c1, c2, c3⟩, f1, f2, f3⟩ := H4.out.cells
  go_quiet (fail)
  have H5 := Aside0.mk (H4.out.drew nq)
  clear c0 c1 c2 c3 f1 f2 f3 H4
  go_wp2_with fail
  rw [HT.out]
  exact ⟨rfl, H5.out⟩
end Go.Proofs.YtjllahglfpbemaaDoor.PGuardTells
