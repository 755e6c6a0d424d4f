/- lex.reader: the state of a reading; word, skip, walked by hand. -/
import Derived.Test.YtjllahglfpbemaaDoorLexPut
import Derived.Test.YtjllahglfpbemaaDoorLexPure
import Derived.Test.YtjllahglfpbemaaDoorLib2
import Derived.Shelf.Small.Strs
namespace Go.Proofs.YtjllahglfpbemaaDoor.PGuardTells
open Go Go.RowKit Go.Proofs.YtjllahglfpbemaaDoorW.PrintWords Go.Proofs.YtjllahglfpbemaaDoorW.PrintLast Go.Proofs.YtjllahglfpbemaaDoorW.PrintMore
set_option maxHeartbeats 2000000
set_option maxRecDepth 100000
set_option linter.unusedVariables false
set_option linter.unusedSimpArgs false
/-- Where a reading stands. -/
structure ST (w0 w : World) (B p : Nat) (s : ByteArray) (k : Nat) (line : Int) (xs : List S28) : Prop where
  base : B ≤ p
  rd : ∃ v, RD w p s (k : Int) line v ∧ Kd.R k28 28 w B (fun q => q ≠ p) v xs
  below : Below B w0 w
theorem ST.lt {w0 w : World} {B p : Nat} {s : ByteArray} {k : Nat} {line : Int} {xs : List S28} (h : ST w0 w B p s k line xs) : p < w.heap.size := by
  obtain ⟨v, hr, _⟩ := h.rd
  exact blk_lt hr
theorem ST.on {w0 w w' : World} {B p : Nat} {s : ByteArray} {k : Nat} {line : Int} {xs : List S28} (h : ST w0 w B p s k line xs) (hb : Below w.heap.size w w') : ST w0 w' B p s k line xs := by
  obtain ⟨v, hr, hv⟩ := h.rd
  exact ⟨h.base, ⟨v, blk_below hr hb, Kd.R_step hv (fun k _ hk => hb.block k hk)⟩, below_then h.below (by have := h.lt; have := h.base; omega) hb⟩
theorem ST.drew {w0 w : World} {B p : Nat} {s : ByteArray} {k : Nat} {line : Int} {xs : List S28} (h : ST w0 w B p s k line xs) (n : Nat) : ST w0 (w.drewN n) B p s k line xs := h.on (pw_below_drewN (Below.refl _ _) n)
theorem ST.at_ {w0 w : World} {B p : Nat} {s : ByteArray} {k : Nat} {line : Int} {xs : List S28} (h : ST w0 w B p s k line xs) (j : Nat) : ST w0 (w.setCell ⟨p, 1, none⟩ (.int .i64 (j : Int))) B p s j line xs := by
  obtain ⟨v, hr, hv⟩ := h.rd
  exact ⟨h.base, ⟨v, (blk_set hr 1 _).trans rfl, Kd.R_far hv (p := ⟨p, 1, none⟩) (fun q hq => hq) _⟩, h.below.setCell (p := ⟨p, 1, none⟩) h.base _⟩
theorem ST.line_ {w0 w : World} {B p : Nat} {s : ByteArray} {k : Nat} {line : Int} {xs : List S28} (h : ST w0 w B p s k line xs) (j : Int) : ST w0 (w.setCell ⟨p, 2, none⟩ (.int .i64 j)) B p s k j xs := by
  obtain ⟨v, hr, hv⟩ := h.rd
  exact ⟨h.base, ⟨v, (blk_set hr 2 _).trans rfl, Kd.R_far hv (p := ⟨p, 2, none⟩) (fun q hq => hq) _⟩, h.below.setCell (p := ⟨p, 2, none⟩) h.base _⟩
theorem ST.cells {w0 w : World} {B p : Nat} {s : ByteArray} {k : Nat} {line : Int} {xs : List S28} (h : ST w0 w B p s k line xs) : ∃ v, (w.cell? ⟨p, 0, none⟩ = some (.string s) ∧ w.cell? ⟨p, 1, none⟩ = some (.int .i64 (k : Int)) ∧ w.cell? ⟨p, 2, none⟩ = some (.int .i64 line) ∧ w.cell? ⟨p, 3, none⟩ = some v) ∧ w.frozen? ⟨p, 1, none⟩ = false ∧ w.frozen? ⟨p, 2, none⟩ = false ∧ w.frozen? ⟨p, 3, none⟩ = false := by
  obtain ⟨v, hr, hv⟩ := h.rd
  exact ⟨v, rd_cells hr⟩
theorem extract_list (s : ByteArray) (a b : Nat) : (s.extract a b).data.toList = (s.data.toList.take b).drop a := by
  simp [ByteArray.data_extract, List.drop_take]
theorem extract_end (s : ByteArray) (k : Nat) : (s.extract k s.size).data.toList = s.data.toList.drop k := by
  rw [extract_list, List.take_of_length_le (by rw [size_list]; exact Nat.le_refl _)]
theorem trim_letters (l : List UInt8) : (Lib.trimLeftS l abc).length + letters l = l.length := by
  have := congrArg List.length (List.takeWhile_append_dropWhile (p := (abc.contains ·)) (l := l))
  rw [List.length_append] at this
  unfold Lib.trimLeftS letters
  omega
/-- strings.TrimLeft at the letters. -/
theorem trim_abc (s : ByteArray) (w : World) : Calls Tryd.prog 53 #[.string s, .string ⟨#[97, 98, 99, 100, 101, 102, 103, 104, 105, 106, 107, 108, 109, 110, 111, 112, 113, 114, 115, 116, 117, 118, 119, 120, 121, 122]⟩] w fun e w' => e = .returned (.string (strOf (Lib.trimLeftS s.data.toList abc))) ∧ Below w.heap.size w w' :=
  Any.strings_TrimLeft_laid Tryd.trimR (by kernel_rfl) s ⟨#[97, 98, 99, 100, 101, 102, 103, 104, 105, 106, 107, 108, 109, 110, 111, 112, 113, 114, 115, 116, 117, 118, 119, 120, 121, 122]⟩ w (by decide) (ascii_of_all (by decide))
theorem index_lf (s : ByteArray) (w : World) : Calls Tryd.prog 67 #[.string s, .int .u8 10] w fun e w' => e = .returned (.int .i64 (Lib.indexByte s.data.toList 10)) ∧ w' = w :=
  Any.strings_IndexByte Tryd.indexR s 10 w
theorem word_calls (w0 : World) (B p : Nat) (s : ByteArray) (k : Nat) (line : Int) (xs : List S28) (w : World) (h : ST w0 w B p s k line xs) (hk : k ≤ s.size) (hs : s.size ≤ 4096) : Calls Tryd.prog 55 #[.pointer (some ⟨p, 0, none⟩)] w fun e w' => e = .returned (.int .i64 ((letters (s.data.toList.drop k) : Nat) : Int)) ∧ ST w0 w' B p s k line xs := by
  obtain ⟨v, ⟨c0, c1, c2, c3⟩, _⟩ := h.cells
  have hsl : ∀ w' : World, (Instr.slice 9 (.string s) (some (.int .i64 (k : Int))) none none).run Tryd.prog w' = .ok (.string (s.extract k s.size)) w' := fun w' => by
    have h := run_slice_string_l (P := Tryd.prog) w' 9 s Tryd.underlying9 .i64 (k : Int) (by omega) (by omega)
    rw [Int.toNat_natCast] at h
    exact h
  have hln : (s.extract k s.size).data.toList.length = s.size - k := by rw [extract_end, List.length_drop, size_list]
  have htr := trim_letters (s.data.toList.drop k)
  rw [← extract_end] at htr ⊢
  obtain ⟨T, hT⟩ : ∃ T : Ending → World → Prop, T = fun e w' => e = .returned (.int .i64 ((letters (s.extract k s.size).data.toList : Nat) : Int)) ∧ ST w0 w' B p s k line xs := ⟨_, rfl⟩
  have HT := Aside0.mk hT
  rw [← hT]
  clear hT
  have H := Aside0.mk h
  have TR := Aside0.mk (trim_abc (s.extract k s.size))
  rw [hln] at htr
  have hsz : (s.extract k s.size).size = s.size - k := by rw [size_list]; exact hln
  have hsz2 : (strOf (Lib.trimLeftS (s.extract k s.size).data.toList abc)).size + letters (s.extract k s.size).data.toList = s.size - k := by rw [size_list, strOf_list]; exact htr
  generalize (strOf (Lib.trimLeftS (s.extract k s.size).data.toList abc)) = tr at TR hsz2
  generalize letters (s.extract k s.size).data.toList = nl at HT hsz2
  generalize s.extract k s.size = rest at hsl TR hsz
  clear h hln htr
  go_enter Tryd.func55, Tryd.ntmps55
  go_wp2_with fail
  go_quiet (fail)
  go_wp2_with fail
  refine (TR.out _).mono ?_
  rintro e w2 ⟨rfl, hb⟩
  have H2 := Aside0.mk ((H.out.drew nq).on hb)
  clear c0 c1 c2 c3 hb
  go_wp2_with fail
  rw [HT.out]
  have e1 : ((s.size - k : Nat) : Int) - (tr.size : Int) = (nl : Int) := by omega
  exact ⟨congrArg (fun x => Ending.returned (.int .i64 x)) e1, H2.out⟩
theorem skip_lf (w0 : World) (B p : Nat) (s : ByteArray) (k : Nat) (line : Int) (xs : List S28) (w : World) (h : ST w0 w B p s k line xs) (hk : k < s.size) (hs : s.size ≤ 4096) (hl0 : 0 ≤ line) (hl1 : line ≤ 5000) (hv : ((s[k]'hk).toNat : Int) = 10) : Calls Tryd.prog 54 #[.pointer (some ⟨p, 0, none⟩)] w fun e w' => e = .returned (.bool true) ∧ ST w0 w' B p s (k + 1) (line + 1) xs := by
  obtain ⟨v, ⟨c0, c1, c2, c3⟩, f1, f2, f3⟩ := h.cells
  obtain ⟨T, hT⟩ : ∃ T : Ending → World → Prop, T = fun e w' => e = .returned (.bool true) ∧ ST w0 w' B p s (k + 1) (line + 1) xs := ⟨_, rfl⟩
  have HT := Aside0.mk hT
  rw [← hT]
  clear hT
  have H := Aside0.mk h
  clear h
  go_enter Tryd.func54, Tryd.ntmps54
  go_wp2_with fail
  go_quiet (fail)
  go_wp2_with fail
  rw [HT.out]
  exact ⟨rfl, ((H.out.drew nq).line_ _).at_ (k + 1)⟩
theorem skip_blank (w0 : World) (B p : Nat) (s : ByteArray) (k : Nat) (line : Int) (xs : List S28) (w : World) (h : ST w0 w B p s k line xs) (hk : k < s.size) (hs : s.size ≤ 4096) (hl0 : 0 ≤ line) (hl1 : line ≤ 5000) (hv : ((s[k]'hk).toNat : Int) = 32 ∨ ((s[k]'hk).toNat : Int) = 9 ∨ ((s[k]'hk).toNat : Int) = 13) : Calls Tryd.prog 54 #[.pointer (some ⟨p, 0, none⟩)] w fun e w' => e = .returned (.bool true) ∧ ST w0 w' B p s (k + 1) line xs := by
  obtain ⟨v, ⟨c0, c1, c2, c3⟩, f1, f2, f3⟩ := h.cells
  obtain ⟨T, hT⟩ : ∃ T : Ending → World → Prop, T = fun e w' => e = .returned (.bool true) ∧ ST w0 w' B p s (k + 1) line xs := ⟨_, rfl⟩
  have HT := Aside0.mk hT
  rw [← hT]
  clear hT
  have H := Aside0.mk h
  clear h
  rcases hv with hv | hv | hv
  all_goals
    go_enter Tryd.func54, Tryd.ntmps54
    go_wp2_with fail
    go_quiet (fail)
    go_wp2_with fail
    rw [HT.out]
    exact ⟨rfl, (H.out.drew nq).at_ (k + 1)⟩
theorem skip_no (w0 : World) (B p : Nat) (s : ByteArray) (k : Nat) (line : Int) (xs : List S28) (w : World) (h : ST w0 w B p s k line xs) (hk : k < s.size) (hs : s.size ≤ 4096) (hl0 : 0 ≤ line) (hl1 : line ≤ 5000) (h10 : (((s[k]'hk).toNat : Int) == 10) = false) (h32 : (((s[k]'hk).toNat : Int) == 32) = false) (h9 : (((s[k]'hk).toNat : Int) == 9) = false) (h13 : (((s[k]'hk).toNat : Int) == 13) = false) (h35 : (((s[k]'hk).toNat : Int) == 35) = false) : Calls Tryd.prog 54 #[.pointer (some ⟨p, 0, none⟩)] w fun e w' => e = .returned (.bool false) ∧ ST w0 w' B p s k line xs := by
  obtain ⟨v, ⟨c0, c1, c2, c3⟩, f1, f2, f3⟩ := h.cells
  obtain ⟨T, hT⟩ : ∃ T : Ending → World → Prop, T = fun e w' => e = .returned (.bool false) ∧ ST w0 w' B p s k line xs := ⟨_, rfl⟩
  have HT := Aside0.mk hT
  rw [← hT]
  clear hT
  have H := Aside0.mk h
  clear h
  go_enter Tryd.func54, Tryd.ntmps54
  go_wp2_with fail
  go_quiet (fail)
  go_wp2_with fail
  rw [HT.out]
  exact ⟨rfl, H.out.drew nq⟩
theorem index_tw (l : List UInt8) : Lib.indexByte l 10 = if (l.takeWhile noLF).length = l.length then -1 else (((l.takeWhile noLF).length : Nat) : Int) := by
  induction l with
  | nil => rfl
  | cons c l ih =>
    rw [Lib.indexByte, List.takeWhile_cons]
    by_cases hc : (c == 10) = true
    · have hn : noLF c = false := by unfold noLF; rw [hc]; rfl
      rw [if_pos hc, hn, if_neg (by simp), if_neg (by simp)]; rfl
    · have hn : noLF c = true := by unfold noLF; rw [Bool.not_eq_true] at hc; rw [hc]; rfl
      rw [if_neg hc, hn, if_pos rfl, ih]
      by_cases he : (l.takeWhile noLF).length = l.length
      · rw [if_pos he, if_pos (by decide), if_pos (by simp [he])]
      · rw [if_neg he, if_neg (by simp), if_neg (by simpa using he), List.length_cons]; omega
theorem quiet_again {P : Program} {f : FuncId} {args : Array Value} {w : World} {a n : Nat} {v : Value} (h : Calls P f args (w.drewN (a + n)) fun e w' => e = .returned v ∧ w' = w.drewN (a + n)) :
    Calls P f args (w.drewN (a + n)) fun e w'' => e = .returned v ∧ ∃ m, w'' = w.drewN (a + m) :=
  h.mono fun _ _ ⟨he, hm⟩ => ⟨he, n, hm⟩
theorem skip_rem (w0 : World) (B p : Nat) (s : ByteArray) (k : Nat) (line : Int) (xs : List S28) (w : World) (h : ST w0 w B p s k line xs) (hk : k < s.size) (hs : s.size ≤ 4096) (hv : ((s[k]'hk).toNat : Int) = 35) : Calls Tryd.prog 54 #[.pointer (some ⟨p, 0, none⟩)] w fun e w' => e = .returned (.bool true) ∧ ST w0 w' B p s (k + ((s.data.toList.drop k).takeWhile noLF).length) line xs := by
  obtain ⟨v, ⟨c0, c1, c2, c3⟩, f1, f2, f3⟩ := h.cells
  have hix := index_tw (s.data.toList.drop k)
  have hle : ((s.data.toList.drop k).takeWhile noLF).length ≤ s.size - k := by
    have := List.Sublist.length_le (List.takeWhile_sublist (p := noLF) (l := s.data.toList.drop k))
    rw [List.length_drop, ← size_list] at this
    exact this
  rw [List.length_drop, ← size_list, ← extract_end s k] at hix
  obtain ⟨T, hT⟩ : ∃ T : Ending → World → Prop, T = fun e w' => e = .returned (.bool true) ∧ ST w0 w' B p s (k + ((s.data.toList.drop k).takeWhile noLF).length) line xs := ⟨_, rfl⟩
  have HT := Aside0.mk hT
  rw [← hT]
  clear hT
  have IX := index_lf (s.extract k s.size)
  rw [← extract_end s k] at HT hle
  have hsl : ∀ w' : World, (Instr.slice 9 (.string s) (some (.int .i64 (k : Int))) none none).run Tryd.prog w' = .ok (.string (s.extract k s.size)) w' := fun w' => by
    have h := run_slice_string_l (P := Tryd.prog) w' 9 s Tryd.underlying9 .i64 (k : Int) (by omega) (by omega)
    rw [Int.toNat_natCast] at h
    exact h
  generalize ((s.extract k s.size).data.toList.takeWhile noLF).length = m at HT hix hle
  rw [hix] at IX
  clear hix
  generalize s.extract k s.size = rest at hsl IX
  have H := Aside0.mk h
  clear h
  by_cases hm : m = s.size - k
  · rw [if_pos hm] at IX
    go_enter Tryd.func54, Tryd.ntmps54
    go_wp2_with fail
    go_quiet (fail)
    go_wp2_with fail
    go_quiet ((go_at_call 67; exact quiet_again (IX _)))
    go_wp2_with fail
    rw [HT.out]
    exact ⟨rfl, by rw [show k + m = s.size by omega]; exact ((H.out.drew _).at_ s.size)⟩
  · rw [if_neg hm] at IX
    have e1 : wrap64 ((k : Int) + (m : Int)) = ((k + m : Nat) : Int) := by unfold wrap64; omega
    go_enter Tryd.func54, Tryd.ntmps54
    go_wp2_with fail
    go_quiet (fail)
    go_wp2_with fail
    go_quiet ((go_at_call 67; exact quiet_again (IX _)))
    go_wp2_with fail
    rw [HT.out]
    exact ⟨rfl, ((H.out.drew _).at_ (k + m))⟩
end Go.Proofs.YtjllahglfpbemaaDoor.PGuardTells
