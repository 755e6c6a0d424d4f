/- How floats compare: plain laws. -/
import Derived.Test.YtjllahglfpbemaaDoorFloat
namespace Go.Proofs.YtjllahglfpbemaaDoor.Fl
open Go Go.RowKit Ieee

theorem order_swap (d e : Datum) : e.order d = (d.order e).map Ordering.swap := by
  cases d with
  | nan _ _ => cases e <;> rfl
  | infinity s =>
    cases e with
    | nan _ _ => rfl
    | infinity t =>
      show some (compare s.toNat t.toNat) = some (compare t.toNat s.toNat).swap
      rw [Std.OrientedCmp.eq_swap (cmp := compare) (a := s.toNat)]
    | number t n j => cases s <;> rfl
  | number s m i =>
    cases e with
    | nan _ _ => rfl
    | infinity t => cases t <;> rfl
    | number t n j =>
      show some (compare (signed t n (j - min j i).toNat) (signed s m (i - min j i).toNat)) = some (compare (signed s m (i - min i j).toNat) (signed t n (j - min i j).toNat)).swap
      rw [Int.min_comm j i, Std.OrientedCmp.eq_swap (cmp := compare) (a := signed t n (j - min i j).toNat)]
theorem order_self (d : Datum) : d.order d = none ∨ d.order d = some .eq := by
  cases d with
  | nan _ _ => exact .inl rfl
  | infinity s => exact .inr (congrArg some (Std.ReflCmp.compare_self (cmp := compare) (a := s.toNat)))
  | number s m i => exact .inr (congrArg some (Std.ReflCmp.compare_self (cmp := compare) (a := signed s m (i - min i i).toNat)))
theorem order_none (d e : Datum) (h : d.order d = none) : d.order e = none := by
  cases d <;> cases e <;> simp_all [Datum.order]
theorem order_some (d e : Datum) (h1 : d.order d = some .eq) (h2 : e.order e = some .eq) : ∃ o, d.order e = some o := by
  cases d <;> cases e <;> simp_all [Datum.order]
theorem ord_swap (a b : Nat) : ord b a = (ord a b).map Ordering.swap := order_swap _ _
theorem ord_nan {a : Nat} (h : eqF a a = false) (b : Nat) : ord a b = none ∧ ord b a = none := by
  have h1 : ord a a = none := by
    rcases order_self (FloatKind.f64.format.read a) with e | e
    · exact e
    · have : ord a a = some .eq := e
      unfold eqF at h; rw [this] at h; cases h
  have h2 : ord a b = none := order_none _ _ h1
  exact ⟨h2, by rw [ord_swap a b, h2]; rfl⟩
theorem ord_two {a b : Nat} (ha : eqF a a = true) (hb : eqF b b = true) : ∃ o, ord a b = some o ∧ ord b a = some o.swap := by
  have h1 : ord a a = some .eq := eq_of_beq ha
  have h2 : ord b b = some .eq := eq_of_beq hb
  obtain ⟨o, ho⟩ := order_some _ _ h1 h2
  have ho : ord a b = some o := ho
  exact ⟨o, ho, by rw [ord_swap a b, ho]; rfl⟩
theorem leF_self {a : Nat} (h : eqF a a = true) : leF a a = true := by
  have h1 : ord a a = some .eq := eq_of_beq h
  unfold leF; rw [h1]; rfl
theorem le_nan {a : Nat} (h : eqF a a = false) (b : Nat) : leF a b = false ∧ leF b a = false ∧ ltF a b = false ∧ ltF b a = false ∧ eqF a b = false ∧ eqF b a = false := by
  obtain ⟨h1, h2⟩ := ord_nan h b
  unfold leF ltF eqF
  rw [h1, h2]
  exact ⟨rfl, rfl, rfl, rfl, rfl, rfl⟩
theorem lt_two {a b : Nat} (h : ltF a b = true) : leF a b = true ∧ leF b a = false ∧ eqF a a = true ∧ eqF b b = true := by
  have h1 : ord a b = some .lt := eq_of_beq h
  refine ⟨by unfold leF; rw [h1]; rfl, by unfold leF; rw [ord_swap a b, h1]; rfl, ?_, ?_⟩
  · cases e : eqF a a
    · rw [(ord_nan e b).1] at h1; cases h1
    · rfl
  · cases e : eqF b b
    · rw [(ord_nan e a).2] at h1; cases h1
    · rfl
end Go.Proofs.YtjllahglfpbemaaDoor.Fl
