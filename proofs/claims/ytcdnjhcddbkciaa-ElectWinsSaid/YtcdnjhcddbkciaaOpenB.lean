/- A struct of a number and a row of bools, and a row of bools, that are arguments. No program in sight. -/
import Derived.Test.YtcdnjhcddbkciaaElE
namespace Go.Proofs.Ytcdnjhcddbkciaa
open Go.RowKit Go.Deep Go.ChangeShapes Go.WideShapes

section
variable {H : Type} {enc : TypeId × Value → H} {P : Program} {w : World} {base b0 : Nat} {spare : Nat → Bool} {held : Bool} {r : Reach}
theorem flatten_one {α β : Type} (f : α → β) (l : List α) : (l.map fun x => [f x]).flatten = l.map f := by
  induction l with
  | nil => rfl
  | cons a r ih => simp [ih]
theorem Tr.bools {t e : TypeId} {v : Value} (ht : P.underlying t = some (.slice e)) (he : P.underlying e = some .bool) (hC : P.cellsOf e = 1) (h : Tr enc P w base spare held t [v]) : ∃ A n c l, v = .slice A n c ∧ Bl w A n l ∧ n ≤ c ∧ c ≤ maxLen := by
  obtain ⟨A, n, c, rows, hvv, hnc, hcm, hrl, hrows, hrd⟩ := h.slice ht hC (by omega)
  obtain ⟨l, hl, _⟩ := list_map_of (fun b => [Value.bool b]) (fun _ => True) rows (fun row hr => by
    obtain ⟨hlen, htr⟩ := hrows row hr
    match row, hlen with
    | [x0], _ =>
      obtain ⟨b, rfl⟩ := htr.bool he
      exact ⟨b, rfl, trivial⟩)
  refine ⟨A, n, c, l, hvv, ?_, hnc, hcm⟩
  rw [hl, flatten_one] at hrd
  exact hrd
theorem open_bools {t e : TypeId} {v : Value} {d : DataW H} {p : List MemPlace} (ht : P.underlying t = some (.slice e)) (he : P.underlying e = some .bool) (hC : P.cellsOf e = 1)
    (hv : Value.okWide P w r b0 t v) (h : DataW.Trod enc P w base spare held t v d p) : ∃ A n c l, v = .slice A n c ∧ Bl w A n l ∧ n ≤ c ∧ c ≤ maxLen := (open_slice_val ht hv h).bools ht he hC
theorem open_other {ts tl ti tb : TypeId} {gs : Array Field} {v : Value} {d : DataW H} {p : List MemPlace} (hs : P.underlying ts = some (.struct gs)) (hgs : gs.toList.map (·.type) = [ti, tl]) (hones : oneCellFields P gs = true) (hCs : P.cellsOf ts = 2)
    (hi : P.underlying ti = some (.int .i64)) (hl : P.underlying tl = some (.slice tb)) (hb : P.underlying tb = some .bool) (hcb : P.cellsOf tb = 1)
    (hv : Value.okWide P w r b0 ts v) (h : DataW.Trod enc P w base spare held ts v d p) : ∃ yn D m q yl, v = .agg #[.int .i64 yn, .slice D m q] ∧ Bl w D m yl ∧ m ≤ q ∧ q ≤ maxLen := by
  obtain ⟨cs, rfl, htr⟩ := open_struct hs hv h
  obtain ⟨hlen, hf⟩ := htr.typed hs hgs hones hCs
  match cs, hlen with
  | [x0, x1], _ =>
    obtain ⟨v0, e0, t0⟩ := hf 0 ti rfl
    obtain ⟨v1, e1, t1⟩ := hf 1 tl rfl
    simp only [List.getElem?_cons_zero, List.getElem?_cons_succ, Option.some.injEq] at e0 e1
    subst e0 e1
    obtain ⟨a0, rfl, h0⟩ := t0.i64 hi
    obtain ⟨A, n, c, l, rfl, hB, hnc, hcm⟩ := t1.bools hl hb hcb
    exact ⟨a0, A, n, c, l, rfl, hB, hnc, hcm⟩
end
end Go.Proofs.Ytcdnjhcddbkciaa
