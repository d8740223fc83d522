/- Two numbers and a row of numbers as an argument. No program in sight. -/
import Derived.Test.YtcdnjhcddbkciaaCat
namespace Go.Proofs.Ytcdnjhcddbkciaa
open Go.RowKit Go.Deep Go.ChangeShapes Go.WideShapes
section
variable {H : Type} {enc : TypeId × Value → H} {P : Program} {w : World} {base b0 : Nat} {spare : Nat → Bool} {held : Bool} {r : Reach}
theorem open_two {ts tl ti : TypeId} {gs : Array Field} {v : Value} {d : DataW H} {p : List MemPlace} (hs : P.underlying ts = some (.struct gs)) (hgs : gs.toList.map (·.type) = [ti, ti, tl]) (hones : oneCellFields P gs = true) (hCs : P.cellsOf ts = 3)
    (hi : P.underlying ti = some (.int .i64)) (hl : P.underlying tl = some (.slice ti)) (hc : P.cellsOf ti = 1)
    (hv : Value.okWide P w r b0 ts v) (h : DataW.Trod enc P w base spare held ts v d p) : ∃ xa xb D m q yl, v = .agg #[.int .i64 xa, .int .i64 xb, .slice D m q] ∧ Is w D m yl ∧ m ≤ q ∧ q ≤ maxLen := by
  obtain ⟨cs, rfl, htr⟩ := open_struct hs hv h
  obtain ⟨hlen, hf⟩ := htr.typed hs hgs hones hCs
  match cs, hlen with
  | [x0, x1, x2], _ =>
    obtain ⟨v0, e0, t0⟩ := hf 0 ti rfl
    obtain ⟨v1, e1, t1⟩ := hf 1 ti rfl
    obtain ⟨v2, e2, t2⟩ := hf 2 tl rfl
    simp only [List.getElem?_cons_zero, List.getElem?_cons_succ, Option.some.injEq] at e0 e1 e2
    subst e0 e1 e2
    obtain ⟨a0, rfl, _⟩ := t0.i64 hi
    obtain ⟨a1, rfl, _⟩ := t1.i64 hi
    obtain ⟨A, n, c, l, rfl, hB, hnc, hcm, _⟩ := t2.ints hl hi hc
    exact ⟨a0, a1, A, n, c, l, rfl, hB, hnc, hcm⟩
end
end Go.Proofs.Ytcdnjhcddbkciaa
