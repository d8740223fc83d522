/- A field that is an argument by value. No program in sight. -/
import Derived.Test.YtjfohlnkdagjcaaField
namespace Go.Proofs.Ytjfohlnkdagjcaa
open Go.RowKit Go.Deep Go.ChangeShapes Go.WideShapes

theorem fv_of_cells {H : Type} {enc : TypeId × Value → H} {P : Program} {w : World} {base : Nat} {spare : Nat → Bool} {held : Bool} {e tb tu ti tn : TypeId} {f0 f1 f2 f3 : Field} {cs : List Value}
    (he : P.underlying e = some (.struct #[f0, f1, f2, f3])) (hone : oneCellFields P #[f0, f1, f2, f3] = true) (hC : P.cellsOf e = 4)
    (h0 : f0.type = ti) (h1 : f1.type = ti) (h2 : f2.type = tu) (h3 : f3.type = tb)
    (hi : P.underlying ti = some (.int .i64)) (hu : P.underlying tu = some (.int .u64)) (hb : P.underlying tb = some (.slice tn)) (hn : P.underlying tn = some (.int .u8)) (hcn : P.cellsOf tn = 1)
    (htr : Tr enc P w base spare held e cs) : ∃ f : FV, cs = f.cells ∧ f.Ok w := by
  obtain ⟨hlen, hf⟩ := htr.fields he hone hC
  match cs, hlen with
  | [x0, x1, x2, x3], _ =>
    obtain ⟨v0, e0, t0⟩ := hf 0 f0 rfl
    obtain ⟨v1, e1, t1⟩ := hf 1 f1 rfl
    obtain ⟨v2, e2, t2⟩ := hf 2 f2 rfl
    obtain ⟨v3, e3, t3⟩ := hf 3 f3 rfl
    simp only [List.getElem?_cons_zero, List.getElem?_cons_succ, Option.some.injEq] at e0 e1 e2 e3
    subst e0 e1 e2 e3
    rw [h0] at t0; rw [h1] at t1; rw [h2] at t2; rw [h3] at t3
    obtain ⟨a, rfl, _⟩ := t0.int hi
    obtain ⟨b, rfl, _⟩ := t1.int hi
    obtain ⟨m, rfl, hm⟩ := t2.int hu
    obtain ⟨B, k, q, bs, rfl, hbs, hk, hq⟩ := t3.bytes hb hn hcn
    have hm2 : 0 ≤ m ∧ m < 18446744073709551616 := by
      simp [Lit.wf, IntKind.min, IntKind.max, IntKind.signed, IntKind.bits] at hm
      omega
    exact ⟨⟨a, b, m.toNat, B, k, q, bs⟩, by simp only [FV.cells]; rw [Int.toNat_of_nonneg hm2.1], ⟨hbs, hk, hq, by unfold U64; dsimp only; omega⟩⟩

theorem open_field {H : Type} {enc : TypeId × Value → H} {P : Program} {w : World} {base b0 : Nat} {spare : Nat → Bool} {held : Bool} {r : Reach} {e tb tu ti tn : TypeId} {f0 f1 f2 f3 : Field} {v : Value} {d : DataW H} {p : List MemPlace}
    (he : P.underlying e = some (.struct #[f0, f1, f2, f3])) (hone : oneCellFields P #[f0, f1, f2, f3] = true) (hC : P.cellsOf e = 4)
    (h0 : f0.type = ti) (h1 : f1.type = ti) (h2 : f2.type = tu) (h3 : f3.type = tb)
    (hi : P.underlying ti = some (.int .i64)) (hu : P.underlying tu = some (.int .u64)) (hb : P.underlying tb = some (.slice tn)) (hn : P.underlying tn = some (.int .u8)) (hcn : P.cellsOf tn = 1)
    (hv : Value.okWide P w r b0 e v) (h : DataW.Trod enc P w base spare held e v d p) : ∃ f : FV, v = f.val ∧ f.Ok w := by
  obtain ⟨cs, rfl, htr⟩ := open_struct he hv h
  obtain ⟨f, rfl, hok⟩ := fv_of_cells he hone hC h0 h1 h2 h3 hi hu hb hn hcn htr
  exact ⟨f, rfl, hok⟩
end Go.Proofs.Ytjfohlnkdagjcaa
