/- Words and walks that the last text of this claim stands on: OpenG. No condition. -/
import Derived.Test.YtcoaofaofmbfbaaB04
/- Arguments: a struct of a row of fields and of bytes. -/
namespace Go.Proofs.Ytcoaofaofmbfbaa
open Go.RowKit Go.Deep Go.ChangeShapes Go.WideShapes
section
variable {H : Type} {enc : TypeId × Value → H} {P : Program} {w : World} {base b0 : Nat} {spare : Nat → Bool} {held : Bool} {r : Reach}

/-- a row of fields that is a part of an argument -/
theorem Tr.fs {t e tb tu ti tn : TypeId} {f0 f1 f2 f3 : Field} {v : Value}
    (ht : P.underlying t = some (.slice e)) (he : P.underlying e = some (.struct #[f0, f1, f2, f3])) (hone : oneCellFields P #[f0, f1, f2, f3] = true) (hC : P.cellsOf e = 4)
    (h0 : f0.type = ti) (h1 : f1.type = ti) (h2 : f2.type = tu) (h3 : f3.type = tb)
    (hi : P.underlying ti = some (.int .i64)) (hu : P.underlying tu = some (.int .u64)) (hb : P.underlying tb = some (.slice tn)) (hn : P.underlying tn = some (.int .u8)) (hcn : P.cellsOf tn = 1)
    (h : Tr enc P w base spare held t [v]) : ∃ A n c l, v = .slice A n c ∧ Fs w A n l ∧ n ≤ c ∧ c ≤ maxLen := by
  obtain ⟨A, n, c, rows, hvv, hnc, hcm, hrl, hrows, hrd⟩ := h.slice ht hC (by omega)
  obtain ⟨l, hl, hok⟩ := list_map_of FV.cells (fun f => f.Ok w) rows (fun row hr => by
    obtain ⟨hlen, htr⟩ := hrows row hr
    obtain ⟨_, hf⟩ := htr.fields he hone hC
    match row, hlen with
    | [x0, x1, x2, x3], _ =>
      obtain ⟨v0, e0, t0⟩ := hf 0 f0 rfl
      obtain ⟨v1, e1, t1⟩ := hf 1 f1 rfl
      obtain ⟨v2, e2, t2⟩ := hf 2 f2 rfl
      obtain ⟨v3, e3, t3⟩ := hf 3 f3 rfl
      simp only [List.getElem?_cons_zero, List.getElem?_cons_succ, Option.some.injEq] at e0 e1 e2 e3
      subst e0 e1 e2 e3
      rw [h0] at t0; rw [h1] at t1; rw [h2] at t2; rw [h3] at t3
      obtain ⟨a, rfl, _⟩ := t0.int hi
      obtain ⟨b, rfl, _⟩ := t1.int hi
      obtain ⟨m, rfl, hm⟩ := t2.int hu
      obtain ⟨B, k, q, bs, rfl, hbs, hk, hq⟩ := t3.bytes hb hn hcn
      have hm2 : 0 ≤ m ∧ m < 18446744073709551616 := by
        simp [Lit.wf, IntKind.min, IntKind.max, IntKind.signed, IntKind.bits] at hm
        omega
      exact ⟨⟨a, b, m.toNat, B, k, q, bs⟩, by simp only [FV.cells]; rw [Int.toNat_of_nonneg hm2.1], ⟨hbs, hk, hq, by unfold U64; dsimp only; omega⟩⟩)
  exact ⟨A, n, c, l, hvv, ⟨by rw [hl] at hrd; exact hrd, hok⟩, hnc, hcm⟩
/-- a struct of a row of fields and of bytes -/
theorem open_fieldsBytes {ts tf e tb tu ti tn : TypeId} {f0 f1 f2 f3 : Field} {gs : Array Field} {v : Value} {d : DataW H} {p : List MemPlace} (hs : P.underlying ts = some (.struct gs)) (hgs : gs.toList.map (·.type) = [tf, tb]) (hones : oneCellFields P gs = true) (hCs : P.cellsOf ts = 2)
    (ht : P.underlying tf = some (.slice e)) (he : P.underlying e = some (.struct #[f0, f1, f2, f3])) (hone : oneCellFields P #[f0, f1, f2, f3] = true) (hC : P.cellsOf e = 4)
    (h0 : f0.type = ti) (h1 : f1.type = ti) (h2 : f2.type = tu) (h3 : f3.type = tb)
    (hi : P.underlying ti = some (.int .i64)) (hu : P.underlying tu = some (.int .u64)) (hb : P.underlying tb = some (.slice tn)) (hn : P.underlying tn = some (.int .u8)) (hcn : P.cellsOf tn = 1)
    (hv : Value.okWide P w r b0 ts v) (h : DataW.Trod enc P w base spare held ts v d p) : ∃ A n c l D m q b, v = .agg #[.slice A n c, .slice D m q] ∧ Fs w A n l ∧ n ≤ c ∧ c ≤ maxLen ∧ Bs w D m b ∧ m ≤ q ∧ q ≤ maxLen := by
  obtain ⟨cs, rfl, htr⟩ := open_struct hs hv h
  obtain ⟨hlen, hf⟩ := htr.typed hs hgs hones hCs
  match cs, hlen with
  | [x0, x1], _ =>
    obtain ⟨v0, e0, t0⟩ := hf 0 tf rfl
    obtain ⟨v1, e1, t1⟩ := hf 1 tb rfl
    simp only [List.getElem?_cons_zero, List.getElem?_cons_succ, Option.some.injEq] at e0 e1
    subst e0 e1
    obtain ⟨A, n, c, l, rfl, hfs, hnc, hcm⟩ := t0.fs ht he hone hC h0 h1 h2 h3 hi hu hb hn hcn
    obtain ⟨D, m, q, b, rfl, hB, hmq, hqm⟩ := t1.bytes hb hn hcn
    exact ⟨A, n, c, l, D, m, q, b, rfl, hfs, hnc, hcm, hB, hmq, hqm⟩
end
end Go.Proofs.Ytcoaofaofmbfbaa
