/- The law TagSkips, at arguments as they come in. -/
import Derived.Test.YtjfohlnkdagjcaaTagV
import Derived.Test.YtjfohlnkdagjcaaEntry
namespace Go.Proofs.Ytjfohlnkdagjcaa
open Go.RowKit Go.Deep Go.ChangeShapes Go.WideShapes

theorem law_TagSkips_i (num a : Int) (A : Option Addr) (len c : Nat) (l : List UInt8) (at_ : Int) (w : World) (ha : (Lit.int .u64 a).wf = true) (hb : Bs w A len l) (hnc : len ≤ c) (hcm : c ≤ maxLen) :
    Calls Try.prog 5 #[.int .i64 num, .int .u64 a, .agg #[.slice A len c, .int .i64 at_]] w fun e w' => e = .returned (.bool true) ∧ Ext w w' := by
  have h : 0 ≤ a ∧ a < 18446744073709551616 := by
    simp [Lit.wf, IntKind.min, IntKind.max, IntKind.signed, IntKind.bits] at ha
    omega
  obtain ⟨n, rfl⟩ := Int.eq_ofNat_of_zero_le h.1
  exact law_TagSkips num n A len c l at_ w (by unfold U64; omega) hb hnc hcm

section
variable {H : Type} {enc : TypeId × Value → H} {P : Program} {w : World} {base b0 : Nat} {spare : Nat → Bool} {held : Bool} {r : Reach}
/-- bytes and a number, as an argument -/
theorem open_data {ts ti tb tn : TypeId} {gs : Array Field} {v : Value} {d : DataW H} {p : List MemPlace}
    (hs : P.underlying ts = some (.struct gs)) (hgs : gs.toList.map (·.type) = [tb, ti]) (hones : oneCellFields P gs = true) (hCs : P.cellsOf ts = 2)
    (hi : P.underlying ti = some (.int .i64)) (hb : P.underlying tb = some (.slice tn)) (hn : P.underlying tn = some (.int .u8)) (hcn : P.cellsOf tn = 1)
    (hv : Value.okWide P w r b0 ts v) (h : DataW.Trod enc P w base spare held ts v d p) : ∃ A n c l a, v = .agg #[.slice A n c, .int .i64 a] ∧ Bs w A n l ∧ n ≤ c ∧ c ≤ maxLen := by
  obtain ⟨cs, rfl, htr⟩ := open_struct hs hv h
  obtain ⟨hlen, hf⟩ := htr.typed hs hgs hones hCs
  match cs, hlen with
  | [x0, x1], _ =>
    obtain ⟨v0, e0, t0⟩ := hf 0 tb rfl
    obtain ⟨v1, e1, t1⟩ := hf 1 ti rfl
    simp only [List.getElem?_cons_zero, List.getElem?_cons_succ, Option.some.injEq] at e0 e1
    subst e0 e1
    obtain ⟨B, k, q, bs, rfl, hbs, hk, hq⟩ := t0.bytes hb hn hcn
    obtain ⟨a, rfl, _⟩ := t1.i64 hi
    exact ⟨B, k, q, bs, a, rfl, hbs, hk, hq⟩
end
end Go.Proofs.Ytjfohlnkdagjcaa
