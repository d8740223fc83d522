/- Words and walks that the last text of this claim stands on: OpenU. No condition. -/
import Derived.Test.YtiildgoaiookhaaB03
import Derived.Test.YtiildgoaiookhaaB02
/- Two bytes by value as an argument. No program in sight. -/
namespace Go.Proofs.Ytiildgoaiookhaa
open Go.RowKit Go.Deep Go.ChangeShapes Go.WideShapes
section
variable {H : Type} {enc : TypeId × Value → H} {P : Program} {w : World} {base b0 : Nat} {spare : Nat → Bool} {held : Bool} {r : Reach}
theorem open_u8x2 {t e : TypeId} {v : Value} {d : DataW H} {p : List MemPlace} (ht : P.underlying t = some (.array 2 e)) (he : P.underlying e = some (.int .u8)) (hC : P.cellsOf t = 2) (hE : P.cellsOf e = 1)
    (hv : Value.okWide P w r b0 t v) (h : DataW.Trod enc P w base spare held t v d p) : ∃ a b : Nat, v = .agg #[.int .u8 a, .int .u8 b] ∧ a < 256 ∧ b < 256 := by
  obtain ⟨cs, rfl, htr⟩ := open_array ht hv h
  obtain ⟨hl, hf⟩ := htr.elems ht hC hE
  match cs, hl with
  | [x, y], _ =>
    obtain ⟨a, rfl, ha⟩ := (hf 0 x rfl).int he
    obtain ⟨b, rfl, hb⟩ := (hf 1 y rfl).int he
    obtain ⟨a0, a1⟩ := u8_of_wf ha
    obtain ⟨b0, b1⟩ := u8_of_wf hb
    obtain ⟨n, rfl⟩ := Int.eq_ofNat_of_zero_le a0
    obtain ⟨m, rfl⟩ := Int.eq_ofNat_of_zero_le b0
    exact ⟨n, m, rfl, by omega, by omega⟩
theorem open_u8x3 {t e : TypeId} {v : Value} {d : DataW H} {p : List MemPlace} (ht : P.underlying t = some (.array 3 e)) (he : P.underlying e = some (.int .u8)) (hC : P.cellsOf t = 3) (hE : P.cellsOf e = 1)
    (hv : Value.okWide P w r b0 t v) (h : DataW.Trod enc P w base spare held t v d p) : ∃ a b c : Nat, v = .agg #[.int .u8 a, .int .u8 b, .int .u8 c] ∧ a < 256 ∧ b < 256 ∧ c < 256 := by
  obtain ⟨cs, rfl, htr⟩ := open_array ht hv h
  obtain ⟨hl, hf⟩ := htr.elems ht hC hE
  match cs, hl with
  | [x, y, z], _ =>
    obtain ⟨a, rfl, ha⟩ := (hf 0 x rfl).int he
    obtain ⟨b, rfl, hb⟩ := (hf 1 y rfl).int he
    obtain ⟨c, rfl, hc⟩ := (hf 2 z rfl).int he
    obtain ⟨a0, a1⟩ := u8_of_wf ha
    obtain ⟨b0, b1⟩ := u8_of_wf hb
    obtain ⟨c0, c1⟩ := u8_of_wf hc
    obtain ⟨n, rfl⟩ := Int.eq_ofNat_of_zero_le a0
    obtain ⟨m, rfl⟩ := Int.eq_ofNat_of_zero_le b0
    obtain ⟨q, rfl⟩ := Int.eq_ofNat_of_zero_le c0
    exact ⟨n, m, q, rfl, by omega, by omega, by omega⟩
end
end Go.Proofs.Ytiildgoaiookhaa
