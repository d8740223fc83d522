/- Words and walks that the last text of this claim stands on: Open. No condition. -/
import Derived.Test.YtiildgoaiookhaaGreatB01
import Derived.ProofKit
import Derived.OpenShut
import Derived.ShutString
import Derived.ChangeOld
import Derived.SizedLaws
/- Arguments of a law opened into the words of the walks. No program in sight. -/
namespace Go.Proofs.YtiildgoaiookhaaGreat
open Go.ChangeShapes Go.WideShapes Go.ChangeAt Go.RowKit

theorem add_spot {w : World} {a : Addr} {v : Value} (h : w.cell? a = some v) : ∃ b off, a = ⟨b, off, none⟩ := by
  obtain ⟨b, off, spot⟩ := a
  have hs : spot = none := World.cell?_spot h
  exact ⟨b, off, by rw [hs]⟩

theorem u8_of_wf {n : Int} (h : (Lit.int .u8 n).wf = true) : 0 ≤ n ∧ n < 256 := by
  have := bounds_u8 h
  omega

/-- cells of bytes that are read so are bytes -/
theorem bs_of_ints {w : World} {x : Addr} {len : Nat} {zs : List Int} (hl : len ≤ zs.length) (hcell : ∀ i, i < zs.length → w.cell? (x.add i) = some (.int .u8 (zs.getD i 0))) (hw : ∀ n ∈ zs, (Lit.int .u8 n).wf = true) :
    Bs w (some x) len ((zs.take len).map fun n => UInt8.ofNat n.toNat) := by
  refine ⟨by simp; omega, fun hp => ?_⟩
  have h0 := hcell 0 (by omega)
  obtain ⟨b, off, e⟩ := add_spot h0
  have hx : x = ⟨b, off, none⟩ := by
    rw [← e]; simp [Addr.add]
  subst hx
  refine ⟨b, off, rfl, World.block_lt_of_cell? w _ h0, fun j u hu => ?_⟩
  rw [List.map_map, List.getElem?_map, List.getElem?_take] at hu
  split at hu
  case isFalse => simp at hu
  rename_i hj
  rw [List.getElem?_eq_getElem (by omega)] at hu
  simp only [Option.map_some, Option.some.injEq, Function.comp_apply] at hu
  subst hu
  have hc := hcell j (by omega)
  rw [plain_add] at hc
  rw [hc]
  have hz : zs.getD j 0 = zs[j]'(by omega) := by simp [List.getD, List.getElem?_eq_getElem (show j < zs.length by omega)]
  rw [hz]
  obtain ⟨h1, h2⟩ := u8_of_wf (hw _ (List.getElem_mem (by omega : j < zs.length)))
  rw [nv_bv (by omega)]
  simp only [nv]
  congr 2
  omega

section
variable {H : Type} {enc : TypeId × Value → H} {P : Program} {w : World} {base b0 : Nat} {spare : Nat → Bool} {held : Bool} {r : Reach}
theorem open_bytes {t e : TypeId} {v : Value} {d : DataW H} {p : List MemPlace} (ht : P.underlying t = some (.slice e)) (he : P.underlying e = some (.int .u8)) (hc : P.cellsOf e = 1)
    (hv : Value.okWide P w r b0 t v) (h : DataW.Trod enc P w base spare held t v d p) : ∃ A n c l, v = .slice A n c ∧ Bs w A n l ∧ n ≤ c ∧ c ≤ maxLen := by
  obtain ⟨A, n, c, rfl⟩ := okWide_slice ht hv
  obtain ⟨fuel, hf⟩ := h
  rcases open_ints ht he hc hf with ⟨hcs, _⟩ | ⟨x, l, c', zs, hcs, _, hl, hm, hz, _, hcell, hwz⟩
  · simp [Value.cells] at hcs
    obtain ⟨rfl, rfl, rfl⟩ := hcs
    exact ⟨none, 0, 0, [], rfl, Bs.nil_ _ _, by omega, by unfold maxLen; omega⟩
  · simp [Value.cells] at hcs
    obtain ⟨rfl, rfl, rfl⟩ := hcs
    refine ⟨some x, n, c, _, rfl, bs_of_ints (zs := zs) ?_ hcell hwz, hl, hm⟩
    split at hz <;> omega
end
end Go.Proofs.YtiildgoaiookhaaGreat
