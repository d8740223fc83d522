/- The walks of the laws of layer 2: their small helpers, and TagAll. -/
import Derived.Test.YtiildgoaiookhaaTagU
namespace Go.Proofs.Ytiildgoaiookhaa
open Go.RowKit

theorem str_at {w : World} {A : Option Addr} {n : Nat} {l : List UInt8} (hb : Bs w A n l) (c : Nat) : (convert 52 9 (.slice A n c)).run Try.prog w = .ok (.string (bstr l)) w :=
  run_str Try.underlying52 Try.underlying5 Try.underlying9 hb c

/-- a literal of bytes -/
theorem bs_lit (w : World) (cs : Array Value) (l : List UInt8) (n : Nat) (h : cs.toList = l.map bv) (hn : l.length = n) : Bs (w.alloc (.cells cs 5)) (some ⟨w.heap.size, 0, none⟩) n l := by
  have := Rd.block (size := 1) w cs 5 n (by rw [← Array.length_toList, h]; simp [hn])
  rw [h] at this; exact this

/-- a tag's bytes and error, for any two numbers -/
def tput (num wire : Int) : List UInt8 := if 1 ≤ num ∧ num ≤ 1000 ∧ (wire = 0 ∨ wire = 2) then vput (8 * num.toNat + wire.toNat) else []
def terr (num wire : Int) : Int := if 1 ≤ num ∧ num ≤ 1000 ∧ (wire = 0 ∨ wire = 2) then 0 else 1

theorem tag_Put (num wire : Int) (w : World) :
    Calls Try.prog 119 #[.int .i64 num, .int .i64 wire] w fun e w' => ∃ A n c, e = .returned (.tuple #[.slice A n c, .int .i64 (terr num wire)]) ∧ Bs w' A n (tput num wire) ∧ Ext w w' := by
  by_cases h : 1 ≤ num ∧ num ≤ 1000 ∧ (wire = 0 ∨ wire = 2)
  · have ht : TagMay num.toNat wire.toNat := by unfold TagMay; omega
    have := tag_Put_ok num.toNat wire.toNat ht w
    rw [show ((num.toNat : Nat) : Int) = num by omega, show ((wire.toNat : Nat) : Int) = wire by omega] at this
    refine this.mono ?_
    rintro e w' ⟨v, rfl, hown, hx⟩
    obtain ⟨A, c, rfl, _⟩ := own_form hown
    refine ⟨A, _, c, by rw [terr, if_pos h], ?_, hx⟩
    rw [tput, if_pos h]
    exact Bs.of_own hown
  · refine (tag_Put_no num wire h w).mono ?_
    rintro e w' ⟨rfl, rfl⟩
    refine ⟨none, 0, 0, by rw [terr, if_neg h], ?_, Ext.refl _⟩
    rw [tput, if_neg h]
    exact Bs.nil_ _ _

theorem ref02_Put (num wire : Int) (w : World) :
    Calls Try.prog 121 #[.int .i64 num, .int .i64 wire] w fun e w' => ∃ A n c, e = .returned (.tuple #[.slice A n c, .int .i64 (terr num wire)]) ∧ Bs w' A n (tput num wire) ∧ Ext w w' := by
  by_cases h : 1 ≤ num ∧ num ≤ 1000 ∧ (wire = 0 ∨ wire = 2)
  · have ht : TagMay num.toNat wire.toNat := by unfold TagMay; omega
    have := ref02_Put_ok num.toNat wire.toNat ht w
    rw [show ((num.toNat : Nat) : Int) = num by omega, show ((wire.toNat : Nat) : Int) = wire by omega] at this
    refine this.mono ?_
    rintro e w' ⟨v, rfl, hown, hx⟩
    obtain ⟨A, c, rfl, _⟩ := own_form hown
    refine ⟨A, _, c, by rw [terr, if_pos h], ?_, hx⟩
    rw [tput, if_pos h]
    exact Bs.of_own hown
  · refine (ref02_Put_no num wire h w).mono ?_
    rintro e w' ⟨rfl, rfl⟩
    refine ⟨none, 0, 0, by rw [terr, if_neg h], ?_, Ext.refl _⟩
    rw [tput, if_neg h]
    exact Bs.nil_ _ _

end Go.Proofs.Ytiildgoaiookhaa
