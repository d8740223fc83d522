/- Twenty bits of a number. No program in sight. -/
import Derived.Test.YtcdnjhcddbkciaaBase
namespace Go.Proofs.Ytcdnjhcddbkciaa
open Go.RowKit

theorem mask20 (a : Int) : ∃ z : Nat, z < 1048576 ∧ bits .and .i64 a 1048575 = (z : Int) := by
  refine ⟨((BitVec.ofInt 64 a) &&& (BitVec.ofInt 64 1048575)).toNat, ?_, ?_⟩
  · rw [BitVec.toNat_and]
    have : (BitVec.ofInt 64 1048575).toNat = 1048575 := by decide
    rw [this]
    have := Nat.and_le_right (n := (BitVec.ofInt 64 a).toNat) (m := 1048575)
    omega
  · show IntKind.i64.wrap (((BitVec.ofInt 64 a) &&& (BitVec.ofInt 64 1048575)).toNat : Int) = _
    have h : ((BitVec.ofInt 64 a) &&& (BitVec.ofInt 64 1048575)).toNat ≤ 1048575 := by
      rw [BitVec.toNat_and]
      have : (BitVec.ofInt 64 1048575).toNat = 1048575 := by decide
      rw [this]
      exact Nat.and_le_right
    exact IntWalk.i64_in _ (by omega)
end Go.Proofs.Ytcdnjhcddbkciaa
