/- The law SpreadEnds at a byte. -/
import Derived.Test.YtcdnjhcddbkciaaSpW
namespace Go.Proofs.Ytcdnjhcddbkciaa
open Go.RowKit

theorem law_SpreadEndsI (A : Option Addr) (n c : Nat) (l : List EV) (A' : Option Addr) (n' c' : Nat) (l' : List EV) (a : Int) (w : World) (a0 : 0 ≤ a) (a1 : a < 256) (h : Es w A n l) (hnc : n ≤ c) (hcm : c ≤ maxLen) (h' : Es w A' n' l') (hnc' : n' ≤ c') (hcm' : c' ≤ maxLen) :
    Calls Try.prog 18 #[.slice A n c, .slice A' n' c', .int .u8 a] w fun e w' => e = .returned (.bool true) ∧ Ext w w' := by
  obtain ⟨k, rfl⟩ := Int.eq_ofNat_of_zero_le a0
  exact law_SpreadEnds A n c l A' n' c' l' k w h hnc hcm h' hnc' hcm' (by omega)
end Go.Proofs.Ytcdnjhcddbkciaa
