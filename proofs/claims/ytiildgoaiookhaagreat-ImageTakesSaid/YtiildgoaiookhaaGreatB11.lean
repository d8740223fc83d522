/- Words and walks that the last text of this claim stands on: LogA, LetA. No condition. -/
import Derived.Test.YtiildgoaiookhaaGreatProg
import Derived.Test.YtiildgoaiookhaaGreatB03
import Derived.BigGuardPart
/- The walks of small functions of layers 15, 16, 17: bounds, the last entry, whether a log is as fresh. -/
namespace Go.Proofs.YtiildgoaiookhaaGreat
open Go.RowKit

/-- is x within two others -/
def inB (x lo hi : Int) : Bool := decide (lo ≤ x) && decide (x ≤ hi)
theorem inB_t {x lo hi : Int} : inB x lo hi = true ↔ lo ≤ x ∧ x ≤ hi := by simp [inB]
theorem inB_f {x lo hi : Int} : inB x lo hi = false ↔ x < lo ∨ hi < x := by
  rw [← Bool.not_eq_true, inB_t]; omega

/-- the term of the last entry, 0 of none -/
def lastT (l : List EV) : Int := match l.getLast? with | none => 0 | some e => e.term
theorem lastT_nil : lastT [] = 0 := rfl
theorem lastT_at (l : List EV) (n : Nat) (h : l.length = n + 1) : lastT l = (l[n]'(by omega)).term := by
  have e : l.getLast? = some (l[n]'(by omega)) := by
    rw [List.getLast?_eq_getElem?, show l.length - 1 = n by omega, List.getElem?_eq_getElem (by omega)]
  unfold lastT
  rw [e]

end Go.Proofs.YtiildgoaiookhaaGreat

/- The walk of letter.May. -/
namespace Go.Proofs.YtiildgoaiookhaaGreat
open Go.RowKit

/-- may the entries of a letter be -/
def entsB (l : List EV) : Bool := l.all fun y => inB y.term 1 1048576 && decide (y.len ≤ 200)
theorem entsB_nil : entsB [] = true := rfl
theorem entsB_cons (y : EV) (r : List EV) : entsB (y :: r) = ((inB y.term 1 1048576 && decide (y.len ≤ 200)) && entsB r) := rfl
/-- may a letter be -/
def mayB (x : LV) : Bool :=
  ((x.kind == 1 || x.kind == 2 || x.kind == 3 || x.kind == 4) && inB x.src 0 4 && inB x.dst 0 4 && (x.src != x.dst) && inB x.term 1 1048576 && inB x.bin 1 3 &&
    inB x.a 0 (if (x.kind == 1 || x.kind == 3 || x.kind == 4) then 64 else 0) && inB x.b 0 (if (x.kind == 1 || x.kind == 3) then 1048576 else 0) && inB x.c 0 (if x.kind == 3 then 64 else 0) &&
    (!x.ok || x.kind == 2 || x.kind == 4) && inB x.n 0 (if x.kind == 3 then 4 else 0)) && entsB x.l
def mayR (x : LV) : Int := if mayB x then 0 else 1
theorem mayR_t {x : LV} (h : mayB x = true) : mayR x = 0 := by simp [mayR, h]
theorem mayR_f {x : LV} (h : mayB x = false) : mayR x = 1 := by simp [mayR, h]

end Go.Proofs.YtiildgoaiookhaaGreat
