/- The walks of small functions of layers 15, 16, 17: bounds, the last entry, whether a log is as fresh. -/
import Derived.Test.YtcdnjhcddbkciaaProg
import Derived.Test.YtcdnjhcddbkciaaEntry
import Derived.BigGuardPart
namespace Go.Proofs.Ytcdnjhcddbkciaa
open Go.RowKit

/-- is x within two others -/
def inB (x lo hi : Int) : Bool := decide (lo ≤ x) && decide (x ≤ hi)
theorem inB_t {x lo hi : Int} : inB x lo hi = true ↔ lo ≤ x ∧ x ≤ hi := by simp [inB]
theorem inB_f {x lo hi : Int} : inB x lo hi = false ↔ x < lo ∨ hi < x := by
  rw [← Bool.not_eq_true, inB_t]; omega

set_option maxRecDepth 100000 in
theorem letter_in (x lo hi : Int) (w : World) : Calls Try.prog 72 #[.int .i64 x, .int .i64 lo, .int .i64 hi] w fun e w' => e = .returned (.bool (inB x lo hi)) ∧ w = w' := by
  by_cases h : lo ≤ x
  · have e1 : inB x lo hi = decide (x ≤ hi) := by simp [inB, h]
    have E1 := Lib.hid e1; clear e1
    go_enter Try.func72, Try.ntmps72
    go_wp2
    go_ret
    exact ⟨congrArg (fun b => Ending.returned (.bool b)) E1.out.symm, rfl⟩
  · have e1 : inB x lo hi = false := by simp [inB, h]
    have E1 := Lib.hid e1; clear e1
    go_enter Try.func72, Try.ntmps72
    go_wp2
    go_ret
    exact ⟨congrArg (fun b => Ending.returned (.bool b)) E1.out.symm, rfl⟩
set_option maxRecDepth 100000 in
theorem ref16_in (x lo hi : Int) (w : World) : Calls Try.prog 68 #[.int .i64 x, .int .i64 lo, .int .i64 hi] w fun e w' => e = .returned (.bool (inB x lo hi)) ∧ w = w' := by
  by_cases h : lo ≤ x
  · have e1 : inB x lo hi = decide (x ≤ hi) := by simp [inB, h]
    have E1 := Lib.hid e1; clear e1
    go_enter Try.func68, Try.ntmps68
    go_wp2
    go_ret
    exact ⟨congrArg (fun b => Ending.returned (.bool b)) E1.out.symm, rfl⟩
  · have e1 : inB x lo hi = false := by simp [inB, h]
    have E1 := Lib.hid e1; clear e1
    go_enter Try.func68, Try.ntmps68
    go_wp2
    go_ret
    exact ⟨congrArg (fun b => Ending.returned (.bool b)) E1.out.symm, rfl⟩
set_option maxRecDepth 100000 in
theorem ref15_in (x lo hi : Int) (w : World) : Calls Try.prog 73 #[.int .i64 x, .int .i64 lo, .int .i64 hi] w fun e w' => e = .returned (.bool (inB x lo hi)) ∧ w = w' := by
  by_cases h : lo ≤ x
  · have e1 : inB x lo hi = decide (x ≤ hi) := by simp [inB, h]
    have E1 := Lib.hid e1; clear e1
    go_enter Try.func73, Try.ntmps73
    go_wp2
    go_ret
    exact ⟨congrArg (fun b => Ending.returned (.bool b)) E1.out.symm, rfl⟩
  · have e1 : inB x lo hi = false := by simp [inB, h]
    have E1 := Lib.hid e1; clear e1
    go_enter Try.func73, Try.ntmps73
    go_wp2
    go_ret
    exact ⟨congrArg (fun b => Ending.returned (.bool b)) E1.out.symm, rfl⟩

/-- the bound of what is named for a kind -/
theorem letter_upto (x hi : Int) (named : Bool) (w : World) : Calls Try.prog 71 #[.int .i64 x, .int .i64 hi, .bool named] w fun e w' => e = .returned (.bool (inB x 0 (if named then hi else 0))) ∧ w = w' := by
  cases named
  · go_enter Try.func71, Try.ntmps71
    go_wp2_with fail
    refine (letter_in _ _ _ _).mono ?_
    rintro e w1 ⟨rfl, rfl⟩
    go_wp2
    go_ret
    exact ⟨rfl, rfl⟩
  · go_enter Try.func71, Try.ntmps71
    go_wp2_with fail
    refine (letter_in _ _ _ _).mono ?_
    rintro e w1 ⟨rfl, rfl⟩
    go_wp2
    go_ret
    exact ⟨rfl, rfl⟩

theorem letter_in' {x lo hi : Int} {b : Bool} (h : inB x lo hi = b) (w : World) : Calls Try.prog 72 #[.int .i64 x, .int .i64 lo, .int .i64 hi] w fun e w' => e = .returned (.bool b) ∧ w = w' := h ▸ letter_in x lo hi w
theorem ref16_in' {x lo hi : Int} {b : Bool} (h : inB x lo hi = b) (w : World) : Calls Try.prog 68 #[.int .i64 x, .int .i64 lo, .int .i64 hi] w fun e w' => e = .returned (.bool b) ∧ w = w' := h ▸ ref16_in x lo hi w
theorem ref15_in' {x lo hi : Int} {b : Bool} (h : inB x lo hi = b) (w : World) : Calls Try.prog 73 #[.int .i64 x, .int .i64 lo, .int .i64 hi] w fun e w' => e = .returned (.bool b) ∧ w = w' := h ▸ ref15_in x lo hi w
theorem letter_upto_t {x hi : Int} {b : Bool} (h : inB x 0 hi = b) (w : World) : Calls Try.prog 71 #[.int .i64 x, .int .i64 hi, .bool true] w fun e w' => e = .returned (.bool b) ∧ w = w' := h ▸ letter_upto x hi true w
theorem letter_upto_f {x hi : Int} {b : Bool} (h : inB x 0 0 = b) (w : World) : Calls Try.prog 71 #[.int .i64 x, .int .i64 hi, .bool false] w fun e w' => e = .returned (.bool b) ∧ w = w' := h ▸ letter_upto x hi false w

/-- the term of the last entry, 0 of none -/
def lastT (l : List EV) : Int := match l.getLast? with | none => 0 | some e => e.term
theorem lastT_nil : lastT [] = 0 := rfl
theorem lastT_at (l : List EV) (n : Nat) (h : l.length = n + 1) : lastT l = (l[n]'(by omega)).term := by
  have e : l.getLast? = some (l[n]'(by omega)) := by
    rw [List.getLast?_eq_getElem?, show l.length - 1 = n by omega, List.getElem?_eq_getElem (by omega)]
  unfold lastT
  rw [e]

set_option maxRecDepth 100000 in
set_option maxHeartbeats 800000 in
theorem logs_Last (A : Option Addr) (n c : Nat) (l : List EV) (w : World) (hf : Es w A n l) (hn : n ≤ 1000) :
    Calls Try.prog 24 #[.slice A n c] w fun e w' => e = .returned (.tuple #[.int .i64 n, .int .i64 (lastT l)]) ∧ Ext w w' := by
  have hlen := hf.len
  rcases Nat.eq_zero_or_pos n with rfl | h0
  · have hl : l = [] := List.eq_nil_of_length_eq_zero hlen
    subst hl
    clear hlen hf
    go_enter Try.func24, Try.ntmps24
    go_wp2
    go_ret2
    exact ⟨rfl, Ext.refl w⟩
  · obtain ⟨m, rfl⟩ : ∃ m, n = m + 1 := ⟨n - 1, by omega⟩
    obtain ⟨b, off, rfl, c0, c1⟩ := hf.at_ (i := m) (by omega)
    have hl := lastT_at l m hlen
    have Hl := Lib.hid hl; clear hl
    generalize l[m].term = t at *
    have hz := beq_f (show ((m + 1 : Nat) : Int) ≠ 0 by omega)
    clear hf c1 hlen
    have e1 : IntKind.i64.wrap (((m + 1 : Nat) : Int) - 1) = m := by rw [show ((m + 1 : Nat) : Int) - 1 = m by omega]; exact IntWalk.i64_in _ (by omega)
    have hm1 : (0 : Int) ≤ m := by omega
    have hm2 : (m : Int) < ((m + 1 : Nat) : Int) := by omega
    go_enter Try.func24, Try.ntmps24
    go_wp2
    go_quiet (fail)
    go_wp2
    go_ret2
    exact ⟨by rw [Hl.out]; rfl, (Ext.refl w).drewN _⟩
end Go.Proofs.Ytcdnjhcddbkciaa
