/- Words and walks that the last text of this claim stands on: LogA, LetA, LogB, ElA, LpL. No condition. -/
import Derived.Test.YtcoaofaofmbfbaaProg
import Derived.Test.YtcoaofaofmbfbaaB04
import Derived.BigGuardPart
/- The walks of small functions of layers 15, 16, 17: bounds, the last entry, whether a log is as fresh. -/
namespace Go.Proofs.Ytcoaofaofmbfbaa
open Go.RowKit

/-- is x within two others -/
def inB (x lo hi : Int) : Bool := decide (lo ≤ x) && decide (x ≤ hi)
theorem inB_t {x lo hi : Int} : inB x lo hi = true ↔ lo ≤ x ∧ x ≤ hi := by simp [inB]
theorem inB_f {x lo hi : Int} : inB x lo hi = false ↔ x < lo ∨ hi < x := by
  rw [← Bool.not_eq_true, inB_t]; omega

set_option maxRecDepth 100000 in
theorem letter_in (x lo hi : Int) (w : World) : Calls Try.prog 43 #[.int .i64 x, .int .i64 lo, .int .i64 hi] w fun e w' => e = .returned (.bool (inB x lo hi)) ∧ w = w' := by
  by_cases h : lo ≤ x
  · have e1 : inB x lo hi = decide (x ≤ hi) := by simp [inB, h]
    have E1 := Lib.hid e1; clear e1
    go_enter Try.func43, Try.ntmps43
    go_wp2
    go_ret
    exact ⟨congrArg (fun b => Ending.returned (.bool b)) E1.out.symm, rfl⟩
  · have e1 : inB x lo hi = false := by simp [inB, h]
    have E1 := Lib.hid e1; clear e1
    go_enter Try.func43, Try.ntmps43
    go_wp2
    go_ret
    exact ⟨congrArg (fun b => Ending.returned (.bool b)) E1.out.symm, rfl⟩
set_option maxRecDepth 100000 in
theorem ref16_in (x lo hi : Int) (w : World) : Calls Try.prog 62 #[.int .i64 x, .int .i64 lo, .int .i64 hi] w fun e w' => e = .returned (.bool (inB x lo hi)) ∧ w = w' := by
  by_cases h : lo ≤ x
  · have e1 : inB x lo hi = decide (x ≤ hi) := by simp [inB, h]
    have E1 := Lib.hid e1; clear e1
    go_enter Try.func62, Try.ntmps62
    go_wp2
    go_ret
    exact ⟨congrArg (fun b => Ending.returned (.bool b)) E1.out.symm, rfl⟩
  · have e1 : inB x lo hi = false := by simp [inB, h]
    have E1 := Lib.hid e1; clear e1
    go_enter Try.func62, Try.ntmps62
    go_wp2
    go_ret
    exact ⟨congrArg (fun b => Ending.returned (.bool b)) E1.out.symm, rfl⟩
/-- the bound of what is named for a kind -/
theorem letter_upto (x hi : Int) (named : Bool) (w : World) : Calls Try.prog 42 #[.int .i64 x, .int .i64 hi, .bool named] w fun e w' => e = .returned (.bool (inB x 0 (if named then hi else 0))) ∧ w = w' := by
  cases named
  · go_enter Try.func42, Try.ntmps42
    go_wp2_with fail
    refine (letter_in _ _ _ _).mono ?_
    rintro e w1 ⟨rfl, rfl⟩
    go_wp2
    go_ret
    exact ⟨rfl, rfl⟩
  · go_enter Try.func42, Try.ntmps42
    go_wp2_with fail
    refine (letter_in _ _ _ _).mono ?_
    rintro e w1 ⟨rfl, rfl⟩
    go_wp2
    go_ret
    exact ⟨rfl, rfl⟩

theorem letter_in' {x lo hi : Int} {b : Bool} (h : inB x lo hi = b) (w : World) : Calls Try.prog 43 #[.int .i64 x, .int .i64 lo, .int .i64 hi] w fun e w' => e = .returned (.bool b) ∧ w = w' := h ▸ letter_in x lo hi w
theorem ref16_in' {x lo hi : Int} {b : Bool} (h : inB x lo hi = b) (w : World) : Calls Try.prog 62 #[.int .i64 x, .int .i64 lo, .int .i64 hi] w fun e w' => e = .returned (.bool b) ∧ w = w' := h ▸ ref16_in x lo hi w
theorem letter_upto_t {x hi : Int} {b : Bool} (h : inB x 0 hi = b) (w : World) : Calls Try.prog 42 #[.int .i64 x, .int .i64 hi, .bool true] w fun e w' => e = .returned (.bool b) ∧ w = w' := h ▸ letter_upto x hi true w
theorem letter_upto_f {x hi : Int} {b : Bool} (h : inB x 0 0 = b) (w : World) : Calls Try.prog 42 #[.int .i64 x, .int .i64 hi, .bool false] w fun e w' => e = .returned (.bool b) ∧ w = w' := h ▸ letter_upto x hi false w

/-- the term of the last entry, 0 of none -/
def lastT (l : List EV) : Int := match l.getLast? with | none => 0 | some e => e.term
theorem lastT_nil : lastT [] = 0 := rfl
theorem lastT_at (l : List EV) (n : Nat) (h : l.length = n + 1) : lastT l = (l[n]'(by omega)).term := by
  have e : l.getLast? = some (l[n]'(by omega)) := by
    rw [List.getLast?_eq_getElem?, show l.length - 1 = n by omega, List.getElem?_eq_getElem (by omega)]
  unfold lastT
  rw [e]

end Go.Proofs.Ytcoaofaofmbfbaa

/- The walk of letter.May. -/
namespace Go.Proofs.Ytcoaofaofmbfbaa
open Go.RowKit

/-- may the entries of a letter be -/
def entsB (l : List EV) : Bool := l.all fun y => inB y.term 1 1048576 && decide (y.len ≤ 200)
theorem entsB_nil : entsB [] = true := rfl
theorem entsB_cons (y : EV) (r : List EV) : entsB (y :: r) = ((inB y.term 1 1048576 && decide (y.len ≤ 200)) && entsB r) := rfl
/-- may a letter be -/
def mayB (x : LV) : Bool :=
  ((x.kind == 1 || x.kind == 2 || x.kind == 3 || x.kind == 4) && inB x.src 0 4 && inB x.dst 0 4 && (x.src != x.dst) && inB x.term 1 1048576 && inB x.bin 1 3 &&
    inB x.a 0 (if (x.kind == 1 || x.kind == 3 || x.kind == 4) then 64 else 0) && inB x.b 0 (if (x.kind == 1 || x.kind == 3) then 1048576 else 0) && inB x.c 0 (if x.kind == 3 then 64 else 0) &&
    (!x.ok || x.kind == 2 || x.kind == 4) && inB x.n 0 (if x.kind == 3 then 4 else 0)) && entsB x.l
def mayR (x : LV) : Int := if mayB x then 0 else 1
theorem mayR_t {x : LV} (h : mayB x = true) : mayR x = 0 := by simp [mayR, h]
theorem mayR_f {x : LV} (h : mayB x = false) : mayR x = 1 := by simp [mayR, h]

set_option maxRecDepth 100000 in
set_option maxHeartbeats 1600000 in
theorem letter_May3 (src dst term la lb lc bin : Int) (ok : Bool) (A : Option Addr) (n cp : Nat) (l : List EV) (w : World) (hes : Es w A n l) (hn : n ≤ 20000) :
    Calls Try.prog 13 #[(⟨3, src, dst, term, la, lb, lc, bin, ok, A, n, cp, l⟩ : LV).val] w fun e w' => e = .returned (.int .i64 (mayR ⟨3, src, dst, term, la, lb, lc, bin, ok, A, n, cp, l⟩)) ∧ Ext w w' := by
  unfold LV.val
  dsimp only
  have hlen := hes.len
  obtain ⟨g1, hg1⟩ : ∃ b, inB src 0 4 = b := ⟨_, rfl⟩
  obtain ⟨g2, hg2⟩ : ∃ b, inB dst 0 4 = b := ⟨_, rfl⟩
  obtain ⟨g4, hg4⟩ : ∃ b, inB term 1 1048576 = b := ⟨_, rfl⟩
  obtain ⟨g5, hg5⟩ : ∃ b, inB bin 1 3 = b := ⟨_, rfl⟩
  obtain ⟨g6, hg6⟩ : ∃ b, inB la 0 64 = b := ⟨_, rfl⟩
  obtain ⟨g7, hg7⟩ : ∃ b, inB lb 0 1048576 = b := ⟨_, rfl⟩
  obtain ⟨g8, hg8⟩ : ∃ b, inB lc 0 64 = b := ⟨_, rfl⟩
  obtain ⟨g9, hg9⟩ : ∃ b, inB n 0 4 = b := ⟨_, rfl⟩
  have hR : mayR ⟨3, src, dst, term, la, lb, lc, bin, ok, A, n, cp, l⟩ = if (g1 && g2 && (src != dst) && g4 && g5 && g6 && g7 && g8 && !ok && g9 && entsB l) = true then 0 else 1 := by
    simp [mayR, mayB, hg1, hg2, hg4, hg5, hg6, hg7, hg8, hg9]
  have HR := Lib.hid hR; clear hR
  have H9 := Lib.hid hg9
  have C1 := Lib.hid (fun w => letter_in' hg1 w)
  have C2 := Lib.hid (fun w => letter_in' hg2 w)
  have C4 := Lib.hid (fun w => letter_in' hg4 w)
  have C5 := Lib.hid (fun w => letter_in' hg5 w)
  have C6 := Lib.hid (fun w => letter_upto_t (hi := 64) hg6 w)
  have C7 := Lib.hid (fun w => letter_upto_t (hi := 1048576) hg7 w)
  have C8 := Lib.hid (fun w => letter_upto_t (hi := 64) hg8 w)
  have C9 := Lib.hid (fun w => letter_upto_t (hi := 4) hg9 w)
  clear hg1 hg2 hg4 hg5 hg6 hg7 hg8 hg9
  go_enter Try.func13, Try.ntmps13
  simp only [List.append_eq, List.cons_append, List.nil_append]
  go_wp2
  go_quiet (fail)
  go_wp2_with fail
  refine (C1.out _).mono ?_
  clear C1
  rintro e w1 ⟨rfl, rfl⟩
  rcases g1 with _ | _
  · go_wp2
    go_ret
    exact ⟨by rw [HR.out]; simp, ((Ext.refl w).alloc _).drewN _⟩
  go_wp2_with fail
  refine (C2.out _).mono ?_
  clear C2
  rintro e w1 ⟨rfl, rfl⟩
  rcases g2 with _ | _
  · go_wp2
    go_ret
    exact ⟨by rw [HR.out]; simp, ((Ext.refl w).alloc _).drewN _⟩
  rcases g3 : (src != dst) with _ | _
  · go_wp2
    go_ret
    exact ⟨by rw [HR.out]; simp [g3], ((Ext.refl w).alloc _).drewN _⟩
  go_wp2_with fail
  refine (C4.out _).mono ?_
  clear C4
  rintro e w1 ⟨rfl, rfl⟩
  rcases g4 with _ | _
  · go_wp2
    go_ret
    exact ⟨by rw [HR.out]; simp, ((Ext.refl w).alloc _).drewN _⟩
  go_wp2_with fail
  refine (C5.out _).mono ?_
  clear C5
  rintro e w1 ⟨rfl, rfl⟩
  rcases g5 with _ | _
  · go_wp2
    go_ret
    exact ⟨by rw [HR.out]; simp, ((Ext.refl w).alloc _).drewN _⟩
  go_wp2_with fail
  refine (C6.out _).mono ?_
  clear C6
  rintro e w1 ⟨rfl, rfl⟩
  rcases g6 with _ | _
  · go_wp2
    go_ret
    exact ⟨by rw [HR.out]; simp, ((Ext.refl w).alloc _).drewN _⟩
  go_wp2_with fail
  refine (C7.out _).mono ?_
  clear C7
  rintro e w1 ⟨rfl, rfl⟩
  rcases g7 with _ | _
  · go_wp2
    go_ret
    exact ⟨by rw [HR.out]; simp, ((Ext.refl w).alloc _).drewN _⟩
  go_wp2_with fail
  refine (C8.out _).mono ?_
  clear C8
  rintro e w1 ⟨rfl, rfl⟩
  rcases g8 with _ | _
  · go_wp2
    go_ret
    exact ⟨by rw [HR.out]; simp, ((Ext.refl w).alloc _).drewN _⟩
  rcases ok with _ | _
  rotate_left
  · go_wp2
    go_ret
    exact ⟨by rw [HR.out]; simp, ((Ext.refl w).alloc _).drewN _⟩
  go_wp2_with fail
  refine (C9.out _).mono ?_
  clear C9
  rintro e w1 ⟨rfl, rfl⟩
  rcases g9 with _ | _
  · go_wp2
    go_ret
    exact ⟨by rw [HR.out]; simp, ((Ext.refl w).alloc _).drewN _⟩
  have h9 := inB_t.1 H9.out
  clear H9
  go_wp2_with fail
  go_loopw [114] (fun i wr => ∃ j : Nat, i = .int .i64 j ∧ j ≤ n ∧ entsB l = entsB (l.drop j) ∧ Ext w wr) (fun i _ => n - (intOf i).toNat)
  case atStart => exact ⟨0, rfl, by omega, rfl, ((Ext.refl w).alloc _).drewN _⟩
  case round =>
    obtain ⟨j, rfl, hj, he, hx⟩ := hrel
    have He := Lib.hid he; clear he
    by_cases hjn : j < n
    · have hd : l.drop j = l[j] :: l.drop (j + 1) := List.drop_eq_getElem_cons (by omega)
      obtain ⟨b, off, rfl, c0, c1⟩ := (hes.ext hx).at_ hjn
      generalize l[j] = y at *
      have Hd := Lib.hid hd; clear hd
      obtain ⟨yt, yA, yl, yc, yb⟩ := y
      dsimp only at c0 c1
      rcases g : inB yt 1 1048576 with _ | _
      · have C := Lib.hid (fun w => letter_in' g w)
        have He2 : Hid (entsB l = false) := Lib.hid (by rw [He.out, Hd.out, entsB_cons, g]; rfl)
        clear g
        go_wp2_with fail
        refine (C.out _).mono ?_
        rintro e w1 ⟨rfl, rfl⟩
        go_wp2
        go_ret
        exact ⟨by rw [HR.out, He2.out]; simp, hx.alloc _⟩
      · have C := Lib.hid (fun w => letter_in' g w)
        by_cases hb : 200 < yl
        · have He2 : Hid (entsB l = false) := Lib.hid (by rw [He.out, Hd.out, entsB_cons, g, dec_f (show ¬ yl ≤ 200 by omega)]; rfl)
          clear g
          go_wp2_with fail
          refine (C.out _).mono ?_
          rintro e w1 ⟨rfl, rfl⟩
          go_wp2
          go_ret
          exact ⟨by rw [HR.out, He2.out]; simp, hx.alloc _⟩
        · have He2 : Hid (entsB l = entsB (l.drop (j + 1))) := Lib.hid (by rw [He.out, Hd.out, entsB_cons, g, dec_t (show yl ≤ 200 by omega)]; rfl)
          clear g
          go_wp2_with fail
          refine (C.out _).mono ?_
          rintro e w1 ⟨rfl, rfl⟩
          go_wp2
          go_roundw
          case rel => exact ⟨j + 1, val_int (by omega), by omega, He2.out, hx.alloc _⟩
          case measure => simp [intOf]; omega
    · obtain rfl : j = n := by omega
      have He2 : Hid (entsB l = true) := Lib.hid (by rw [He.out, List.drop_of_length_le (by omega)]; rfl)
      go_wp2
      go_ret
      exact ⟨by rw [HR.out, He2.out]; simp [g3], hx⟩
    
set_option maxRecDepth 100000 in
set_option maxHeartbeats 1600000 in
theorem letter_May1 (src dst term la lb lc bin : Int) (ok : Bool) (A : Option Addr) (n cp : Nat) (l : List EV) (w : World) (hes : Es w A n l) (hn : n ≤ 20000) :
    Calls Try.prog 13 #[(⟨1, src, dst, term, la, lb, lc, bin, ok, A, n, cp, l⟩ : LV).val] w fun e w' => e = .returned (.int .i64 (mayR ⟨1, src, dst, term, la, lb, lc, bin, ok, A, n, cp, l⟩)) ∧ Ext w w' := by
  unfold LV.val
  dsimp only
  have hlen := hes.len
  obtain ⟨g1, hg1⟩ : ∃ b, inB src 0 4 = b := ⟨_, rfl⟩
  obtain ⟨g2, hg2⟩ : ∃ b, inB dst 0 4 = b := ⟨_, rfl⟩
  obtain ⟨g4, hg4⟩ : ∃ b, inB term 1 1048576 = b := ⟨_, rfl⟩
  obtain ⟨g5, hg5⟩ : ∃ b, inB bin 1 3 = b := ⟨_, rfl⟩
  obtain ⟨g6, hg6⟩ : ∃ b, inB la 0 64 = b := ⟨_, rfl⟩
  obtain ⟨g7, hg7⟩ : ∃ b, inB lb 0 1048576 = b := ⟨_, rfl⟩
  obtain ⟨g8, hg8⟩ : ∃ b, inB lc 0 0 = b := ⟨_, rfl⟩
  obtain ⟨g9, hg9⟩ : ∃ b, inB n 0 0 = b := ⟨_, rfl⟩
  have hR : mayR ⟨1, src, dst, term, la, lb, lc, bin, ok, A, n, cp, l⟩ = if (g1 && g2 && (src != dst) && g4 && g5 && g6 && g7 && g8 && !ok && g9 && entsB l) = true then 0 else 1 := by
    simp [mayR, mayB, hg1, hg2, hg4, hg5, hg6, hg7, hg8, hg9]
  have HR := Lib.hid hR; clear hR
  have H9 := Lib.hid hg9
  have C1 := Lib.hid (fun w => letter_in' hg1 w)
  have C2 := Lib.hid (fun w => letter_in' hg2 w)
  have C4 := Lib.hid (fun w => letter_in' hg4 w)
  have C5 := Lib.hid (fun w => letter_in' hg5 w)
  have C6 := Lib.hid (fun w => letter_upto_t (hi := 64) hg6 w)
  have C7 := Lib.hid (fun w => letter_upto_t (hi := 1048576) hg7 w)
  have C8 := Lib.hid (fun w => letter_upto_f (hi := 64) hg8 w)
  have C9 := Lib.hid (fun w => letter_upto_f (hi := 4) hg9 w)
  clear hg1 hg2 hg4 hg5 hg6 hg7 hg8 hg9
  go_enter Try.func13, Try.ntmps13
  simp only [List.append_eq, List.cons_append, List.nil_append]
  go_wp2
  go_quiet (fail)
  go_wp2_with fail
  refine (C1.out _).mono ?_
  clear C1
  rintro e w1 ⟨rfl, rfl⟩
  rcases g1 with _ | _
  · go_wp2
    go_ret
    exact ⟨by rw [HR.out]; simp, ((Ext.refl w).alloc _).drewN _⟩
  go_wp2_with fail
  refine (C2.out _).mono ?_
  clear C2
  rintro e w1 ⟨rfl, rfl⟩
  rcases g2 with _ | _
  · go_wp2
    go_ret
    exact ⟨by rw [HR.out]; simp, ((Ext.refl w).alloc _).drewN _⟩
  rcases g3 : (src != dst) with _ | _
  · go_wp2
    go_ret
    exact ⟨by rw [HR.out]; simp [g3], ((Ext.refl w).alloc _).drewN _⟩
  go_wp2_with fail
  refine (C4.out _).mono ?_
  clear C4
  rintro e w1 ⟨rfl, rfl⟩
  rcases g4 with _ | _
  · go_wp2
    go_ret
    exact ⟨by rw [HR.out]; simp, ((Ext.refl w).alloc _).drewN _⟩
  go_wp2_with fail
  refine (C5.out _).mono ?_
  clear C5
  rintro e w1 ⟨rfl, rfl⟩
  rcases g5 with _ | _
  · go_wp2
    go_ret
    exact ⟨by rw [HR.out]; simp, ((Ext.refl w).alloc _).drewN _⟩
  go_wp2_with fail
  refine (C6.out _).mono ?_
  clear C6
  rintro e w1 ⟨rfl, rfl⟩
  rcases g6 with _ | _
  · go_wp2
    go_ret
    exact ⟨by rw [HR.out]; simp, ((Ext.refl w).alloc _).drewN _⟩
  go_wp2_with fail
  refine (C7.out _).mono ?_
  clear C7
  rintro e w1 ⟨rfl, rfl⟩
  rcases g7 with _ | _
  · go_wp2
    go_ret
    exact ⟨by rw [HR.out]; simp, ((Ext.refl w).alloc _).drewN _⟩
  go_wp2_with fail
  refine (C8.out _).mono ?_
  clear C8
  rintro e w1 ⟨rfl, rfl⟩
  rcases g8 with _ | _
  · go_wp2
    go_ret
    exact ⟨by rw [HR.out]; simp, ((Ext.refl w).alloc _).drewN _⟩
  rcases ok with _ | _
  rotate_left
  · go_wp2
    go_ret
    exact ⟨by rw [HR.out]; simp, ((Ext.refl w).alloc _).drewN _⟩
  go_wp2_with fail
  refine (C9.out _).mono ?_
  clear C9
  rintro e w1 ⟨rfl, rfl⟩
  rcases g9 with _ | _
  · go_wp2
    go_ret
    exact ⟨by rw [HR.out]; simp, ((Ext.refl w).alloc _).drewN _⟩
  have h9 := inB_t.1 H9.out
  clear H9
  obtain rfl : n = 0 := by omega
  obtain rfl : l = [] := List.eq_nil_of_length_eq_zero hlen
  clear hes hlen h9
  go_wp2_with fail
  go_loopw [114] (fun i wr => i = .int .i64 0 ∧ Ext w wr) (fun i _ => 0)
  case atStart => exact ⟨rfl, ((Ext.refl w).alloc _).drewN _⟩
  case round =>
    obtain ⟨rfl, hx⟩ := hrel
    go_wp2
    go_ret
    exact ⟨by rw [HR.out, entsB_nil]; simp [g3], hx⟩

set_option maxRecDepth 100000 in
set_option maxHeartbeats 1600000 in
theorem letter_May2t (src dst term la lb lc bin : Int) (A : Option Addr) (n cp : Nat) (l : List EV) (w : World) (hes : Es w A n l) (hn : n ≤ 20000) :
    Calls Try.prog 13 #[(⟨2, src, dst, term, la, lb, lc, bin, true, A, n, cp, l⟩ : LV).val] w fun e w' => e = .returned (.int .i64 (mayR ⟨2, src, dst, term, la, lb, lc, bin, true, A, n, cp, l⟩)) ∧ Ext w w' := by
  unfold LV.val
  dsimp only
  have hlen := hes.len
  obtain ⟨g1, hg1⟩ : ∃ b, inB src 0 4 = b := ⟨_, rfl⟩
  obtain ⟨g2, hg2⟩ : ∃ b, inB dst 0 4 = b := ⟨_, rfl⟩
  obtain ⟨g4, hg4⟩ : ∃ b, inB term 1 1048576 = b := ⟨_, rfl⟩
  obtain ⟨g5, hg5⟩ : ∃ b, inB bin 1 3 = b := ⟨_, rfl⟩
  obtain ⟨g6, hg6⟩ : ∃ b, inB la 0 0 = b := ⟨_, rfl⟩
  obtain ⟨g7, hg7⟩ : ∃ b, inB lb 0 0 = b := ⟨_, rfl⟩
  obtain ⟨g8, hg8⟩ : ∃ b, inB lc 0 0 = b := ⟨_, rfl⟩
  obtain ⟨g9, hg9⟩ : ∃ b, inB n 0 0 = b := ⟨_, rfl⟩
  have hR : mayR ⟨2, src, dst, term, la, lb, lc, bin, true, A, n, cp, l⟩ = if (g1 && g2 && (src != dst) && g4 && g5 && g6 && g7 && g8 && true && g9 && entsB l) = true then 0 else 1 := by
    simp [mayR, mayB, hg1, hg2, hg4, hg5, hg6, hg7, hg8, hg9]
  have HR := Lib.hid hR; clear hR
  have H9 := Lib.hid hg9
  have C1 := Lib.hid (fun w => letter_in' hg1 w)
  have C2 := Lib.hid (fun w => letter_in' hg2 w)
  have C4 := Lib.hid (fun w => letter_in' hg4 w)
  have C5 := Lib.hid (fun w => letter_in' hg5 w)
  have C6 := Lib.hid (fun w => letter_upto_f (hi := 64) hg6 w)
  have C7 := Lib.hid (fun w => letter_upto_f (hi := 1048576) hg7 w)
  have C8 := Lib.hid (fun w => letter_upto_f (hi := 64) hg8 w)
  have C9 := Lib.hid (fun w => letter_upto_f (hi := 4) hg9 w)
  clear hg1 hg2 hg4 hg5 hg6 hg7 hg8 hg9
  go_enter Try.func13, Try.ntmps13
  simp only [List.append_eq, List.cons_append, List.nil_append]
  go_wp2
  go_quiet (fail)
  go_wp2_with fail
  refine (C1.out _).mono ?_
  clear C1
  rintro e w1 ⟨rfl, rfl⟩
  rcases g1 with _ | _
  · go_wp2
    go_ret
    exact ⟨by rw [HR.out]; simp, ((Ext.refl w).alloc _).drewN _⟩
  go_wp2_with fail
  refine (C2.out _).mono ?_
  clear C2
  rintro e w1 ⟨rfl, rfl⟩
  rcases g2 with _ | _
  · go_wp2
    go_ret
    exact ⟨by rw [HR.out]; simp, ((Ext.refl w).alloc _).drewN _⟩
  rcases g3 : (src != dst) with _ | _
  · go_wp2
    go_ret
    exact ⟨by rw [HR.out]; simp [g3], ((Ext.refl w).alloc _).drewN _⟩
  go_wp2_with fail
  refine (C4.out _).mono ?_
  clear C4
  rintro e w1 ⟨rfl, rfl⟩
  rcases g4 with _ | _
  · go_wp2
    go_ret
    exact ⟨by rw [HR.out]; simp, ((Ext.refl w).alloc _).drewN _⟩
  go_wp2_with fail
  refine (C5.out _).mono ?_
  clear C5
  rintro e w1 ⟨rfl, rfl⟩
  rcases g5 with _ | _
  · go_wp2
    go_ret
    exact ⟨by rw [HR.out]; simp, ((Ext.refl w).alloc _).drewN _⟩
  go_wp2_with fail
  refine (C6.out _).mono ?_
  clear C6
  rintro e w1 ⟨rfl, rfl⟩
  rcases g6 with _ | _
  · go_wp2
    go_ret
    exact ⟨by rw [HR.out]; simp, ((Ext.refl w).alloc _).drewN _⟩
  go_wp2_with fail
  refine (C7.out _).mono ?_
  clear C7
  rintro e w1 ⟨rfl, rfl⟩
  rcases g7 with _ | _
  · go_wp2
    go_ret
    exact ⟨by rw [HR.out]; simp, ((Ext.refl w).alloc _).drewN _⟩
  go_wp2_with fail
  refine (C8.out _).mono ?_
  clear C8
  rintro e w1 ⟨rfl, rfl⟩
  rcases g8 with _ | _
  · go_wp2
    go_ret
    exact ⟨by rw [HR.out]; simp, ((Ext.refl w).alloc _).drewN _⟩
  go_wp2_with fail
  refine (C9.out _).mono ?_
  clear C9
  rintro e w1 ⟨rfl, rfl⟩
  rcases g9 with _ | _
  · go_wp2
    go_ret
    exact ⟨by rw [HR.out]; simp, ((Ext.refl w).alloc _).drewN _⟩
  have h9 := inB_t.1 H9.out
  clear H9
  obtain rfl : n = 0 := by omega
  obtain rfl : l = [] := List.eq_nil_of_length_eq_zero hlen
  clear hes hlen h9
  go_wp2_with fail
  go_loopw [114] (fun i wr => i = .int .i64 0 ∧ Ext w wr) (fun i _ => 0)
  case atStart => exact ⟨rfl, ((Ext.refl w).alloc _).drewN _⟩
  case round =>
    obtain ⟨rfl, hx⟩ := hrel
    go_wp2
    go_ret
    exact ⟨by rw [HR.out, entsB_nil]; simp [g3], hx⟩

set_option maxRecDepth 100000 in
set_option maxHeartbeats 1600000 in
theorem letter_May2f (src dst term la lb lc bin : Int) (A : Option Addr) (n cp : Nat) (l : List EV) (w : World) (hes : Es w A n l) (hn : n ≤ 20000) :
    Calls Try.prog 13 #[(⟨2, src, dst, term, la, lb, lc, bin, false, A, n, cp, l⟩ : LV).val] w fun e w' => e = .returned (.int .i64 (mayR ⟨2, src, dst, term, la, lb, lc, bin, false, A, n, cp, l⟩)) ∧ Ext w w' := by
  unfold LV.val
  dsimp only
  have hlen := hes.len
  obtain ⟨g1, hg1⟩ : ∃ b, inB src 0 4 = b := ⟨_, rfl⟩
  obtain ⟨g2, hg2⟩ : ∃ b, inB dst 0 4 = b := ⟨_, rfl⟩
  obtain ⟨g4, hg4⟩ : ∃ b, inB term 1 1048576 = b := ⟨_, rfl⟩
  obtain ⟨g5, hg5⟩ : ∃ b, inB bin 1 3 = b := ⟨_, rfl⟩
  obtain ⟨g6, hg6⟩ : ∃ b, inB la 0 0 = b := ⟨_, rfl⟩
  obtain ⟨g7, hg7⟩ : ∃ b, inB lb 0 0 = b := ⟨_, rfl⟩
  obtain ⟨g8, hg8⟩ : ∃ b, inB lc 0 0 = b := ⟨_, rfl⟩
  obtain ⟨g9, hg9⟩ : ∃ b, inB n 0 0 = b := ⟨_, rfl⟩
  have hR : mayR ⟨2, src, dst, term, la, lb, lc, bin, false, A, n, cp, l⟩ = if (g1 && g2 && (src != dst) && g4 && g5 && g6 && g7 && g8 && true && g9 && entsB l) = true then 0 else 1 := by
    simp [mayR, mayB, hg1, hg2, hg4, hg5, hg6, hg7, hg8, hg9]
  have HR := Lib.hid hR; clear hR
  have H9 := Lib.hid hg9
  have C1 := Lib.hid (fun w => letter_in' hg1 w)
  have C2 := Lib.hid (fun w => letter_in' hg2 w)
  have C4 := Lib.hid (fun w => letter_in' hg4 w)
  have C5 := Lib.hid (fun w => letter_in' hg5 w)
  have C6 := Lib.hid (fun w => letter_upto_f (hi := 64) hg6 w)
  have C7 := Lib.hid (fun w => letter_upto_f (hi := 1048576) hg7 w)
  have C8 := Lib.hid (fun w => letter_upto_f (hi := 64) hg8 w)
  have C9 := Lib.hid (fun w => letter_upto_f (hi := 4) hg9 w)
  clear hg1 hg2 hg4 hg5 hg6 hg7 hg8 hg9
  go_enter Try.func13, Try.ntmps13
  simp only [List.append_eq, List.cons_append, List.nil_append]
  go_wp2
  go_quiet (fail)
  go_wp2_with fail
  refine (C1.out _).mono ?_
  clear C1
  rintro e w1 ⟨rfl, rfl⟩
  rcases g1 with _ | _
  · go_wp2
    go_ret
    exact ⟨by rw [HR.out]; simp, ((Ext.refl w).alloc _).drewN _⟩
  go_wp2_with fail
  refine (C2.out _).mono ?_
  clear C2
  rintro e w1 ⟨rfl, rfl⟩
  rcases g2 with _ | _
  · go_wp2
    go_ret
    exact ⟨by rw [HR.out]; simp, ((Ext.refl w).alloc _).drewN _⟩
  rcases g3 : (src != dst) with _ | _
  · go_wp2
    go_ret
    exact ⟨by rw [HR.out]; simp [g3], ((Ext.refl w).alloc _).drewN _⟩
  go_wp2_with fail
  refine (C4.out _).mono ?_
  clear C4
  rintro e w1 ⟨rfl, rfl⟩
  rcases g4 with _ | _
  · go_wp2
    go_ret
    exact ⟨by rw [HR.out]; simp, ((Ext.refl w).alloc _).drewN _⟩
  go_wp2_with fail
  refine (C5.out _).mono ?_
  clear C5
  rintro e w1 ⟨rfl, rfl⟩
  rcases g5 with _ | _
  · go_wp2
    go_ret
    exact ⟨by rw [HR.out]; simp, ((Ext.refl w).alloc _).drewN _⟩
  go_wp2_with fail
  refine (C6.out _).mono ?_
  clear C6
  rintro e w1 ⟨rfl, rfl⟩
  rcases g6 with _ | _
  · go_wp2
    go_ret
    exact ⟨by rw [HR.out]; simp, ((Ext.refl w).alloc _).drewN _⟩
  go_wp2_with fail
  refine (C7.out _).mono ?_
  clear C7
  rintro e w1 ⟨rfl, rfl⟩
  rcases g7 with _ | _
  · go_wp2
    go_ret
    exact ⟨by rw [HR.out]; simp, ((Ext.refl w).alloc _).drewN _⟩
  go_wp2_with fail
  refine (C8.out _).mono ?_
  clear C8
  rintro e w1 ⟨rfl, rfl⟩
  rcases g8 with _ | _
  · go_wp2
    go_ret
    exact ⟨by rw [HR.out]; simp, ((Ext.refl w).alloc _).drewN _⟩
  go_wp2_with fail
  refine (C9.out _).mono ?_
  clear C9
  rintro e w1 ⟨rfl, rfl⟩
  rcases g9 with _ | _
  · go_wp2
    go_ret
    exact ⟨by rw [HR.out]; simp, ((Ext.refl w).alloc _).drewN _⟩
  have h9 := inB_t.1 H9.out
  clear H9
  obtain rfl : n = 0 := by omega
  obtain rfl : l = [] := List.eq_nil_of_length_eq_zero hlen
  clear hes hlen h9
  go_wp2_with fail
  go_loopw [114] (fun i wr => i = .int .i64 0 ∧ Ext w wr) (fun i _ => 0)
  case atStart => exact ⟨rfl, ((Ext.refl w).alloc _).drewN _⟩
  case round =>
    obtain ⟨rfl, hx⟩ := hrel
    go_wp2
    go_ret
    exact ⟨by rw [HR.out, entsB_nil]; simp [g3], hx⟩

set_option maxRecDepth 100000 in
set_option maxHeartbeats 1600000 in
theorem letter_May4t (src dst term la lb lc bin : Int) (A : Option Addr) (n cp : Nat) (l : List EV) (w : World) (hes : Es w A n l) (hn : n ≤ 20000) :
    Calls Try.prog 13 #[(⟨4, src, dst, term, la, lb, lc, bin, true, A, n, cp, l⟩ : LV).val] w fun e w' => e = .returned (.int .i64 (mayR ⟨4, src, dst, term, la, lb, lc, bin, true, A, n, cp, l⟩)) ∧ Ext w w' := by
  unfold LV.val
  dsimp only
  have hlen := hes.len
  obtain ⟨g1, hg1⟩ : ∃ b, inB src 0 4 = b := ⟨_, rfl⟩
  obtain ⟨g2, hg2⟩ : ∃ b, inB dst 0 4 = b := ⟨_, rfl⟩
  obtain ⟨g4, hg4⟩ : ∃ b, inB term 1 1048576 = b := ⟨_, rfl⟩
  obtain ⟨g5, hg5⟩ : ∃ b, inB bin 1 3 = b := ⟨_, rfl⟩
  obtain ⟨g6, hg6⟩ : ∃ b, inB la 0 64 = b := ⟨_, rfl⟩
  obtain ⟨g7, hg7⟩ : ∃ b, inB lb 0 0 = b := ⟨_, rfl⟩
  obtain ⟨g8, hg8⟩ : ∃ b, inB lc 0 0 = b := ⟨_, rfl⟩
  obtain ⟨g9, hg9⟩ : ∃ b, inB n 0 0 = b := ⟨_, rfl⟩
  have hR : mayR ⟨4, src, dst, term, la, lb, lc, bin, true, A, n, cp, l⟩ = if (g1 && g2 && (src != dst) && g4 && g5 && g6 && g7 && g8 && true && g9 && entsB l) = true then 0 else 1 := by
    simp [mayR, mayB, hg1, hg2, hg4, hg5, hg6, hg7, hg8, hg9]
  have HR := Lib.hid hR; clear hR
  have H9 := Lib.hid hg9
  have C1 := Lib.hid (fun w => letter_in' hg1 w)
  have C2 := Lib.hid (fun w => letter_in' hg2 w)
  have C4 := Lib.hid (fun w => letter_in' hg4 w)
  have C5 := Lib.hid (fun w => letter_in' hg5 w)
  have C6 := Lib.hid (fun w => letter_upto_t (hi := 64) hg6 w)
  have C7 := Lib.hid (fun w => letter_upto_f (hi := 1048576) hg7 w)
  have C8 := Lib.hid (fun w => letter_upto_f (hi := 64) hg8 w)
  have C9 := Lib.hid (fun w => letter_upto_f (hi := 4) hg9 w)
  clear hg1 hg2 hg4 hg5 hg6 hg7 hg8 hg9
  go_enter Try.func13, Try.ntmps13
  simp only [List.append_eq, List.cons_append, List.nil_append]
  go_wp2
  go_quiet (fail)
  go_wp2_with fail
  refine (C1.out _).mono ?_
  clear C1
  rintro e w1 ⟨rfl, rfl⟩
  rcases g1 with _ | _
  · go_wp2
    go_ret
    exact ⟨by rw [HR.out]; simp, ((Ext.refl w).alloc _).drewN _⟩
  go_wp2_with fail
  refine (C2.out _).mono ?_
  clear C2
  rintro e w1 ⟨rfl, rfl⟩
  rcases g2 with _ | _
  · go_wp2
    go_ret
    exact ⟨by rw [HR.out]; simp, ((Ext.refl w).alloc _).drewN _⟩
  rcases g3 : (src != dst) with _ | _
  · go_wp2
    go_ret
    exact ⟨by rw [HR.out]; simp [g3], ((Ext.refl w).alloc _).drewN _⟩
  go_wp2_with fail
  refine (C4.out _).mono ?_
  clear C4
  rintro e w1 ⟨rfl, rfl⟩
  rcases g4 with _ | _
  · go_wp2
    go_ret
    exact ⟨by rw [HR.out]; simp, ((Ext.refl w).alloc _).drewN _⟩
  go_wp2_with fail
  refine (C5.out _).mono ?_
  clear C5
  rintro e w1 ⟨rfl, rfl⟩
  rcases g5 with _ | _
  · go_wp2
    go_ret
    exact ⟨by rw [HR.out]; simp, ((Ext.refl w).alloc _).drewN _⟩
  go_wp2_with fail
  refine (C6.out _).mono ?_
  clear C6
  rintro e w1 ⟨rfl, rfl⟩
  rcases g6 with _ | _
  · go_wp2
    go_ret
    exact ⟨by rw [HR.out]; simp, ((Ext.refl w).alloc _).drewN _⟩
  go_wp2_with fail
  refine (C7.out _).mono ?_
  clear C7
  rintro e w1 ⟨rfl, rfl⟩
  rcases g7 with _ | _
  · go_wp2
    go_ret
    exact ⟨by rw [HR.out]; simp, ((Ext.refl w).alloc _).drewN _⟩
  go_wp2_with fail
  refine (C8.out _).mono ?_
  clear C8
  rintro e w1 ⟨rfl, rfl⟩
  rcases g8 with _ | _
  · go_wp2
    go_ret
    exact ⟨by rw [HR.out]; simp, ((Ext.refl w).alloc _).drewN _⟩
  go_wp2_with fail
  refine (C9.out _).mono ?_
  clear C9
  rintro e w1 ⟨rfl, rfl⟩
  rcases g9 with _ | _
  · go_wp2
    go_ret
    exact ⟨by rw [HR.out]; simp, ((Ext.refl w).alloc _).drewN _⟩
  have h9 := inB_t.1 H9.out
  clear H9
  obtain rfl : n = 0 := by omega
  obtain rfl : l = [] := List.eq_nil_of_length_eq_zero hlen
  clear hes hlen h9
  go_wp2_with fail
  go_loopw [114] (fun i wr => i = .int .i64 0 ∧ Ext w wr) (fun i _ => 0)
  case atStart => exact ⟨rfl, ((Ext.refl w).alloc _).drewN _⟩
  case round =>
    obtain ⟨rfl, hx⟩ := hrel
    go_wp2
    go_ret
    exact ⟨by rw [HR.out, entsB_nil]; simp [g3], hx⟩

set_option maxRecDepth 100000 in
set_option maxHeartbeats 1600000 in
theorem letter_May4f (src dst term la lb lc bin : Int) (A : Option Addr) (n cp : Nat) (l : List EV) (w : World) (hes : Es w A n l) (hn : n ≤ 20000) :
    Calls Try.prog 13 #[(⟨4, src, dst, term, la, lb, lc, bin, false, A, n, cp, l⟩ : LV).val] w fun e w' => e = .returned (.int .i64 (mayR ⟨4, src, dst, term, la, lb, lc, bin, false, A, n, cp, l⟩)) ∧ Ext w w' := by
  unfold LV.val
  dsimp only
  have hlen := hes.len
  obtain ⟨g1, hg1⟩ : ∃ b, inB src 0 4 = b := ⟨_, rfl⟩
  obtain ⟨g2, hg2⟩ : ∃ b, inB dst 0 4 = b := ⟨_, rfl⟩
  obtain ⟨g4, hg4⟩ : ∃ b, inB term 1 1048576 = b := ⟨_, rfl⟩
  obtain ⟨g5, hg5⟩ : ∃ b, inB bin 1 3 = b := ⟨_, rfl⟩
  obtain ⟨g6, hg6⟩ : ∃ b, inB la 0 64 = b := ⟨_, rfl⟩
  obtain ⟨g7, hg7⟩ : ∃ b, inB lb 0 0 = b := ⟨_, rfl⟩
  obtain ⟨g8, hg8⟩ : ∃ b, inB lc 0 0 = b := ⟨_, rfl⟩
  obtain ⟨g9, hg9⟩ : ∃ b, inB n 0 0 = b := ⟨_, rfl⟩
  have hR : mayR ⟨4, src, dst, term, la, lb, lc, bin, false, A, n, cp, l⟩ = if (g1 && g2 && (src != dst) && g4 && g5 && g6 && g7 && g8 && true && g9 && entsB l) = true then 0 else 1 := by
    simp [mayR, mayB, hg1, hg2, hg4, hg5, hg6, hg7, hg8, hg9]
  have HR := Lib.hid hR; clear hR
  have H9 := Lib.hid hg9
  have C1 := Lib.hid (fun w => letter_in' hg1 w)
  have C2 := Lib.hid (fun w => letter_in' hg2 w)
  have C4 := Lib.hid (fun w => letter_in' hg4 w)
  have C5 := Lib.hid (fun w => letter_in' hg5 w)
  have C6 := Lib.hid (fun w => letter_upto_t (hi := 64) hg6 w)
  have C7 := Lib.hid (fun w => letter_upto_f (hi := 1048576) hg7 w)
  have C8 := Lib.hid (fun w => letter_upto_f (hi := 64) hg8 w)
  have C9 := Lib.hid (fun w => letter_upto_f (hi := 4) hg9 w)
  clear hg1 hg2 hg4 hg5 hg6 hg7 hg8 hg9
  go_enter Try.func13, Try.ntmps13
  simp only [List.append_eq, List.cons_append, List.nil_append]
  go_wp2
  go_quiet (fail)
  go_wp2_with fail
  refine (C1.out _).mono ?_
  clear C1
  rintro e w1 ⟨rfl, rfl⟩
  rcases g1 with _ | _
  · go_wp2
    go_ret
    exact ⟨by rw [HR.out]; simp, ((Ext.refl w).alloc _).drewN _⟩
  go_wp2_with fail
  refine (C2.out _).mono ?_
  clear C2
  rintro e w1 ⟨rfl, rfl⟩
  rcases g2 with _ | _
  · go_wp2
    go_ret
    exact ⟨by rw [HR.out]; simp, ((Ext.refl w).alloc _).drewN _⟩
  rcases g3 : (src != dst) with _ | _
  · go_wp2
    go_ret
    exact ⟨by rw [HR.out]; simp [g3], ((Ext.refl w).alloc _).drewN _⟩
  go_wp2_with fail
  refine (C4.out _).mono ?_
  clear C4
  rintro e w1 ⟨rfl, rfl⟩
  rcases g4 with _ | _
  · go_wp2
    go_ret
    exact ⟨by rw [HR.out]; simp, ((Ext.refl w).alloc _).drewN _⟩
  go_wp2_with fail
  refine (C5.out _).mono ?_
  clear C5
  rintro e w1 ⟨rfl, rfl⟩
  rcases g5 with _ | _
  · go_wp2
    go_ret
    exact ⟨by rw [HR.out]; simp, ((Ext.refl w).alloc _).drewN _⟩
  go_wp2_with fail
  refine (C6.out _).mono ?_
  clear C6
  rintro e w1 ⟨rfl, rfl⟩
  rcases g6 with _ | _
  · go_wp2
    go_ret
    exact ⟨by rw [HR.out]; simp, ((Ext.refl w).alloc _).drewN _⟩
  go_wp2_with fail
  refine (C7.out _).mono ?_
  clear C7
  rintro e w1 ⟨rfl, rfl⟩
  rcases g7 with _ | _
  · go_wp2
    go_ret
    exact ⟨by rw [HR.out]; simp, ((Ext.refl w).alloc _).drewN _⟩
  go_wp2_with fail
  refine (C8.out _).mono ?_
  clear C8
  rintro e w1 ⟨rfl, rfl⟩
  rcases g8 with _ | _
  · go_wp2
    go_ret
    exact ⟨by rw [HR.out]; simp, ((Ext.refl w).alloc _).drewN _⟩
  go_wp2_with fail
  refine (C9.out _).mono ?_
  clear C9
  rintro e w1 ⟨rfl, rfl⟩
  rcases g9 with _ | _
  · go_wp2
    go_ret
    exact ⟨by rw [HR.out]; simp, ((Ext.refl w).alloc _).drewN _⟩
  have h9 := inB_t.1 H9.out
  clear H9
  obtain rfl : n = 0 := by omega
  obtain rfl : l = [] := List.eq_nil_of_length_eq_zero hlen
  clear hes hlen h9
  go_wp2_with fail
  go_loopw [114] (fun i wr => i = .int .i64 0 ∧ Ext w wr) (fun i _ => 0)
  case atStart => exact ⟨rfl, ((Ext.refl w).alloc _).drewN _⟩
  case round =>
    obtain ⟨rfl, hx⟩ := hrel
    go_wp2
    go_ret
    exact ⟨by rw [HR.out, entsB_nil]; simp [g3], hx⟩

set_option maxRecDepth 100000 in
set_option maxHeartbeats 800000 in
theorem letter_May0 (kind src dst term la lb lc bin : Int) (ok : Bool) (A : Option Addr) (n cp : Nat) (l : List EV) (w : World) (h1 : kind ≠ 1) (h2 : kind ≠ 2) (h3 : kind ≠ 3) (h4 : kind ≠ 4) :
    Calls Try.prog 13 #[(⟨kind, src, dst, term, la, lb, lc, bin, ok, A, n, cp, l⟩ : LV).val] w fun e w' => e = .returned (.int .i64 (mayR ⟨kind, src, dst, term, la, lb, lc, bin, ok, A, n, cp, l⟩)) ∧ Ext w w' := by
  have HR := Lib.hid (mayR_f (x := ⟨kind, src, dst, term, la, lb, lc, bin, ok, A, n, cp, l⟩) (by simp [mayB, h1, h2, h3, h4]))
  unfold LV.val
  dsimp only
  have g1 := beq_f h1
  have g2 := beq_f h2
  have g3 := beq_f h3
  have g4 := beq_f h4
  have d1 := dec_f h1
  have d2 := dec_f h2
  have d3 := dec_f h3
  have d4 := dec_f h4
  clear h1 h2 h3 h4
  go_enter Try.func13, Try.ntmps13
  simp only [List.append_eq, List.cons_append, List.nil_append]
  go_wp2
  go_quiet (fail)
  go_wp2
  go_ret
  exact ⟨by rw [HR.out]; rfl, ((Ext.refl w).alloc _).drewN _⟩

theorem letter_May (x : LV) (w : World) (hx : x.Ok w) (hn : x.n ≤ 20000) :
    Calls Try.prog 13 #[x.val] w fun e w' => e = .returned (.int .i64 (mayR x)) ∧ Ext w w' := by
  have hes := hx.es
  obtain ⟨kind, src, dst, term, la, lb, lc, bin, ok, A, n, cp, l⟩ := x
  by_cases h1 : kind = 1
  · subst h1; exact letter_May1 src dst term la lb lc bin ok A n cp l w hes hn
  by_cases h2 : kind = 2
  · subst h2
    cases ok
    · exact letter_May2f src dst term la lb lc bin A n cp l w hes hn
    · exact letter_May2t src dst term la lb lc bin A n cp l w hes hn
  by_cases h3 : kind = 3
  · subst h3; exact letter_May3 src dst term la lb lc bin ok A n cp l w hes hn
  by_cases h4 : kind = 4
  · subst h4
    cases ok
    · exact letter_May4f src dst term la lb lc bin A n cp l w hes hn
    · exact letter_May4t src dst term la lb lc bin A n cp l w hes hn
  exact letter_May0 kind src dst term la lb lc bin ok A n cp l w h1 h2 h3 h4
end Go.Proofs.Ytcoaofaofmbfbaa

/- The walks of layer 17: terms, and whether a log is as fresh. -/
namespace Go.Proofs.Ytcoaofaofmbfbaa
open Go.RowKit

/-- the term of an entry, 0 ahead of the first, -1 where there is none -/
def termB (l : List EV) (at_ : Int) : Int := if at_ = 0 then 0 else if at_ < 0 then -1 else match l[(at_ - 1).toNat]? with | none => -1 | some e => e.term
theorem termB_zero (l : List EV) : termB l 0 = 0 := by simp [termB]
theorem termB_at (l : List EV) (m : Nat) (h : m < l.length) : termB l ((m : Int) + 1) = l[m].term := by
  unfold termB
  rw [if_neg (by omega), if_neg (by omega), show ((m : Int) + 1 - 1).toNat = m by omega, List.getElem?_eq_getElem h]
theorem termB_out (l : List EV) (a : Int) (h : a < 0 ∨ (l.length : Int) < a) : termB l a = -1 := by
  unfold termB
  rcases h with h | h
  · rw [if_neg (by omega), if_pos h]
  · rw [if_neg (by omega), if_neg (by omega), List.getElem?_eq_none (by omega)]
theorem termB_last (l : List EV) : termB l l.length = lastT l := by
  rcases Nat.eq_zero_or_pos l.length with h | h
  · rw [List.eq_nil_of_length_eq_zero h]; rfl
  · have h1 := lastT_at l (l.length - 1) (by omega)
    have h2 := termB_at l (l.length - 1) (by omega)
    rw [h1, ← h2]
    congr 1
    omega
/-- is a log whose last entry has this number and term as fresh -/
def freshB (l : List EV) (num t : Int) : Bool := decide (lastT l < t) || (decide (t = lastT l) && decide ((l.length : Int) ≤ num))

theorem fresh_cases (l : List EV) (num t : Int) : (lastT l < t ∧ freshB l num t = true) ∨ (¬ lastT l < t ∧ t = lastT l ∧ freshB l num t = decide ((l.length : Int) ≤ num)) ∨ (t < lastT l ∧ freshB l num t = false) := by
  by_cases h : lastT l < t
  · exact .inl ⟨h, by simp [freshB, h]⟩
  · by_cases h2 : t = lastT l
    · exact .inr (.inl ⟨h, h2, by simp [freshB, h2]⟩)
    · exact .inr (.inr ⟨by omega, by simp [freshB, h, h2]⟩)

end Go.Proofs.Ytcoaofaofmbfbaa

/- The walks of layer 18: what is saved; the laws' states and letters. -/
namespace Go.Proofs.Ytcoaofaofmbfbaa
open Go.RowKit

theorem entsT : SliceT Try.prog 24 31 2 32 := .mk' Try.underlying24 (z := .agg #[.int .i64 0, .slice none 0 0]) (by kernel_rfl) rfl

/-- what is saved to stand, and an error's number -/
def standL (st me : Int) : List RV × Nat := if me < 0 ∨ 5 ≤ me then ([], 1) else if 1048576 ≤ st then ([], 4) else ([voteR (st + 1) (me + 1)], 0)

end Go.Proofs.Ytcoaofaofmbfbaa

/- The walks of stable and letter of layer 16's laws. -/
namespace Go.Proofs.Ytcoaofaofmbfbaa
open Go.RowKit

set_option maxRecDepth 100000 in
set_option maxHeartbeats 1600000 in
theorem law16_letter (kind src dst term la lb lc bin : Int) (ok : Bool) (A : Option Addr) (n c : Nat) (l : List EV) (w : World) (hes : Es w A n l) (hnc : n ≤ c) (hcm : c ≤ maxLen) :
    Calls Try.prog 14 #[.agg #[.int .i64 kind, .int .i64 src, .int .i64 dst, .int .i64 term, .int .i64 la, .int .i64 lb, .int .i64 lc, .int .i64 bin, .bool ok, .slice A n c]] w fun e w' => ∃ v, e = .returned (.agg #[.int .i64 kind, .int .i64 src, .int .i64 dst, .int .i64 term, .int .i64 la, .int .i64 lb, .int .i64 lc, .int .i64 bin, .bool ok, v]) ∧ w'.ownsRow w.heap.size 31 2 v (min 6 n) (logOf (cutL 6 250 l)) ∧ Ext w w' := by
  have hlen := hes.len
  have hmx : n ≤ 9223372036854775807 := by unfold maxLen at hcm; omega
  clear hcm
  have hB1 : Blk ((w.alloc (.cells #[.int .i64 kind, .int .i64 src, .int .i64 dst, .int .i64 term, .int .i64 la, .int .i64 lb, .int .i64 lc, .int .i64 bin, .bool ok, .slice A n c] 26)).alloc (.cells #[.int .i64 0, .int .i64 0, .int .i64 0, .int .i64 0, .int .i64 0, .int .i64 0, .int .i64 0, .int .i64 0, .bool false, .slice none 0 0] 26)) w.heap.size 26 [.int .i64 kind, .int .i64 src, .int .i64 dst, .int .i64 term, .int .i64 la, .int .i64 lb, .int .i64 lc, .int .i64 bin, .bool ok, .slice A n c] := (Blk.new w 26 [.int .i64 kind, .int .i64 src, .int .i64 dst, .int .i64 term, .int .i64 la, .int .i64 lb, .int .i64 lc, .int .i64 bin, .bool ok, .slice A n c]).alloc _
  have hB2 : Blk ((w.alloc (.cells #[.int .i64 kind, .int .i64 src, .int .i64 dst, .int .i64 term, .int .i64 la, .int .i64 lb, .int .i64 lc, .int .i64 bin, .bool ok, .slice A n c] 26)).alloc (.cells #[.int .i64 0, .int .i64 0, .int .i64 0, .int .i64 0, .int .i64 0, .int .i64 0, .int .i64 0, .int .i64 0, .bool false, .slice none 0 0] 26)) (w.heap.size + 1) 26 [.int .i64 0, .int .i64 0, .int .i64 0, .int .i64 0, .int .i64 0, .int .i64 0, .int .i64 0, .int .i64 0, .bool false, .slice none 0 0] := by
    have := Blk.new (w.alloc (.cells #[.int .i64 kind, .int .i64 src, .int .i64 dst, .int .i64 term, .int .i64 la, .int .i64 lb, .int .i64 lc, .int .i64 bin, .bool ok, .slice A n c] 26)) 26 [.int .i64 0, .int .i64 0, .int .i64 0, .int .i64 0, .int .i64 0, .int .i64 0, .int .i64 0, .int .i64 0, .bool false, .slice none 0 0]
    simpa using this
  have hes0 : Es ((w.alloc (.cells #[.int .i64 kind, .int .i64 src, .int .i64 dst, .int .i64 term, .int .i64 la, .int .i64 lb, .int .i64 lc, .int .i64 bin, .bool ok, .slice A n c] 26)).alloc (.cells #[.int .i64 0, .int .i64 0, .int .i64 0, .int .i64 0, .int .i64 0, .int .i64 0, .int .i64 0, .int .i64 0, .bool false, .slice none 0 0] 26)) A n l := hes.ext (((Ext.refl w).alloc _).alloc _)
  have hx0 : Ext w ((w.alloc (.cells #[.int .i64 kind, .int .i64 src, .int .i64 dst, .int .i64 term, .int .i64 la, .int .i64 lb, .int .i64 lc, .int .i64 bin, .bool ok, .slice A n c] 26)).alloc (.cells #[.int .i64 0, .int .i64 0, .int .i64 0, .int .i64 0, .int .i64 0, .int .i64 0, .int .i64 0, .int .i64 0, .bool false, .slice none 0 0] 26)) := ((Ext.refl w).alloc _).alloc _
  have hz0 : ((w.alloc (.cells #[.int .i64 kind, .int .i64 src, .int .i64 dst, .int .i64 term, .int .i64 la, .int .i64 lb, .int .i64 lc, .int .i64 bin, .bool ok, .slice A n c] 26)).alloc (.cells #[.int .i64 0, .int .i64 0, .int .i64 0, .int .i64 0, .int .i64 0, .int .i64 0, .int .i64 0, .int .i64 0, .bool false, .slice none 0 0] 26)).heap.size = w.heap.size + 2 := by simp
  have h0 := own_empty ((w.alloc (.cells #[.int .i64 kind, .int .i64 src, .int .i64 dst, .int .i64 term, .int .i64 la, .int .i64 lb, .int .i64 lc, .int .i64 bin, .bool ok, .slice A n c] 26)).alloc (.cells #[.int .i64 0, .int .i64 0, .int .i64 0, .int .i64 0, .int .i64 0, .int .i64 0, .int .i64 0, .int .i64 0, .bool false, .slice none 0 0] 26)) 31 2
  rw [hz0] at h0
  have Hz0 := Lib.hid hz0; clear hz0 hes
  go_enter Try.func14, Try.ntmps14
  go_wp2
  go_loopw [3, 4] (fun v i wr => ∃ j : Nat, i = .int .i64 j ∧ j ≤ n ∧ j ≤ 6 ∧ wr.ownsRow (w.heap.size + 2) 31 2 v j (logOf ((cutL 6 250 l).take j)) ∧ Ext ((w.alloc (.cells #[.int .i64 kind, .int .i64 src, .int .i64 dst, .int .i64 term, .int .i64 la, .int .i64 lb, .int .i64 lc, .int .i64 bin, .bool ok, .slice A n c] 26)).alloc (.cells #[.int .i64 0, .int .i64 0, .int .i64 0, .int .i64 0, .int .i64 0, .int .i64 0, .int .i64 0, .int .i64 0, .bool false, .slice none 0 0] 26)) wr) (fun _ i _ => 6 - (intOf i).toNat)
  case atStart => exact ⟨0, rfl, by omega, by omega, by simpa [logOf] using h0, (Ext.refl _).alloc _⟩
  case round =>
    obtain ⟨j, rfl, hj, hjm, hown, hx⟩ := hrel
    replace hB1 := hB1.ext hx
    replace hB2 := hB2.ext hx
    clear h0
    by_cases hlt : j < n ∧ j < 6
    · obtain ⟨hjn, hj7⟩ := hlt
      obtain ⟨b, off, rfl, c0, c1⟩ := (hes0.ext hx).at_ hjn
      have hyc := ((hes0.ext hx).ok l[j] (List.getElem_mem _)).le
      have hsn := cutL_snoc 6 250 l j (by omega) hj7
      generalize l[j] = y at *
      obtain ⟨yt, yA, yl, yc, yb⟩ := y
      dsimp only at c0 c1 hyc
      have Hsn := Lib.hid hsn; clear hsn
      have hs3 := hB1.cell 9
      simp only [List.getElem?_cons_zero, List.getElem?_cons_succ] at hs3
      have hszw := hx.size
      rw [Hz0.out] at hszw
      have HB := Lib.hid hB1
      clear hB1 hB2
      by_cases hc : 250 < yl
      · go_wp2_with (at_builtin; refine wpList_app entsT (by omega) _ rfl rfl rfl ((hown.alloc _).alloc _) rfl (rd_at2 _ (.int .i64 yt) (.slice yA 250 yc) _ _ (by simp)) (ecells_one _ _ _ _) (by unfold maxLen; omega) (by omega) (by simp; omega) ?_; intro v1 w1 hown1 hg1 hat1)
        go_roundw
        case rel => exact ⟨j + 1, val_int (by omega), by omega, by omega, own_to hown1 (Nat.le_refl _) rfl (by rw [Hsn.out, logOf_append, logOf_one]; simp [cutE, hc, EV.cells]), Below.app ((hx.alloc _).alloc _) hg1 (by rw [Hz0.out]; simp; omega) ((hown.alloc _).alloc _) (by rw [Hz0.out]; omega)⟩
        case measure => simp [intOf]; omega
      · go_wp2_with (at_builtin; refine wpList_app entsT (by omega) _ rfl rfl rfl ((hown.alloc _).alloc _) rfl (rd_at2 _ (.int .i64 yt) (.slice yA yl yc) _ _ (by simp)) (ecells_one _ _ _ _) (by unfold maxLen; omega) (by omega) (by simp; omega) ?_; intro v1 w1 hown1 hg1 hat1)
        go_roundw
        case rel => exact ⟨j + 1, val_int (by omega), by omega, by omega, own_to hown1 (Nat.le_refl _) rfl (by rw [Hsn.out, logOf_append, logOf_one]; simp [cutE, hc, EV.cells]), Below.app ((hx.alloc _).alloc _) hg1 (by rw [Hz0.out]; simp; omega) ((hown.alloc _).alloc _) (by rw [Hz0.out]; omega)⟩
        case measure => simp [intOf]; omega
    · have hjm : j = min 6 n := by omega
      have hown' := own_to (base' := w.heap.size + 2) (ys := logOf (cutL 6 250 l)) hown (by omega) rfl (by rw [List.take_of_length_le (by rw [cutL_len]; omega)])
      obtain ⟨A', c', rfl, hc'⟩ := own_form hown'
      have Hown := Lib.hid hown'
      have hcs : j = n ∨ j < n ∧ j = 6 := by omega
      clear hown hown' hc' hjm hlt
      have c0 := hB1.cell 0
      have c1 := hB1.cell 1
      have c2 := hB1.cell 2
      have c3 := hB1.cell 3
      have c4 := hB1.cell 4
      have c5 := hB1.cell 5
      have c6 := hB1.cell 6
      have c7 := hB1.cell 7
      have c8 := hB1.cell 8
      have c9 := hB1.cell 9
      have f9 := hB1.frozen 9
      have d0 := hB2.cell 0
      have e0 := hB2.frozen 0
      have d1 := hB2.cell 1
      have e1 := hB2.frozen 1
      have d2 := hB2.cell 2
      have e2 := hB2.frozen 2
      have d3 := hB2.cell 3
      have e3 := hB2.frozen 3
      have d4 := hB2.cell 4
      have e4 := hB2.frozen 4
      have d5 := hB2.cell 5
      have e5 := hB2.frozen 5
      have d6 := hB2.cell 6
      have e6 := hB2.frozen 6
      have d7 := hB2.cell 7
      have e7 := hB2.frozen 7
      have d8 := hB2.cell 8
      have e8 := hB2.frozen 8
      have d9 := hB2.cell 9
      have e9 := hB2.frozen 9
      simp only [List.getElem?_cons_zero, List.getElem?_cons_succ] at c0 d0 c1 d1 c2 d2 c3 d3 c4 d4 c5 d5 c6 d6 c7 d7 c8 d8 c9 d9
      have hz := hx.size
      rw [Hz0.out] at hz
      have hlt1 : w.heap.size + 1 < wr.heap.size := by omega
      have hx' : Ext w wr := hx0.trans hx
      clear hB1 hB2 hes0 hx0 hx
      rcases hcs with rfl | ⟨hjn, rfl⟩
      · go_wp2
        refine bodyPost_ret (v := .agg #[.int .i64 kind, .int .i64 src, .int .i64 dst, .int .i64 term, .int .i64 la, .int .i64 lb, .int .i64 lc, .int .i64 bin, .bool ok, .slice A' j c']) (by simp [results, Try.results14, go_sem, d0, d1, d2, d3, d4, d5, d6, d7, d8, d9]) rfl ⟨_, rfl, ?_, ?_⟩
        · refine own_base (base := w.heap.size + 2) ?_ (by omega)
          repeat (refine own_set ?_ (by simp) _)
          exact own_to Hown.out (Nat.le_refl _) (by omega) rfl
        · repeat (refine Ext.setCell ?_ (by simp) _)
          exact hx'
      · have t1 : decide ((6 : Int) < (n : Int)) = true := dec_t (by omega)
        go_wp2
        refine bodyPost_ret (v := .agg #[.int .i64 kind, .int .i64 src, .int .i64 dst, .int .i64 term, .int .i64 la, .int .i64 lb, .int .i64 lc, .int .i64 bin, .bool ok, .slice A' 6 c']) (by simp [results, Try.results14, go_sem, d0, d1, d2, d3, d4, d5, d6, d7, d8, d9]) rfl ⟨_, rfl, ?_, ?_⟩
        · refine own_base (base := w.heap.size + 2) ?_ (by omega)
          repeat (refine own_set ?_ (by simp) _)
          exact own_to Hown.out (Nat.le_refl _) (by omega) rfl
        · repeat (refine Ext.setCell ?_ (by simp) _)
          exact hx'
end Go.Proofs.Ytcoaofaofmbfbaa
