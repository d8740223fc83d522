/- The walk of letter.May. -/
import Derived.Test.YtcdnjhcddbkciaaLogA
namespace Go.Proofs.Ytcdnjhcddbkciaa
open Go.RowKit

/-- may the entries of a letter be -/
def entsB (l : List EV) : Bool := l.all fun y => inB y.term 1 1048576 && decide (y.len ≤ 200)
theorem entsB_nil : entsB [] = true := rfl
theorem entsB_cons (y : EV) (r : List EV) : entsB (y :: r) = ((inB y.term 1 1048576 && decide (y.len ≤ 200)) && entsB r) := rfl
/-- may a letter be -/
def mayB (x : LV) : Bool :=
  ((x.kind == 1 || x.kind == 2 || x.kind == 3 || x.kind == 4) && inB x.src 0 4 && inB x.dst 0 4 && (x.src != x.dst) && inB x.term 1 1048576 && inB x.bin 1 3 &&
    inB x.a 0 (if (x.kind == 1 || x.kind == 3 || x.kind == 4) then 64 else 0) && inB x.b 0 (if (x.kind == 1 || x.kind == 3) then 1048576 else 0) && inB x.c 0 (if x.kind == 3 then 64 else 0) &&
    (!x.ok || x.kind == 2 || x.kind == 4) && inB x.n 0 (if x.kind == 3 then 4 else 0)) && entsB x.l
def mayR (x : LV) : Int := if mayB x then 0 else 1
theorem mayR_t {x : LV} (h : mayB x = true) : mayR x = 0 := by simp [mayR, h]
theorem mayR_f {x : LV} (h : mayB x = false) : mayR x = 1 := by simp [mayR, h]

set_option maxRecDepth 100000 in
set_option maxHeartbeats 1600000 in
theorem letter_May3 (src dst term la lb lc bin : Int) (ok : Bool) (A : Option Addr) (n cp : Nat) (l : List EV) (w : World) (hes : Es w A n l) (hn : n ≤ 20000) :
    Calls Try.prog 63 #[(⟨3, src, dst, term, la, lb, lc, bin, ok, A, n, cp, l⟩ : LV).val] w fun e w' => e = .returned (.int .i64 (mayR ⟨3, src, dst, term, la, lb, lc, bin, ok, A, n, cp, l⟩)) ∧ Ext w w' := by
  unfold LV.val
  dsimp only
  have hlen := hes.len
  obtain ⟨g1, hg1⟩ : ∃ b, inB src 0 4 = b := ⟨_, rfl⟩
  obtain ⟨g2, hg2⟩ : ∃ b, inB dst 0 4 = b := ⟨_, rfl⟩
  obtain ⟨g4, hg4⟩ : ∃ b, inB term 1 1048576 = b := ⟨_, rfl⟩
  obtain ⟨g5, hg5⟩ : ∃ b, inB bin 1 3 = b := ⟨_, rfl⟩
  obtain ⟨g6, hg6⟩ : ∃ b, inB la 0 64 = b := ⟨_, rfl⟩
  obtain ⟨g7, hg7⟩ : ∃ b, inB lb 0 1048576 = b := ⟨_, rfl⟩
  obtain ⟨g8, hg8⟩ : ∃ b, inB lc 0 64 = b := ⟨_, rfl⟩
  obtain ⟨g9, hg9⟩ : ∃ b, inB n 0 4 = b := ⟨_, rfl⟩
  have hR : mayR ⟨3, src, dst, term, la, lb, lc, bin, ok, A, n, cp, l⟩ = if (g1 && g2 && (src != dst) && g4 && g5 && g6 && g7 && g8 && !ok && g9 && entsB l) = true then 0 else 1 := by
    simp [mayR, mayB, hg1, hg2, hg4, hg5, hg6, hg7, hg8, hg9]
  have HR := Lib.hid hR; clear hR
  have H9 := Lib.hid hg9
  have C1 := Lib.hid (fun w => letter_in' hg1 w)
  have C2 := Lib.hid (fun w => letter_in' hg2 w)
  have C4 := Lib.hid (fun w => letter_in' hg4 w)
  have C5 := Lib.hid (fun w => letter_in' hg5 w)
  have C6 := Lib.hid (fun w => letter_upto_t (hi := 64) hg6 w)
  have C7 := Lib.hid (fun w => letter_upto_t (hi := 1048576) hg7 w)
  have C8 := Lib.hid (fun w => letter_upto_t (hi := 64) hg8 w)
  have C9 := Lib.hid (fun w => letter_upto_t (hi := 4) hg9 w)
  clear hg1 hg2 hg4 hg5 hg6 hg7 hg8 hg9
  go_enter Try.func63, Try.ntmps63
  simp only [List.append_eq, List.cons_append, List.nil_append]
  go_wp2
  go_quiet (fail)
  go_wp2_with fail
  refine (C1.out _).mono ?_
  clear C1
  rintro e w1 ⟨rfl, rfl⟩
  rcases g1 with _ | _
  · go_wp2
    go_ret
    exact ⟨by rw [HR.out]; simp, ((Ext.refl w).alloc _).drewN _⟩
  go_wp2_with fail
  refine (C2.out _).mono ?_
  clear C2
  rintro e w1 ⟨rfl, rfl⟩
  rcases g2 with _ | _
  · go_wp2
    go_ret
    exact ⟨by rw [HR.out]; simp, ((Ext.refl w).alloc _).drewN _⟩
  rcases g3 : (src != dst) with _ | _
  · go_wp2
    go_ret
    exact ⟨by rw [HR.out]; simp [g3], ((Ext.refl w).alloc _).drewN _⟩
  go_wp2_with fail
  refine (C4.out _).mono ?_
  clear C4
  rintro e w1 ⟨rfl, rfl⟩
  rcases g4 with _ | _
  · go_wp2
    go_ret
    exact ⟨by rw [HR.out]; simp, ((Ext.refl w).alloc _).drewN _⟩
  go_wp2_with fail
  refine (C5.out _).mono ?_
  clear C5
  rintro e w1 ⟨rfl, rfl⟩
  rcases g5 with _ | _
  · go_wp2
    go_ret
    exact ⟨by rw [HR.out]; simp, ((Ext.refl w).alloc _).drewN _⟩
  go_wp2_with fail
  refine (C6.out _).mono ?_
  clear C6
  rintro e w1 ⟨rfl, rfl⟩
  rcases g6 with _ | _
  · go_wp2
    go_ret
    exact ⟨by rw [HR.out]; simp, ((Ext.refl w).alloc _).drewN _⟩
  go_wp2_with fail
  refine (C7.out _).mono ?_
  clear C7
  rintro e w1 ⟨rfl, rfl⟩
  rcases g7 with _ | _
  · go_wp2
    go_ret
    exact ⟨by rw [HR.out]; simp, ((Ext.refl w).alloc _).drewN _⟩
  go_wp2_with fail
  refine (C8.out _).mono ?_
  clear C8
  rintro e w1 ⟨rfl, rfl⟩
  rcases g8 with _ | _
  · go_wp2
    go_ret
    exact ⟨by rw [HR.out]; simp, ((Ext.refl w).alloc _).drewN _⟩
  rcases ok with _ | _
  rotate_left
  · go_wp2
    go_ret
    exact ⟨by rw [HR.out]; simp, ((Ext.refl w).alloc _).drewN _⟩
  go_wp2_with fail
  refine (C9.out _).mono ?_
  clear C9
  rintro e w1 ⟨rfl, rfl⟩
  rcases g9 with _ | _
  · go_wp2
    go_ret
    exact ⟨by rw [HR.out]; simp, ((Ext.refl w).alloc _).drewN _⟩
  have h9 := inB_t.1 H9.out
  clear H9
  go_wp2_with fail
  go_loopw [114] (fun i wr => ∃ j : Nat, i = .int .i64 j ∧ j ≤ n ∧ entsB l = entsB (l.drop j) ∧ Ext w wr) (fun i _ => n - (intOf i).toNat)
  case atStart => exact ⟨0, rfl, by omega, rfl, ((Ext.refl w).alloc _).drewN _⟩
  case round =>
    obtain ⟨j, rfl, hj, he, hx⟩ := hrel
    have He := Lib.hid he; clear he
    by_cases hjn : j < n
    · have hd : l.drop j = l[j] :: l.drop (j + 1) := List.drop_eq_getElem_cons (by omega)
      obtain ⟨b, off, rfl, c0, c1⟩ := (hes.ext hx).at_ hjn
      generalize l[j] = y at *
      have Hd := Lib.hid hd; clear hd
      obtain ⟨yt, yA, yl, yc, yb⟩ := y
      dsimp only at c0 c1
      rcases g : inB yt 1 1048576 with _ | _
      · have C := Lib.hid (fun w => letter_in' g w)
        have He2 : Hid (entsB l = false) := Lib.hid (by rw [He.out, Hd.out, entsB_cons, g]; rfl)
        clear g
        go_wp2_with fail
        refine (C.out _).mono ?_
        rintro e w1 ⟨rfl, rfl⟩
        go_wp2
        go_ret
        exact ⟨by rw [HR.out, He2.out]; simp, hx.alloc _⟩
      · have C := Lib.hid (fun w => letter_in' g w)
        by_cases hb : 200 < yl
        · have He2 : Hid (entsB l = false) := Lib.hid (by rw [He.out, Hd.out, entsB_cons, g, dec_f (show ¬ yl ≤ 200 by omega)]; rfl)
          clear g
          go_wp2_with fail
          refine (C.out _).mono ?_
          rintro e w1 ⟨rfl, rfl⟩
          go_wp2
          go_ret
          exact ⟨by rw [HR.out, He2.out]; simp, hx.alloc _⟩
        · have He2 : Hid (entsB l = entsB (l.drop (j + 1))) := Lib.hid (by rw [He.out, Hd.out, entsB_cons, g, dec_t (show yl ≤ 200 by omega)]; rfl)
          clear g
          go_wp2_with fail
          refine (C.out _).mono ?_
          rintro e w1 ⟨rfl, rfl⟩
          go_wp2
          go_roundw
          case rel => exact ⟨j + 1, val_int (by omega), by omega, He2.out, hx.alloc _⟩
          case measure => simp [intOf]; omega
    · obtain rfl : j = n := by omega
      have He2 : Hid (entsB l = true) := Lib.hid (by rw [He.out, List.drop_of_length_le (by omega)]; rfl)
      go_wp2
      go_ret
      exact ⟨by rw [HR.out, He2.out]; simp [g3], hx⟩
    
set_option maxRecDepth 100000 in
set_option maxHeartbeats 1600000 in
theorem letter_May1 (src dst term la lb lc bin : Int) (ok : Bool) (A : Option Addr) (n cp : Nat) (l : List EV) (w : World) (hes : Es w A n l) (hn : n ≤ 20000) :
    Calls Try.prog 63 #[(⟨1, src, dst, term, la, lb, lc, bin, ok, A, n, cp, l⟩ : LV).val] w fun e w' => e = .returned (.int .i64 (mayR ⟨1, src, dst, term, la, lb, lc, bin, ok, A, n, cp, l⟩)) ∧ Ext w w' := by
  unfold LV.val
  dsimp only
  have hlen := hes.len
  obtain ⟨g1, hg1⟩ : ∃ b, inB src 0 4 = b := ⟨_, rfl⟩
  obtain ⟨g2, hg2⟩ : ∃ b, inB dst 0 4 = b := ⟨_, rfl⟩
  obtain ⟨g4, hg4⟩ : ∃ b, inB term 1 1048576 = b := ⟨_, rfl⟩
  obtain ⟨g5, hg5⟩ : ∃ b, inB bin 1 3 = b := ⟨_, rfl⟩
  obtain ⟨g6, hg6⟩ : ∃ b, inB la 0 64 = b := ⟨_, rfl⟩
  obtain ⟨g7, hg7⟩ : ∃ b, inB lb 0 1048576 = b := ⟨_, rfl⟩
  obtain ⟨g8, hg8⟩ : ∃ b, inB lc 0 0 = b := ⟨_, rfl⟩
  obtain ⟨g9, hg9⟩ : ∃ b, inB n 0 0 = b := ⟨_, rfl⟩
  have hR : mayR ⟨1, src, dst, term, la, lb, lc, bin, ok, A, n, cp, l⟩ = if (g1 && g2 && (src != dst) && g4 && g5 && g6 && g7 && g8 && !ok && g9 && entsB l) = true then 0 else 1 := by
    simp [mayR, mayB, hg1, hg2, hg4, hg5, hg6, hg7, hg8, hg9]
  have HR := Lib.hid hR; clear hR
  have H9 := Lib.hid hg9
  have C1 := Lib.hid (fun w => letter_in' hg1 w)
  have C2 := Lib.hid (fun w => letter_in' hg2 w)
  have C4 := Lib.hid (fun w => letter_in' hg4 w)
  have C5 := Lib.hid (fun w => letter_in' hg5 w)
  have C6 := Lib.hid (fun w => letter_upto_t (hi := 64) hg6 w)
  have C7 := Lib.hid (fun w => letter_upto_t (hi := 1048576) hg7 w)
  have C8 := Lib.hid (fun w => letter_upto_f (hi := 64) hg8 w)
  have C9 := Lib.hid (fun w => letter_upto_f (hi := 4) hg9 w)
  clear hg1 hg2 hg4 hg5 hg6 hg7 hg8 hg9
  go_enter Try.func63, Try.ntmps63
  simp only [List.append_eq, List.cons_append, List.nil_append]
  go_wp2
  go_quiet (fail)
  go_wp2_with fail
  refine (C1.out _).mono ?_
  clear C1
  rintro e w1 ⟨rfl, rfl⟩
  rcases g1 with _ | _
  · go_wp2
    go_ret
    exact ⟨by rw [HR.out]; simp, ((Ext.refl w).alloc _).drewN _⟩
  go_wp2_with fail
  refine (C2.out _).mono ?_
  clear C2
  rintro e w1 ⟨rfl, rfl⟩
  rcases g2 with _ | _
  · go_wp2
    go_ret
    exact ⟨by rw [HR.out]; simp, ((Ext.refl w).alloc _).drewN _⟩
  rcases g3 : (src != dst) with _ | _
  · go_wp2
    go_ret
    exact ⟨by rw [HR.out]; simp [g3], ((Ext.refl w).alloc _).drewN _⟩
  go_wp2_with fail
  refine (C4.out _).mono ?_
  clear C4
  rintro e w1 ⟨rfl, rfl⟩
  rcases g4 with _ | _
  · go_wp2
    go_ret
    exact ⟨by rw [HR.out]; simp, ((Ext.refl w).alloc _).drewN _⟩
  go_wp2_with fail
  refine (C5.out _).mono ?_
  clear C5
  rintro e w1 ⟨rfl, rfl⟩
  rcases g5 with _ | _
  · go_wp2
    go_ret
    exact ⟨by rw [HR.out]; simp, ((Ext.refl w).alloc _).drewN _⟩
  go_wp2_with fail
  refine (C6.out _).mono ?_
  clear C6
  rintro e w1 ⟨rfl, rfl⟩
  rcases g6 with _ | _
  · go_wp2
    go_ret
    exact ⟨by rw [HR.out]; simp, ((Ext.refl w).alloc _).drewN _⟩
  go_wp2_with fail
  refine (C7.out _).mono ?_
  clear C7
  rintro e w1 ⟨rfl, rfl⟩
  rcases g7 with _ | _
  · go_wp2
    go_ret
    exact ⟨by rw [HR.out]; simp, ((Ext.refl w).alloc _).drewN _⟩
  go_wp2_with fail
  refine (C8.out _).mono ?_
  clear C8
  rintro e w1 ⟨rfl, rfl⟩
  rcases g8 with _ | _
  · go_wp2
    go_ret
    exact ⟨by rw [HR.out]; simp, ((Ext.refl w).alloc _).drewN _⟩
  rcases ok with _ | _
  rotate_left
  · go_wp2
    go_ret
    exact ⟨by rw [HR.out]; simp, ((Ext.refl w).alloc _).drewN _⟩
  go_wp2_with fail
  refine (C9.out _).mono ?_
  clear C9
  rintro e w1 ⟨rfl, rfl⟩
  rcases g9 with _ | _
  · go_wp2
    go_ret
    exact ⟨by rw [HR.out]; simp, ((Ext.refl w).alloc _).drewN _⟩
  have h9 := inB_t.1 H9.out
  clear H9
  obtain rfl : n = 0 := by omega
  obtain rfl : l = [] := List.eq_nil_of_length_eq_zero hlen
  clear hes hlen h9
  go_wp2_with fail
  go_loopw [114] (fun i wr => i = .int .i64 0 ∧ Ext w wr) (fun i _ => 0)
  case atStart => exact ⟨rfl, ((Ext.refl w).alloc _).drewN _⟩
  case round =>
    obtain ⟨rfl, hx⟩ := hrel
    go_wp2
    go_ret
    exact ⟨by rw [HR.out, entsB_nil]; simp [g3], hx⟩

set_option maxRecDepth 100000 in
set_option maxHeartbeats 1600000 in
theorem letter_May2t (src dst term la lb lc bin : Int) (A : Option Addr) (n cp : Nat) (l : List EV) (w : World) (hes : Es w A n l) (hn : n ≤ 20000) :
    Calls Try.prog 63 #[(⟨2, src, dst, term, la, lb, lc, bin, true, A, n, cp, l⟩ : LV).val] w fun e w' => e = .returned (.int .i64 (mayR ⟨2, src, dst, term, la, lb, lc, bin, true, A, n, cp, l⟩)) ∧ Ext w w' := by
  unfold LV.val
  dsimp only
  have hlen := hes.len
  obtain ⟨g1, hg1⟩ : ∃ b, inB src 0 4 = b := ⟨_, rfl⟩
  obtain ⟨g2, hg2⟩ : ∃ b, inB dst 0 4 = b := ⟨_, rfl⟩
  obtain ⟨g4, hg4⟩ : ∃ b, inB term 1 1048576 = b := ⟨_, rfl⟩
  obtain ⟨g5, hg5⟩ : ∃ b, inB bin 1 3 = b := ⟨_, rfl⟩
  obtain ⟨g6, hg6⟩ : ∃ b, inB la 0 0 = b := ⟨_, rfl⟩
  obtain ⟨g7, hg7⟩ : ∃ b, inB lb 0 0 = b := ⟨_, rfl⟩
  obtain ⟨g8, hg8⟩ : ∃ b, inB lc 0 0 = b := ⟨_, rfl⟩
  obtain ⟨g9, hg9⟩ : ∃ b, inB n 0 0 = b := ⟨_, rfl⟩
  have hR : mayR ⟨2, src, dst, term, la, lb, lc, bin, true, A, n, cp, l⟩ = if (g1 && g2 && (src != dst) && g4 && g5 && g6 && g7 && g8 && true && g9 && entsB l) = true then 0 else 1 := by
    simp [mayR, mayB, hg1, hg2, hg4, hg5, hg6, hg7, hg8, hg9]
  have HR := Lib.hid hR; clear hR
  have H9 := Lib.hid hg9
  have C1 := Lib.hid (fun w => letter_in' hg1 w)
  have C2 := Lib.hid (fun w => letter_in' hg2 w)
  have C4 := Lib.hid (fun w => letter_in' hg4 w)
  have C5 := Lib.hid (fun w => letter_in' hg5 w)
  have C6 := Lib.hid (fun w => letter_upto_f (hi := 64) hg6 w)
  have C7 := Lib.hid (fun w => letter_upto_f (hi := 1048576) hg7 w)
  have C8 := Lib.hid (fun w => letter_upto_f (hi := 64) hg8 w)
  have C9 := Lib.hid (fun w => letter_upto_f (hi := 4) hg9 w)
  clear hg1 hg2 hg4 hg5 hg6 hg7 hg8 hg9
  go_enter Try.func63, Try.ntmps63
  simp only [List.append_eq, List.cons_append, List.nil_append]
  go_wp2
  go_quiet (fail)
  go_wp2_with fail
  refine (C1.out _).mono ?_
  clear C1
  rintro e w1 ⟨rfl, rfl⟩
  rcases g1 with _ | _
  · go_wp2
    go_ret
    exact ⟨by rw [HR.out]; simp, ((Ext.refl w).alloc _).drewN _⟩
  go_wp2_with fail
  refine (C2.out _).mono ?_
  clear C2
  rintro e w1 ⟨rfl, rfl⟩
  rcases g2 with _ | _
  · go_wp2
    go_ret
    exact ⟨by rw [HR.out]; simp, ((Ext.refl w).alloc _).drewN _⟩
  rcases g3 : (src != dst) with _ | _
  · go_wp2
    go_ret
    exact ⟨by rw [HR.out]; simp [g3], ((Ext.refl w).alloc _).drewN _⟩
  go_wp2_with fail
  refine (C4.out _).mono ?_
  clear C4
  rintro e w1 ⟨rfl, rfl⟩
  rcases g4 with _ | _
  · go_wp2
    go_ret
    exact ⟨by rw [HR.out]; simp, ((Ext.refl w).alloc _).drewN _⟩
  go_wp2_with fail
  refine (C5.out _).mono ?_
  clear C5
  rintro e w1 ⟨rfl, rfl⟩
  rcases g5 with _ | _
  · go_wp2
    go_ret
    exact ⟨by rw [HR.out]; simp, ((Ext.refl w).alloc _).drewN _⟩
  go_wp2_with fail
  refine (C6.out _).mono ?_
  clear C6
  rintro e w1 ⟨rfl, rfl⟩
  rcases g6 with _ | _
  · go_wp2
    go_ret
    exact ⟨by rw [HR.out]; simp, ((Ext.refl w).alloc _).drewN _⟩
  go_wp2_with fail
  refine (C7.out _).mono ?_
  clear C7
  rintro e w1 ⟨rfl, rfl⟩
  rcases g7 with _ | _
  · go_wp2
    go_ret
    exact ⟨by rw [HR.out]; simp, ((Ext.refl w).alloc _).drewN _⟩
  go_wp2_with fail
  refine (C8.out _).mono ?_
  clear C8
  rintro e w1 ⟨rfl, rfl⟩
  rcases g8 with _ | _
  · go_wp2
    go_ret
    exact ⟨by rw [HR.out]; simp, ((Ext.refl w).alloc _).drewN _⟩
  go_wp2_with fail
  refine (C9.out _).mono ?_
  clear C9
  rintro e w1 ⟨rfl, rfl⟩
  rcases g9 with _ | _
  · go_wp2
    go_ret
    exact ⟨by rw [HR.out]; simp, ((Ext.refl w).alloc _).drewN _⟩
  have h9 := inB_t.1 H9.out
  clear H9
  obtain rfl : n = 0 := by omega
  obtain rfl : l = [] := List.eq_nil_of_length_eq_zero hlen
  clear hes hlen h9
  go_wp2_with fail
  go_loopw [114] (fun i wr => i = .int .i64 0 ∧ Ext w wr) (fun i _ => 0)
  case atStart => exact ⟨rfl, ((Ext.refl w).alloc _).drewN _⟩
  case round =>
    obtain ⟨rfl, hx⟩ := hrel
    go_wp2
    go_ret
    exact ⟨by rw [HR.out, entsB_nil]; simp [g3], hx⟩

set_option maxRecDepth 100000 in
set_option maxHeartbeats 1600000 in
theorem letter_May2f (src dst term la lb lc bin : Int) (A : Option Addr) (n cp : Nat) (l : List EV) (w : World) (hes : Es w A n l) (hn : n ≤ 20000) :
    Calls Try.prog 63 #[(⟨2, src, dst, term, la, lb, lc, bin, false, A, n, cp, l⟩ : LV).val] w fun e w' => e = .returned (.int .i64 (mayR ⟨2, src, dst, term, la, lb, lc, bin, false, A, n, cp, l⟩)) ∧ Ext w w' := by
  unfold LV.val
  dsimp only
  have hlen := hes.len
  obtain ⟨g1, hg1⟩ : ∃ b, inB src 0 4 = b := ⟨_, rfl⟩
  obtain ⟨g2, hg2⟩ : ∃ b, inB dst 0 4 = b := ⟨_, rfl⟩
  obtain ⟨g4, hg4⟩ : ∃ b, inB term 1 1048576 = b := ⟨_, rfl⟩
  obtain ⟨g5, hg5⟩ : ∃ b, inB bin 1 3 = b := ⟨_, rfl⟩
  obtain ⟨g6, hg6⟩ : ∃ b, inB la 0 0 = b := ⟨_, rfl⟩
  obtain ⟨g7, hg7⟩ : ∃ b, inB lb 0 0 = b := ⟨_, rfl⟩
  obtain ⟨g8, hg8⟩ : ∃ b, inB lc 0 0 = b := ⟨_, rfl⟩
  obtain ⟨g9, hg9⟩ : ∃ b, inB n 0 0 = b := ⟨_, rfl⟩
  have hR : mayR ⟨2, src, dst, term, la, lb, lc, bin, false, A, n, cp, l⟩ = if (g1 && g2 && (src != dst) && g4 && g5 && g6 && g7 && g8 && true && g9 && entsB l) = true then 0 else 1 := by
    simp [mayR, mayB, hg1, hg2, hg4, hg5, hg6, hg7, hg8, hg9]
  have HR := Lib.hid hR; clear hR
  have H9 := Lib.hid hg9
  have C1 := Lib.hid (fun w => letter_in' hg1 w)
  have C2 := Lib.hid (fun w => letter_in' hg2 w)
  have C4 := Lib.hid (fun w => letter_in' hg4 w)
  have C5 := Lib.hid (fun w => letter_in' hg5 w)
  have C6 := Lib.hid (fun w => letter_upto_f (hi := 64) hg6 w)
  have C7 := Lib.hid (fun w => letter_upto_f (hi := 1048576) hg7 w)
  have C8 := Lib.hid (fun w => letter_upto_f (hi := 64) hg8 w)
  have C9 := Lib.hid (fun w => letter_upto_f (hi := 4) hg9 w)
  clear hg1 hg2 hg4 hg5 hg6 hg7 hg8 hg9
  go_enter Try.func63, Try.ntmps63
  simp only [List.append_eq, List.cons_append, List.nil_append]
  go_wp2
  go_quiet (fail)
  go_wp2_with fail
  refine (C1.out _).mono ?_
  clear C1
  rintro e w1 ⟨rfl, rfl⟩
  rcases g1 with _ | _
  · go_wp2
    go_ret
    exact ⟨by rw [HR.out]; simp, ((Ext.refl w).alloc _).drewN _⟩
  go_wp2_with fail
  refine (C2.out _).mono ?_
  clear C2
  rintro e w1 ⟨rfl, rfl⟩
  rcases g2 with _ | _
  · go_wp2
    go_ret
    exact ⟨by rw [HR.out]; simp, ((Ext.refl w).alloc _).drewN _⟩
  rcases g3 : (src != dst) with _ | _
  · go_wp2
    go_ret
    exact ⟨by rw [HR.out]; simp [g3], ((Ext.refl w).alloc _).drewN _⟩
  go_wp2_with fail
  refine (C4.out _).mono ?_
  clear C4
  rintro e w1 ⟨rfl, rfl⟩
  rcases g4 with _ | _
  · go_wp2
    go_ret
    exact ⟨by rw [HR.out]; simp, ((Ext.refl w).alloc _).drewN _⟩
  go_wp2_with fail
  refine (C5.out _).mono ?_
  clear C5
  rintro e w1 ⟨rfl, rfl⟩
  rcases g5 with _ | _
  · go_wp2
    go_ret
    exact ⟨by rw [HR.out]; simp, ((Ext.refl w).alloc _).drewN _⟩
  go_wp2_with fail
  refine (C6.out _).mono ?_
  clear C6
  rintro e w1 ⟨rfl, rfl⟩
  rcases g6 with _ | _
  · go_wp2
    go_ret
    exact ⟨by rw [HR.out]; simp, ((Ext.refl w).alloc _).drewN _⟩
  go_wp2_with fail
  refine (C7.out _).mono ?_
  clear C7
  rintro e w1 ⟨rfl, rfl⟩
  rcases g7 with _ | _
  · go_wp2
    go_ret
    exact ⟨by rw [HR.out]; simp, ((Ext.refl w).alloc _).drewN _⟩
  go_wp2_with fail
  refine (C8.out _).mono ?_
  clear C8
  rintro e w1 ⟨rfl, rfl⟩
  rcases g8 with _ | _
  · go_wp2
    go_ret
    exact ⟨by rw [HR.out]; simp, ((Ext.refl w).alloc _).drewN _⟩
  go_wp2_with fail
  refine (C9.out _).mono ?_
  clear C9
  rintro e w1 ⟨rfl, rfl⟩
  rcases g9 with _ | _
  · go_wp2
    go_ret
    exact ⟨by rw [HR.out]; simp, ((Ext.refl w).alloc _).drewN _⟩
  have h9 := inB_t.1 H9.out
  clear H9
  obtain rfl : n = 0 := by omega
  obtain rfl : l = [] := List.eq_nil_of_length_eq_zero hlen
  clear hes hlen h9
  go_wp2_with fail
  go_loopw [114] (fun i wr => i = .int .i64 0 ∧ Ext w wr) (fun i _ => 0)
  case atStart => exact ⟨rfl, ((Ext.refl w).alloc _).drewN _⟩
  case round =>
    obtain ⟨rfl, hx⟩ := hrel
    go_wp2
    go_ret
    exact ⟨by rw [HR.out, entsB_nil]; simp [g3], hx⟩

set_option maxRecDepth 100000 in
set_option maxHeartbeats 1600000 in
theorem letter_May4t (src dst term la lb lc bin : Int) (A : Option Addr) (n cp : Nat) (l : List EV) (w : World) (hes : Es w A n l) (hn : n ≤ 20000) :
    Calls Try.prog 63 #[(⟨4, src, dst, term, la, lb, lc, bin, true, A, n, cp, l⟩ : LV).val] w fun e w' => e = .returned (.int .i64 (mayR ⟨4, src, dst, term, la, lb, lc, bin, true, A, n, cp, l⟩)) ∧ Ext w w' := by
  unfold LV.val
  dsimp only
  have hlen := hes.len
  obtain ⟨g1, hg1⟩ : ∃ b, inB src 0 4 = b := ⟨_, rfl⟩
  obtain ⟨g2, hg2⟩ : ∃ b, inB dst 0 4 = b := ⟨_, rfl⟩
  obtain ⟨g4, hg4⟩ : ∃ b, inB term 1 1048576 = b := ⟨_, rfl⟩
  obtain ⟨g5, hg5⟩ : ∃ b, inB bin 1 3 = b := ⟨_, rfl⟩
  obtain ⟨g6, hg6⟩ : ∃ b, inB la 0 64 = b := ⟨_, rfl⟩
  obtain ⟨g7, hg7⟩ : ∃ b, inB lb 0 0 = b := ⟨_, rfl⟩
  obtain ⟨g8, hg8⟩ : ∃ b, inB lc 0 0 = b := ⟨_, rfl⟩
  obtain ⟨g9, hg9⟩ : ∃ b, inB n 0 0 = b := ⟨_, rfl⟩
  have hR : mayR ⟨4, src, dst, term, la, lb, lc, bin, true, A, n, cp, l⟩ = if (g1 && g2 && (src != dst) && g4 && g5 && g6 && g7 && g8 && true && g9 && entsB l) = true then 0 else 1 := by
    simp [mayR, mayB, hg1, hg2, hg4, hg5, hg6, hg7, hg8, hg9]
  have HR := Lib.hid hR; clear hR
  have H9 := Lib.hid hg9
  have C1 := Lib.hid (fun w => letter_in' hg1 w)
  have C2 := Lib.hid (fun w => letter_in' hg2 w)
  have C4 := Lib.hid (fun w => letter_in' hg4 w)
  have C5 := Lib.hid (fun w => letter_in' hg5 w)
  have C6 := Lib.hid (fun w => letter_upto_t (hi := 64) hg6 w)
  have C7 := Lib.hid (fun w => letter_upto_f (hi := 1048576) hg7 w)
  have C8 := Lib.hid (fun w => letter_upto_f (hi := 64) hg8 w)
  have C9 := Lib.hid (fun w => letter_upto_f (hi := 4) hg9 w)
  clear hg1 hg2 hg4 hg5 hg6 hg7 hg8 hg9
  go_enter Try.func63, Try.ntmps63
  simp only [List.append_eq, List.cons_append, List.nil_append]
  go_wp2
  go_quiet (fail)
  go_wp2_with fail
  refine (C1.out _).mono ?_
  clear C1
  rintro e w1 ⟨rfl, rfl⟩
  rcases g1 with _ | _
  · go_wp2
    go_ret
    exact ⟨by rw [HR.out]; simp, ((Ext.refl w).alloc _).drewN _⟩
  go_wp2_with fail
  refine (C2.out _).mono ?_
  clear C2
  rintro e w1 ⟨rfl, rfl⟩
  rcases g2 with _ | _
  · go_wp2
    go_ret
    exact ⟨by rw [HR.out]; simp, ((Ext.refl w).alloc _).drewN _⟩
  rcases g3 : (src != dst) with _ | _
  · go_wp2
    go_ret
    exact ⟨by rw [HR.out]; simp [g3], ((Ext.refl w).alloc _).drewN _⟩
  go_wp2_with fail
  refine (C4.out _).mono ?_
  clear C4
  rintro e w1 ⟨rfl, rfl⟩
  rcases g4 with _ | _
  · go_wp2
    go_ret
    exact ⟨by rw [HR.out]; simp, ((Ext.refl w).alloc _).drewN _⟩
  go_wp2_with fail
  refine (C5.out _).mono ?_
  clear C5
  rintro e w1 ⟨rfl, rfl⟩
  rcases g5 with _ | _
  · go_wp2
    go_ret
    exact ⟨by rw [HR.out]; simp, ((Ext.refl w).alloc _).drewN _⟩
  go_wp2_with fail
  refine (C6.out _).mono ?_
  clear C6
  rintro e w1 ⟨rfl, rfl⟩
  rcases g6 with _ | _
  · go_wp2
    go_ret
    exact ⟨by rw [HR.out]; simp, ((Ext.refl w).alloc _).drewN _⟩
  go_wp2_with fail
  refine (C7.out _).mono ?_
  clear C7
  rintro e w1 ⟨rfl, rfl⟩
  rcases g7 with _ | _
  · go_wp2
    go_ret
    exact ⟨by rw [HR.out]; simp, ((Ext.refl w).alloc _).drewN _⟩
  go_wp2_with fail
  refine (C8.out _).mono ?_
  clear C8
  rintro e w1 ⟨rfl, rfl⟩
  rcases g8 with _ | _
  · go_wp2
    go_ret
    exact ⟨by rw [HR.out]; simp, ((Ext.refl w).alloc _).drewN _⟩
  go_wp2_with fail
  refine (C9.out _).mono ?_
  clear C9
  rintro e w1 ⟨rfl, rfl⟩
  rcases g9 with _ | _
  · go_wp2
    go_ret
    exact ⟨by rw [HR.out]; simp, ((Ext.refl w).alloc _).drewN _⟩
  have h9 := inB_t.1 H9.out
  clear H9
  obtain rfl : n = 0 := by omega
  obtain rfl : l = [] := List.eq_nil_of_length_eq_zero hlen
  clear hes hlen h9
  go_wp2_with fail
  go_loopw [114] (fun i wr => i = .int .i64 0 ∧ Ext w wr) (fun i _ => 0)
  case atStart => exact ⟨rfl, ((Ext.refl w).alloc _).drewN _⟩
  case round =>
    obtain ⟨rfl, hx⟩ := hrel
    go_wp2
    go_ret
    exact ⟨by rw [HR.out, entsB_nil]; simp [g3], hx⟩

set_option maxRecDepth 100000 in
set_option maxHeartbeats 1600000 in
theorem letter_May4f (src dst term la lb lc bin : Int) (A : Option Addr) (n cp : Nat) (l : List EV) (w : World) (hes : Es w A n l) (hn : n ≤ 20000) :
    Calls Try.prog 63 #[(⟨4, src, dst, term, la, lb, lc, bin, false, A, n, cp, l⟩ : LV).val] w fun e w' => e = .returned (.int .i64 (mayR ⟨4, src, dst, term, la, lb, lc, bin, false, A, n, cp, l⟩)) ∧ Ext w w' := by
  unfold LV.val
  dsimp only
  have hlen := hes.len
  obtain ⟨g1, hg1⟩ : ∃ b, inB src 0 4 = b := ⟨_, rfl⟩
  obtain ⟨g2, hg2⟩ : ∃ b, inB dst 0 4 = b := ⟨_, rfl⟩
  obtain ⟨g4, hg4⟩ : ∃ b, inB term 1 1048576 = b := ⟨_, rfl⟩
  obtain ⟨g5, hg5⟩ : ∃ b, inB bin 1 3 = b := ⟨_, rfl⟩
  obtain ⟨g6, hg6⟩ : ∃ b, inB la 0 64 = b := ⟨_, rfl⟩
  obtain ⟨g7, hg7⟩ : ∃ b, inB lb 0 0 = b := ⟨_, rfl⟩
  obtain ⟨g8, hg8⟩ : ∃ b, inB lc 0 0 = b := ⟨_, rfl⟩
  obtain ⟨g9, hg9⟩ : ∃ b, inB n 0 0 = b := ⟨_, rfl⟩
  have hR : mayR ⟨4, src, dst, term, la, lb, lc, bin, false, A, n, cp, l⟩ = if (g1 && g2 && (src != dst) && g4 && g5 && g6 && g7 && g8 && true && g9 && entsB l) = true then 0 else 1 := by
    simp [mayR, mayB, hg1, hg2, hg4, hg5, hg6, hg7, hg8, hg9]
  have HR := Lib.hid hR; clear hR
  have H9 := Lib.hid hg9
  have C1 := Lib.hid (fun w => letter_in' hg1 w)
  have C2 := Lib.hid (fun w => letter_in' hg2 w)
  have C4 := Lib.hid (fun w => letter_in' hg4 w)
  have C5 := Lib.hid (fun w => letter_in' hg5 w)
  have C6 := Lib.hid (fun w => letter_upto_t (hi := 64) hg6 w)
  have C7 := Lib.hid (fun w => letter_upto_f (hi := 1048576) hg7 w)
  have C8 := Lib.hid (fun w => letter_upto_f (hi := 64) hg8 w)
  have C9 := Lib.hid (fun w => letter_upto_f (hi := 4) hg9 w)
  clear hg1 hg2 hg4 hg5 hg6 hg7 hg8 hg9
  go_enter Try.func63, Try.ntmps63
  simp only [List.append_eq, List.cons_append, List.nil_append]
  go_wp2
  go_quiet (fail)
  go_wp2_with fail
  refine (C1.out _).mono ?_
  clear C1
  rintro e w1 ⟨rfl, rfl⟩
  rcases g1 with _ | _
  · go_wp2
    go_ret
    exact ⟨by rw [HR.out]; simp, ((Ext.refl w).alloc _).drewN _⟩
  go_wp2_with fail
  refine (C2.out _).mono ?_
  clear C2
  rintro e w1 ⟨rfl, rfl⟩
  rcases g2 with _ | _
  · go_wp2
    go_ret
    exact ⟨by rw [HR.out]; simp, ((Ext.refl w).alloc _).drewN _⟩
  rcases g3 : (src != dst) with _ | _
  · go_wp2
    go_ret
    exact ⟨by rw [HR.out]; simp [g3], ((Ext.refl w).alloc _).drewN _⟩
  go_wp2_with fail
  refine (C4.out _).mono ?_
  clear C4
  rintro e w1 ⟨rfl, rfl⟩
  rcases g4 with _ | _
  · go_wp2
    go_ret
    exact ⟨by rw [HR.out]; simp, ((Ext.refl w).alloc _).drewN _⟩
  go_wp2_with fail
  refine (C5.out _).mono ?_
  clear C5
  rintro e w1 ⟨rfl, rfl⟩
  rcases g5 with _ | _
  · go_wp2
    go_ret
    exact ⟨by rw [HR.out]; simp, ((Ext.refl w).alloc _).drewN _⟩
  go_wp2_with fail
  refine (C6.out _).mono ?_
  clear C6
  rintro e w1 ⟨rfl, rfl⟩
  rcases g6 with _ | _
  · go_wp2
    go_ret
    exact ⟨by rw [HR.out]; simp, ((Ext.refl w).alloc _).drewN _⟩
  go_wp2_with fail
  refine (C7.out _).mono ?_
  clear C7
  rintro e w1 ⟨rfl, rfl⟩
  rcases g7 with _ | _
  · go_wp2
    go_ret
    exact ⟨by rw [HR.out]; simp, ((Ext.refl w).alloc _).drewN _⟩
  go_wp2_with fail
  refine (C8.out _).mono ?_
  clear C8
  rintro e w1 ⟨rfl, rfl⟩
  rcases g8 with _ | _
  · go_wp2
    go_ret
    exact ⟨by rw [HR.out]; simp, ((Ext.refl w).alloc _).drewN _⟩
  go_wp2_with fail
  refine (C9.out _).mono ?_
  clear C9
  rintro e w1 ⟨rfl, rfl⟩
  rcases g9 with _ | _
  · go_wp2
    go_ret
    exact ⟨by rw [HR.out]; simp, ((Ext.refl w).alloc _).drewN _⟩
  have h9 := inB_t.1 H9.out
  clear H9
  obtain rfl : n = 0 := by omega
  obtain rfl : l = [] := List.eq_nil_of_length_eq_zero hlen
  clear hes hlen h9
  go_wp2_with fail
  go_loopw [114] (fun i wr => i = .int .i64 0 ∧ Ext w wr) (fun i _ => 0)
  case atStart => exact ⟨rfl, ((Ext.refl w).alloc _).drewN _⟩
  case round =>
    obtain ⟨rfl, hx⟩ := hrel
    go_wp2
    go_ret
    exact ⟨by rw [HR.out, entsB_nil]; simp [g3], hx⟩

set_option maxRecDepth 100000 in
set_option maxHeartbeats 800000 in
theorem letter_May0 (kind src dst term la lb lc bin : Int) (ok : Bool) (A : Option Addr) (n cp : Nat) (l : List EV) (w : World) (h1 : kind ≠ 1) (h2 : kind ≠ 2) (h3 : kind ≠ 3) (h4 : kind ≠ 4) :
    Calls Try.prog 63 #[(⟨kind, src, dst, term, la, lb, lc, bin, ok, A, n, cp, l⟩ : LV).val] w fun e w' => e = .returned (.int .i64 (mayR ⟨kind, src, dst, term, la, lb, lc, bin, ok, A, n, cp, l⟩)) ∧ Ext w w' := by
  have HR := Lib.hid (mayR_f (x := ⟨kind, src, dst, term, la, lb, lc, bin, ok, A, n, cp, l⟩) (by simp [mayB, h1, h2, h3, h4]))
  unfold LV.val
  dsimp only
  have g1 := beq_f h1
  have g2 := beq_f h2
  have g3 := beq_f h3
  have g4 := beq_f h4
  have d1 := dec_f h1
  have d2 := dec_f h2
  have d3 := dec_f h3
  have d4 := dec_f h4
  clear h1 h2 h3 h4
  go_enter Try.func63, Try.ntmps63
  simp only [List.append_eq, List.cons_append, List.nil_append]
  go_wp2
  go_quiet (fail)
  go_wp2
  go_ret
  exact ⟨by rw [HR.out]; rfl, ((Ext.refl w).alloc _).drewN _⟩

theorem letter_May (x : LV) (w : World) (hx : x.Ok w) (hn : x.n ≤ 20000) :
    Calls Try.prog 63 #[x.val] w fun e w' => e = .returned (.int .i64 (mayR x)) ∧ Ext w w' := by
  have hes := hx.es
  obtain ⟨kind, src, dst, term, la, lb, lc, bin, ok, A, n, cp, l⟩ := x
  by_cases h1 : kind = 1
  · subst h1; exact letter_May1 src dst term la lb lc bin ok A n cp l w hes hn
  by_cases h2 : kind = 2
  · subst h2
    cases ok
    · exact letter_May2f src dst term la lb lc bin A n cp l w hes hn
    · exact letter_May2t src dst term la lb lc bin A n cp l w hes hn
  by_cases h3 : kind = 3
  · subst h3; exact letter_May3 src dst term la lb lc bin ok A n cp l w hes hn
  by_cases h4 : kind = 4
  · subst h4
    cases ok
    · exact letter_May4f src dst term la lb lc bin A n cp l w hes hn
    · exact letter_May4t src dst term la lb lc bin A n cp l w hes hn
  exact letter_May0 kind src dst term la lb lc bin ok A n cp l w h1 h2 h3 h4
end Go.Proofs.Ytcdnjhcddbkciaa
