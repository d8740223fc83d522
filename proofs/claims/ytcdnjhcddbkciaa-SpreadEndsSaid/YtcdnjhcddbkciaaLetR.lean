/- The walk of coracleref16.May. -/
import Derived.Test.YtcdnjhcddbkciaaLetA
namespace Go.Proofs.Ytcdnjhcddbkciaa
open Go.RowKit

set_option maxRecDepth 100000 in
set_option maxHeartbeats 3200000 in
theorem ref16_May3 (src dst term la lb lc bin : Int) (ok : Bool) (A : Option Addr) (n cp : Nat) (l : List EV) (w : World) (hes : Es w A n l) (hn : n ≤ 20000) :
    Calls Try.prog 55 #[(⟨3, src, dst, term, la, lb, lc, bin, ok, A, n, cp, l⟩ : LV).val] w fun e w' => e = .returned (.int .i64 (mayR ⟨3, src, dst, term, la, lb, lc, bin, ok, A, n, cp, l⟩)) ∧ Ext w w' := by
  unfold LV.val
  dsimp only
  have hlen := hes.len
  have hes' := hes.ext ((Ext.refl w).alloc (.cells #[.int .i64 3, .int .i64 src, .int .i64 dst, .int .i64 term, .int .i64 la, .int .i64 lb, .int .i64 lc, .int .i64 bin, .bool ok, .slice A n cp] 47))
  clear hes
  obtain ⟨g1, hg1⟩ : ∃ b, inB src 0 4 = b := ⟨_, rfl⟩
  obtain ⟨g2, hg2⟩ : ∃ b, inB dst 0 4 = b := ⟨_, rfl⟩
  obtain ⟨g4, hg4⟩ : ∃ b, inB term 1 1048576 = b := ⟨_, rfl⟩
  obtain ⟨g5, hg5⟩ : ∃ b, inB bin 1 3 = b := ⟨_, rfl⟩
  obtain ⟨g6, hg6⟩ : ∃ b, inB la 0 64 = b := ⟨_, rfl⟩
  obtain ⟨g7, hg7⟩ : ∃ b, inB lb 0 1048576 = b := ⟨_, rfl⟩
  obtain ⟨g8, hg8⟩ : ∃ b, inB lc 0 64 = b := ⟨_, rfl⟩
  obtain ⟨g9, hg9⟩ : ∃ b, inB n 0 4 = b := ⟨_, rfl⟩
  have e9 : g9 = decide (n ≤ 4) := by
    rw [← hg9, Bool.eq_iff_iff, inB_t, decide_eq_true_eq]; omega
  have hR : mayR ⟨3, src, dst, term, la, lb, lc, bin, ok, A, n, cp, l⟩ = if (g1 && g2 && (src != dst) && g4 && g5 && g6 && g7 && g8 && !ok && g9 && entsB l) = true then 0 else 1 := by
    simp [mayR, mayB, hg1, hg2, hg4, hg5, hg6, hg7, hg8, hg9]
  clear hg9
  subst e9
  have HR := Lib.hid hR; clear hR
  have C0 := Lib.hid (fun w => ref16_in' (show inB 3 1 4 = true from rfl) w)
  have C1 := Lib.hid (fun w => ref16_in' hg1 w)
  have C2 := Lib.hid (fun w => ref16_in' hg2 w)
  have C4 := Lib.hid (fun w => ref16_in' hg4 w)
  have C5 := Lib.hid (fun w => ref16_in' hg5 w)
  have C6 := Lib.hid (fun w => ref16_in' hg6 w)
  have C7 := Lib.hid (fun w => ref16_in' hg7 w)
  have C8 := Lib.hid (fun w => ref16_in' hg8 w)
  clear hg1 hg2 hg4 hg5 hg6 hg7 hg8
  go_enter Try.func55, Try.ntmps55
  simp only [List.append_eq, List.cons_append, List.nil_append]
  go_wp2_with fail
  refine (C0.out _).mono ?_
  clear C0
  rintro e w1 ⟨rfl, rfl⟩
  go_wp2_with fail
  refine (C1.out _).mono ?_
  clear C1
  rintro e w1 ⟨rfl, rfl⟩
  rcases g1 with _ | _
  · go_wp2
    go_loop [8, 9] (fun o i => o = .bool false ∧ i = .int .i64 0) (fun _ _ => 0)
    case atStart => exact ⟨rfl, rfl⟩
    case round =>
      obtain ⟨rfl, rfl⟩ := hrel
      by_cases hn0 : 0 < n
      · go_wp2
        go_ret
        exact ⟨by rw [HR.out]; simp, (Ext.refl w).alloc _⟩
      · go_wp2
        go_ret
        exact ⟨by rw [HR.out]; simp, (Ext.refl w).alloc _⟩
  go_wp2_with fail
  refine (C2.out _).mono ?_
  clear C2
  rintro e w1 ⟨rfl, rfl⟩
  rcases g2 with _ | _
  · go_wp2
    go_loop [8, 9] (fun o i => o = .bool false ∧ i = .int .i64 0) (fun _ _ => 0)
    case atStart => exact ⟨rfl, rfl⟩
    case round =>
      obtain ⟨rfl, rfl⟩ := hrel
      by_cases hn0 : 0 < n
      · go_wp2
        go_ret
        exact ⟨by rw [HR.out]; simp, (Ext.refl w).alloc _⟩
      · go_wp2
        go_ret
        exact ⟨by rw [HR.out]; simp, (Ext.refl w).alloc _⟩
  rcases g3 : (src != dst) with _ | _
  · go_wp2
    go_loop [8, 9] (fun o i => o = .bool false ∧ i = .int .i64 0) (fun _ _ => 0)
    case atStart => exact ⟨rfl, rfl⟩
    case round =>
      obtain ⟨rfl, rfl⟩ := hrel
      by_cases hn0 : 0 < n
      · go_wp2
        go_ret
        exact ⟨by rw [HR.out]; simp [g3], (Ext.refl w).alloc _⟩
      · go_wp2
        go_ret
        exact ⟨by rw [HR.out]; simp [g3], (Ext.refl w).alloc _⟩
  go_wp2_with fail
  refine (C4.out _).mono ?_
  clear C4
  rintro e w1 ⟨rfl, rfl⟩
  rcases g4 with _ | _
  · go_wp2
    go_loop [8, 9] (fun o i => o = .bool false ∧ i = .int .i64 0) (fun _ _ => 0)
    case atStart => exact ⟨rfl, rfl⟩
    case round =>
      obtain ⟨rfl, rfl⟩ := hrel
      by_cases hn0 : 0 < n
      · go_wp2
        go_ret
        exact ⟨by rw [HR.out]; simp, (Ext.refl w).alloc _⟩
      · go_wp2
        go_ret
        exact ⟨by rw [HR.out]; simp, (Ext.refl w).alloc _⟩
  go_wp2_with fail
  refine (C5.out _).mono ?_
  clear C5
  rintro e w1 ⟨rfl, rfl⟩
  rcases g5 with _ | _
  · go_wp2
    go_loop [8, 9] (fun o i => o = .bool false ∧ i = .int .i64 0) (fun _ _ => 0)
    case atStart => exact ⟨rfl, rfl⟩
    case round =>
      obtain ⟨rfl, rfl⟩ := hrel
      by_cases hn0 : 0 < n
      · go_wp2
        go_ret
        exact ⟨by rw [HR.out]; simp, (Ext.refl w).alloc _⟩
      · go_wp2
        go_ret
        exact ⟨by rw [HR.out]; simp, (Ext.refl w).alloc _⟩
  go_wp2_with fail
  refine (C6.out _).mono ?_
  clear C6
  rintro e w1 ⟨rfl, rfl⟩
  rcases g6 with _ | _
  · go_wp2
    go_loop [8, 9] (fun o i => o = .bool false ∧ i = .int .i64 0) (fun _ _ => 0)
    case atStart => exact ⟨rfl, rfl⟩
    case round =>
      obtain ⟨rfl, rfl⟩ := hrel
      by_cases hn0 : 0 < n
      · go_wp2
        go_ret
        exact ⟨by rw [HR.out]; simp, (Ext.refl w).alloc _⟩
      · go_wp2
        go_ret
        exact ⟨by rw [HR.out]; simp, (Ext.refl w).alloc _⟩
  go_wp2_with fail
  refine (C7.out _).mono ?_
  clear C7
  rintro e w1 ⟨rfl, rfl⟩
  rcases g7 with _ | _
  · go_wp2
    go_loop [8, 9] (fun o i => o = .bool false ∧ i = .int .i64 0) (fun _ _ => 0)
    case atStart => exact ⟨rfl, rfl⟩
    case round =>
      obtain ⟨rfl, rfl⟩ := hrel
      by_cases hn0 : 0 < n
      · go_wp2
        go_ret
        exact ⟨by rw [HR.out]; simp, (Ext.refl w).alloc _⟩
      · go_wp2
        go_ret
        exact ⟨by rw [HR.out]; simp, (Ext.refl w).alloc _⟩
  go_wp2_with fail
  refine (C8.out _).mono ?_
  clear C8
  rintro e w1 ⟨rfl, rfl⟩
  rcases g8 with _ | _
  · go_wp2
    go_loop [8, 9] (fun o i => o = .bool false ∧ i = .int .i64 0) (fun _ _ => 0)
    case atStart => exact ⟨rfl, rfl⟩
    case round =>
      obtain ⟨rfl, rfl⟩ := hrel
      by_cases hn0 : 0 < n
      · go_wp2
        go_ret
        exact ⟨by rw [HR.out]; simp, (Ext.refl w).alloc _⟩
      · go_wp2
        go_ret
        exact ⟨by rw [HR.out]; simp, (Ext.refl w).alloc _⟩
  by_cases h9 : n ≤ 4
  rotate_left
  · have d9 : decide ((n : Int) ≤ 4) = false := dec_f (by omega)
    have hn0 : 0 < n := by omega
    have e9 : decide (n = 0) = false := dec_f (by omega)
    go_wp2
    clear d9 e9
    go_loop [8, 9] (fun o i => o = .bool false ∧ i = .int .i64 0) (fun _ _ => 0)
    case atStart => exact ⟨rfl, rfl⟩
    case round =>
      obtain ⟨rfl, rfl⟩ := hrel
      go_wp2
      go_ret
      exact ⟨by rw [HR.out]; simp [h9], (Ext.refl w).alloc _⟩
  have d9 : decide ((n : Int) ≤ 4) = true := dec_t (by omega)
  rcases ok with _ | _
  rotate_left
  · go_wp2
    go_loop [8, 9] (fun o i => o = .bool false ∧ i = .int .i64 0) (fun _ _ => 0)
    case atStart => exact ⟨rfl, rfl⟩
    case round =>
      obtain ⟨rfl, rfl⟩ := hrel
      by_cases hn0 : 0 < n
      · go_wp2
        go_ret
        exact ⟨by rw [HR.out]; simp, (Ext.refl w).alloc _⟩
      · go_wp2
        go_ret
        exact ⟨by rw [HR.out]; simp, (Ext.refl w).alloc _⟩
  go_wp2
  clear d9
  go_loop [8, 9] (fun o i => ∃ (j : Nat) (g : Bool), i = .int .i64 j ∧ o = .bool g ∧ j ≤ n ∧ entsB l = (g && entsB (l.drop j))) (fun _ i => n - (intOf i).toNat)
  case atStart => exact ⟨0, true, rfl, rfl, by omega, rfl⟩
  case round =>
    obtain ⟨j, g, rfl, rfl, hj, he⟩ := hrel
    have He := Lib.hid he; clear he
    by_cases hjn : j < n
    · rcases g with _ | _
      · have He2 : Hid (entsB l = false) := Lib.hid (by rw [He.out]; rfl)
        go_wp2
        go_ret
        exact ⟨by rw [HR.out, He2.out]; simp, (Ext.refl w).alloc _⟩
      · have hd : l.drop j = l[j] :: l.drop (j + 1) := List.drop_eq_getElem_cons (by omega)
        obtain ⟨b, off, rfl, c0, c1⟩ := hes'.at_ hjn
        generalize l[j] = y at *
        have Hd := Lib.hid hd; clear hd
        obtain ⟨yt, yA, yl, yc, yb⟩ := y
        dsimp only at c0 c1
        rcases g : inB yt 1 1048576 with _ | _
        · have C := Lib.hid (fun w => ref16_in' g w)
          have He2 : Hid (entsB l = false) := Lib.hid (by rw [He.out, Hd.out, entsB_cons, g]; rfl)
          clear g
          go_wp2_with fail
          refine (C.out _).mono ?_
          rintro e w1 ⟨rfl, rfl⟩
          go_wp2
          go_round
          case rel => exact ⟨j + 1, false, val_int (by omega), rfl, by omega, He2.out⟩
          case measure => simp [intOf]; omega
        · have C := Lib.hid (fun w => ref16_in' g w)
          have He2 : Hid (entsB l = (decide ((yl : Int) ≤ 200) && entsB (l.drop (j + 1)))) := Lib.hid (by rw [He.out, Hd.out, entsB_cons, g, show decide ((yl : Int) ≤ 200) = decide (yl ≤ 200) by simp; omega]; rfl)
          clear g
          go_wp2_with fail
          refine (C.out _).mono ?_
          rintro e w1 ⟨rfl, rfl⟩
          go_wp2
          go_round
          case rel => exact ⟨j + 1, _, val_int (by omega), rfl, by omega, He2.out⟩
          case measure => simp [intOf]; omega
    · obtain rfl : j = n := by omega
      have He2 : Hid (entsB l = g) := Lib.hid (by rw [He.out, List.drop_of_length_le (by omega), entsB_nil, Bool.and_true])
      rcases g with _ | _
      · go_wp2
        go_ret
        exact ⟨by rw [HR.out, He2.out]; simp, (Ext.refl w).alloc _⟩
      · go_wp2
        go_ret
        exact ⟨by rw [HR.out, He2.out]; simp [g3, h9], (Ext.refl w).alloc _⟩

set_option maxRecDepth 100000 in
set_option maxHeartbeats 3200000 in
theorem ref16_May1 (src dst term la lb lc bin : Int) (ok : Bool) (A : Option Addr) (n cp : Nat) (l : List EV) (w : World) (hes : Es w A n l) (hn : n ≤ 20000) :
    Calls Try.prog 55 #[(⟨1, src, dst, term, la, lb, lc, bin, ok, A, n, cp, l⟩ : LV).val] w fun e w' => e = .returned (.int .i64 (mayR ⟨1, src, dst, term, la, lb, lc, bin, ok, A, n, cp, l⟩)) ∧ Ext w w' := by
  unfold LV.val
  dsimp only
  have hlen := hes.len
  have hes' := hes.ext ((Ext.refl w).alloc (.cells #[.int .i64 1, .int .i64 src, .int .i64 dst, .int .i64 term, .int .i64 la, .int .i64 lb, .int .i64 lc, .int .i64 bin, .bool ok, .slice A n cp] 47))
  clear hes
  obtain ⟨g1, hg1⟩ : ∃ b, inB src 0 4 = b := ⟨_, rfl⟩
  obtain ⟨g2, hg2⟩ : ∃ b, inB dst 0 4 = b := ⟨_, rfl⟩
  obtain ⟨g4, hg4⟩ : ∃ b, inB term 1 1048576 = b := ⟨_, rfl⟩
  obtain ⟨g5, hg5⟩ : ∃ b, inB bin 1 3 = b := ⟨_, rfl⟩
  obtain ⟨g6, hg6⟩ : ∃ b, inB la 0 64 = b := ⟨_, rfl⟩
  obtain ⟨g7, hg7⟩ : ∃ b, inB lb 0 1048576 = b := ⟨_, rfl⟩
  obtain ⟨g8, hg8⟩ : ∃ b, inB lc 0 0 = b := ⟨_, rfl⟩
  obtain ⟨g9, hg9⟩ : ∃ b, inB n 0 0 = b := ⟨_, rfl⟩
  have e9 : g9 = decide (n ≤ 0) := by
    rw [← hg9, Bool.eq_iff_iff, inB_t, decide_eq_true_eq]; omega
  have hR : mayR ⟨1, src, dst, term, la, lb, lc, bin, ok, A, n, cp, l⟩ = if (g1 && g2 && (src != dst) && g4 && g5 && g6 && g7 && g8 && !ok && g9 && entsB l) = true then 0 else 1 := by
    simp [mayR, mayB, hg1, hg2, hg4, hg5, hg6, hg7, hg8, hg9]
  clear hg9
  subst e9
  have HR := Lib.hid hR; clear hR
  have C0 := Lib.hid (fun w => ref16_in' (show inB 1 1 4 = true from rfl) w)
  have C1 := Lib.hid (fun w => ref16_in' hg1 w)
  have C2 := Lib.hid (fun w => ref16_in' hg2 w)
  have C4 := Lib.hid (fun w => ref16_in' hg4 w)
  have C5 := Lib.hid (fun w => ref16_in' hg5 w)
  have C6 := Lib.hid (fun w => ref16_in' hg6 w)
  have C7 := Lib.hid (fun w => ref16_in' hg7 w)
  have C8 := Lib.hid (fun w => ref16_in' hg8 w)
  clear hg1 hg2 hg4 hg5 hg6 hg7 hg8
  go_enter Try.func55, Try.ntmps55
  simp only [List.append_eq, List.cons_append, List.nil_append]
  go_wp2_with fail
  refine (C0.out _).mono ?_
  clear C0
  rintro e w1 ⟨rfl, rfl⟩
  go_wp2_with fail
  refine (C1.out _).mono ?_
  clear C1
  rintro e w1 ⟨rfl, rfl⟩
  rcases g1 with _ | _
  · go_wp2
    go_loop [8, 9] (fun o i => o = .bool false ∧ i = .int .i64 0) (fun _ _ => 0)
    case atStart => exact ⟨rfl, rfl⟩
    case round =>
      obtain ⟨rfl, rfl⟩ := hrel
      by_cases hn0 : 0 < n
      · go_wp2
        go_ret
        exact ⟨by rw [HR.out]; simp, (Ext.refl w).alloc _⟩
      · go_wp2
        go_ret
        exact ⟨by rw [HR.out]; simp, (Ext.refl w).alloc _⟩
  go_wp2_with fail
  refine (C2.out _).mono ?_
  clear C2
  rintro e w1 ⟨rfl, rfl⟩
  rcases g2 with _ | _
  · go_wp2
    go_loop [8, 9] (fun o i => o = .bool false ∧ i = .int .i64 0) (fun _ _ => 0)
    case atStart => exact ⟨rfl, rfl⟩
    case round =>
      obtain ⟨rfl, rfl⟩ := hrel
      by_cases hn0 : 0 < n
      · go_wp2
        go_ret
        exact ⟨by rw [HR.out]; simp, (Ext.refl w).alloc _⟩
      · go_wp2
        go_ret
        exact ⟨by rw [HR.out]; simp, (Ext.refl w).alloc _⟩
  rcases g3 : (src != dst) with _ | _
  · go_wp2
    go_loop [8, 9] (fun o i => o = .bool false ∧ i = .int .i64 0) (fun _ _ => 0)
    case atStart => exact ⟨rfl, rfl⟩
    case round =>
      obtain ⟨rfl, rfl⟩ := hrel
      by_cases hn0 : 0 < n
      · go_wp2
        go_ret
        exact ⟨by rw [HR.out]; simp [g3], (Ext.refl w).alloc _⟩
      · go_wp2
        go_ret
        exact ⟨by rw [HR.out]; simp [g3], (Ext.refl w).alloc _⟩
  go_wp2_with fail
  refine (C4.out _).mono ?_
  clear C4
  rintro e w1 ⟨rfl, rfl⟩
  rcases g4 with _ | _
  · go_wp2
    go_loop [8, 9] (fun o i => o = .bool false ∧ i = .int .i64 0) (fun _ _ => 0)
    case atStart => exact ⟨rfl, rfl⟩
    case round =>
      obtain ⟨rfl, rfl⟩ := hrel
      by_cases hn0 : 0 < n
      · go_wp2
        go_ret
        exact ⟨by rw [HR.out]; simp, (Ext.refl w).alloc _⟩
      · go_wp2
        go_ret
        exact ⟨by rw [HR.out]; simp, (Ext.refl w).alloc _⟩
  go_wp2_with fail
  refine (C5.out _).mono ?_
  clear C5
  rintro e w1 ⟨rfl, rfl⟩
  rcases g5 with _ | _
  · go_wp2
    go_loop [8, 9] (fun o i => o = .bool false ∧ i = .int .i64 0) (fun _ _ => 0)
    case atStart => exact ⟨rfl, rfl⟩
    case round =>
      obtain ⟨rfl, rfl⟩ := hrel
      by_cases hn0 : 0 < n
      · go_wp2
        go_ret
        exact ⟨by rw [HR.out]; simp, (Ext.refl w).alloc _⟩
      · go_wp2
        go_ret
        exact ⟨by rw [HR.out]; simp, (Ext.refl w).alloc _⟩
  go_wp2_with fail
  refine (C6.out _).mono ?_
  clear C6
  rintro e w1 ⟨rfl, rfl⟩
  rcases g6 with _ | _
  · go_wp2
    go_loop [8, 9] (fun o i => o = .bool false ∧ i = .int .i64 0) (fun _ _ => 0)
    case atStart => exact ⟨rfl, rfl⟩
    case round =>
      obtain ⟨rfl, rfl⟩ := hrel
      by_cases hn0 : 0 < n
      · go_wp2
        go_ret
        exact ⟨by rw [HR.out]; simp, (Ext.refl w).alloc _⟩
      · go_wp2
        go_ret
        exact ⟨by rw [HR.out]; simp, (Ext.refl w).alloc _⟩
  go_wp2_with fail
  refine (C7.out _).mono ?_
  clear C7
  rintro e w1 ⟨rfl, rfl⟩
  rcases g7 with _ | _
  · go_wp2
    go_loop [8, 9] (fun o i => o = .bool false ∧ i = .int .i64 0) (fun _ _ => 0)
    case atStart => exact ⟨rfl, rfl⟩
    case round =>
      obtain ⟨rfl, rfl⟩ := hrel
      by_cases hn0 : 0 < n
      · go_wp2
        go_ret
        exact ⟨by rw [HR.out]; simp, (Ext.refl w).alloc _⟩
      · go_wp2
        go_ret
        exact ⟨by rw [HR.out]; simp, (Ext.refl w).alloc _⟩
  go_wp2_with fail
  refine (C8.out _).mono ?_
  clear C8
  rintro e w1 ⟨rfl, rfl⟩
  rcases g8 with _ | _
  · go_wp2
    go_loop [8, 9] (fun o i => o = .bool false ∧ i = .int .i64 0) (fun _ _ => 0)
    case atStart => exact ⟨rfl, rfl⟩
    case round =>
      obtain ⟨rfl, rfl⟩ := hrel
      by_cases hn0 : 0 < n
      · go_wp2
        go_ret
        exact ⟨by rw [HR.out]; simp, (Ext.refl w).alloc _⟩
      · go_wp2
        go_ret
        exact ⟨by rw [HR.out]; simp, (Ext.refl w).alloc _⟩
  by_cases h9 : n ≤ 0
  rotate_left
  · have d9 : decide ((n : Int) ≤ 0) = false := dec_f (by omega)
    have hn0 : 0 < n := by omega
    have e9 : decide (n = 0) = false := dec_f (by omega)
    go_wp2
    clear d9 e9
    go_loop [8, 9] (fun o i => o = .bool false ∧ i = .int .i64 0) (fun _ _ => 0)
    case atStart => exact ⟨rfl, rfl⟩
    case round =>
      obtain ⟨rfl, rfl⟩ := hrel
      go_wp2
      go_ret
      exact ⟨by rw [HR.out]; simp [h9], (Ext.refl w).alloc _⟩
  obtain rfl : n = 0 := by omega
  obtain rfl : l = [] := List.eq_nil_of_length_eq_zero hlen
  clear hes' hlen
  rcases ok with _ | _
  rotate_left
  · go_wp2
    go_loop [8, 9] (fun o i => o = .bool false ∧ i = .int .i64 0) (fun _ _ => 0)
    case atStart => exact ⟨rfl, rfl⟩
    case round =>
      obtain ⟨rfl, rfl⟩ := hrel
      go_wp2
      go_ret
      exact ⟨by rw [HR.out]; simp, (Ext.refl w).alloc _⟩
  go_wp2
  go_loop [8, 9] (fun o i => o = .bool true ∧ i = .int .i64 0) (fun _ _ => 0)
  case atStart => exact ⟨rfl, rfl⟩
  case round =>
    obtain ⟨rfl, rfl⟩ := hrel
    go_wp2
    go_ret
    exact ⟨by rw [HR.out, entsB_nil]; simp [g3], (Ext.refl w).alloc _⟩

set_option maxRecDepth 100000 in
set_option maxHeartbeats 3200000 in
theorem ref16_May2t (src dst term la lb lc bin : Int) (A : Option Addr) (n cp : Nat) (l : List EV) (w : World) (hes : Es w A n l) (hn : n ≤ 20000) :
    Calls Try.prog 55 #[(⟨2, src, dst, term, la, lb, lc, bin, true, A, n, cp, l⟩ : LV).val] w fun e w' => e = .returned (.int .i64 (mayR ⟨2, src, dst, term, la, lb, lc, bin, true, A, n, cp, l⟩)) ∧ Ext w w' := by
  unfold LV.val
  dsimp only
  have hlen := hes.len
  have hes' := hes.ext ((Ext.refl w).alloc (.cells #[.int .i64 2, .int .i64 src, .int .i64 dst, .int .i64 term, .int .i64 la, .int .i64 lb, .int .i64 lc, .int .i64 bin, .bool true, .slice A n cp] 47))
  clear hes
  obtain ⟨g1, hg1⟩ : ∃ b, inB src 0 4 = b := ⟨_, rfl⟩
  obtain ⟨g2, hg2⟩ : ∃ b, inB dst 0 4 = b := ⟨_, rfl⟩
  obtain ⟨g4, hg4⟩ : ∃ b, inB term 1 1048576 = b := ⟨_, rfl⟩
  obtain ⟨g5, hg5⟩ : ∃ b, inB bin 1 3 = b := ⟨_, rfl⟩
  obtain ⟨g6, hg6⟩ : ∃ b, inB la 0 0 = b := ⟨_, rfl⟩
  obtain ⟨g7, hg7⟩ : ∃ b, inB lb 0 0 = b := ⟨_, rfl⟩
  obtain ⟨g8, hg8⟩ : ∃ b, inB lc 0 0 = b := ⟨_, rfl⟩
  obtain ⟨g9, hg9⟩ : ∃ b, inB n 0 0 = b := ⟨_, rfl⟩
  have e9 : g9 = decide (n ≤ 0) := by
    rw [← hg9, Bool.eq_iff_iff, inB_t, decide_eq_true_eq]; omega
  have hR : mayR ⟨2, src, dst, term, la, lb, lc, bin, true, A, n, cp, l⟩ = if (g1 && g2 && (src != dst) && g4 && g5 && g6 && g7 && g8 && true && g9 && entsB l) = true then 0 else 1 := by
    simp [mayR, mayB, hg1, hg2, hg4, hg5, hg6, hg7, hg8, hg9]
  clear hg9
  subst e9
  have HR := Lib.hid hR; clear hR
  have C0 := Lib.hid (fun w => ref16_in' (show inB 2 1 4 = true from rfl) w)
  have C1 := Lib.hid (fun w => ref16_in' hg1 w)
  have C2 := Lib.hid (fun w => ref16_in' hg2 w)
  have C4 := Lib.hid (fun w => ref16_in' hg4 w)
  have C5 := Lib.hid (fun w => ref16_in' hg5 w)
  have C6 := Lib.hid (fun w => ref16_in' hg6 w)
  have C7 := Lib.hid (fun w => ref16_in' hg7 w)
  have C8 := Lib.hid (fun w => ref16_in' hg8 w)
  clear hg1 hg2 hg4 hg5 hg6 hg7 hg8
  go_enter Try.func55, Try.ntmps55
  simp only [List.append_eq, List.cons_append, List.nil_append]
  go_wp2_with fail
  refine (C0.out _).mono ?_
  clear C0
  rintro e w1 ⟨rfl, rfl⟩
  go_wp2_with fail
  refine (C1.out _).mono ?_
  clear C1
  rintro e w1 ⟨rfl, rfl⟩
  rcases g1 with _ | _
  · go_wp2
    go_loop [8, 9] (fun o i => o = .bool false ∧ i = .int .i64 0) (fun _ _ => 0)
    case atStart => exact ⟨rfl, rfl⟩
    case round =>
      obtain ⟨rfl, rfl⟩ := hrel
      by_cases hn0 : 0 < n
      · go_wp2
        go_ret
        exact ⟨by rw [HR.out]; simp, (Ext.refl w).alloc _⟩
      · go_wp2
        go_ret
        exact ⟨by rw [HR.out]; simp, (Ext.refl w).alloc _⟩
  go_wp2_with fail
  refine (C2.out _).mono ?_
  clear C2
  rintro e w1 ⟨rfl, rfl⟩
  rcases g2 with _ | _
  · go_wp2
    go_loop [8, 9] (fun o i => o = .bool false ∧ i = .int .i64 0) (fun _ _ => 0)
    case atStart => exact ⟨rfl, rfl⟩
    case round =>
      obtain ⟨rfl, rfl⟩ := hrel
      by_cases hn0 : 0 < n
      · go_wp2
        go_ret
        exact ⟨by rw [HR.out]; simp, (Ext.refl w).alloc _⟩
      · go_wp2
        go_ret
        exact ⟨by rw [HR.out]; simp, (Ext.refl w).alloc _⟩
  rcases g3 : (src != dst) with _ | _
  · go_wp2
    go_loop [8, 9] (fun o i => o = .bool false ∧ i = .int .i64 0) (fun _ _ => 0)
    case atStart => exact ⟨rfl, rfl⟩
    case round =>
      obtain ⟨rfl, rfl⟩ := hrel
      by_cases hn0 : 0 < n
      · go_wp2
        go_ret
        exact ⟨by rw [HR.out]; simp [g3], (Ext.refl w).alloc _⟩
      · go_wp2
        go_ret
        exact ⟨by rw [HR.out]; simp [g3], (Ext.refl w).alloc _⟩
  go_wp2_with fail
  refine (C4.out _).mono ?_
  clear C4
  rintro e w1 ⟨rfl, rfl⟩
  rcases g4 with _ | _
  · go_wp2
    go_loop [8, 9] (fun o i => o = .bool false ∧ i = .int .i64 0) (fun _ _ => 0)
    case atStart => exact ⟨rfl, rfl⟩
    case round =>
      obtain ⟨rfl, rfl⟩ := hrel
      by_cases hn0 : 0 < n
      · go_wp2
        go_ret
        exact ⟨by rw [HR.out]; simp, (Ext.refl w).alloc _⟩
      · go_wp2
        go_ret
        exact ⟨by rw [HR.out]; simp, (Ext.refl w).alloc _⟩
  go_wp2_with fail
  refine (C5.out _).mono ?_
  clear C5
  rintro e w1 ⟨rfl, rfl⟩
  rcases g5 with _ | _
  · go_wp2
    go_loop [8, 9] (fun o i => o = .bool false ∧ i = .int .i64 0) (fun _ _ => 0)
    case atStart => exact ⟨rfl, rfl⟩
    case round =>
      obtain ⟨rfl, rfl⟩ := hrel
      by_cases hn0 : 0 < n
      · go_wp2
        go_ret
        exact ⟨by rw [HR.out]; simp, (Ext.refl w).alloc _⟩
      · go_wp2
        go_ret
        exact ⟨by rw [HR.out]; simp, (Ext.refl w).alloc _⟩
  go_wp2_with fail
  refine (C6.out _).mono ?_
  clear C6
  rintro e w1 ⟨rfl, rfl⟩
  rcases g6 with _ | _
  · go_wp2
    go_loop [8, 9] (fun o i => o = .bool false ∧ i = .int .i64 0) (fun _ _ => 0)
    case atStart => exact ⟨rfl, rfl⟩
    case round =>
      obtain ⟨rfl, rfl⟩ := hrel
      by_cases hn0 : 0 < n
      · go_wp2
        go_ret
        exact ⟨by rw [HR.out]; simp, (Ext.refl w).alloc _⟩
      · go_wp2
        go_ret
        exact ⟨by rw [HR.out]; simp, (Ext.refl w).alloc _⟩
  go_wp2_with fail
  refine (C7.out _).mono ?_
  clear C7
  rintro e w1 ⟨rfl, rfl⟩
  rcases g7 with _ | _
  · go_wp2
    go_loop [8, 9] (fun o i => o = .bool false ∧ i = .int .i64 0) (fun _ _ => 0)
    case atStart => exact ⟨rfl, rfl⟩
    case round =>
      obtain ⟨rfl, rfl⟩ := hrel
      by_cases hn0 : 0 < n
      · go_wp2
        go_ret
        exact ⟨by rw [HR.out]; simp, (Ext.refl w).alloc _⟩
      · go_wp2
        go_ret
        exact ⟨by rw [HR.out]; simp, (Ext.refl w).alloc _⟩
  go_wp2_with fail
  refine (C8.out _).mono ?_
  clear C8
  rintro e w1 ⟨rfl, rfl⟩
  rcases g8 with _ | _
  · go_wp2
    go_loop [8, 9] (fun o i => o = .bool false ∧ i = .int .i64 0) (fun _ _ => 0)
    case atStart => exact ⟨rfl, rfl⟩
    case round =>
      obtain ⟨rfl, rfl⟩ := hrel
      by_cases hn0 : 0 < n
      · go_wp2
        go_ret
        exact ⟨by rw [HR.out]; simp, (Ext.refl w).alloc _⟩
      · go_wp2
        go_ret
        exact ⟨by rw [HR.out]; simp, (Ext.refl w).alloc _⟩
  by_cases h9 : n ≤ 0
  rotate_left
  · have d9 : decide ((n : Int) ≤ 0) = false := dec_f (by omega)
    have hn0 : 0 < n := by omega
    have e9 : decide (n = 0) = false := dec_f (by omega)
    go_wp2
    clear d9 e9
    go_loop [8, 9] (fun o i => o = .bool false ∧ i = .int .i64 0) (fun _ _ => 0)
    case atStart => exact ⟨rfl, rfl⟩
    case round =>
      obtain ⟨rfl, rfl⟩ := hrel
      go_wp2
      go_ret
      exact ⟨by rw [HR.out]; simp [h9], (Ext.refl w).alloc _⟩
  obtain rfl : n = 0 := by omega
  obtain rfl : l = [] := List.eq_nil_of_length_eq_zero hlen
  clear hes' hlen
  go_wp2
  go_loop [8, 9] (fun o i => o = .bool true ∧ i = .int .i64 0) (fun _ _ => 0)
  case atStart => exact ⟨rfl, rfl⟩
  case round =>
    obtain ⟨rfl, rfl⟩ := hrel
    go_wp2
    go_ret
    exact ⟨by rw [HR.out, entsB_nil]; simp [g3], (Ext.refl w).alloc _⟩

set_option maxRecDepth 100000 in
set_option maxHeartbeats 3200000 in
theorem ref16_May2f (src dst term la lb lc bin : Int) (A : Option Addr) (n cp : Nat) (l : List EV) (w : World) (hes : Es w A n l) (hn : n ≤ 20000) :
    Calls Try.prog 55 #[(⟨2, src, dst, term, la, lb, lc, bin, false, A, n, cp, l⟩ : LV).val] w fun e w' => e = .returned (.int .i64 (mayR ⟨2, src, dst, term, la, lb, lc, bin, false, A, n, cp, l⟩)) ∧ Ext w w' := by
  unfold LV.val
  dsimp only
  have hlen := hes.len
  have hes' := hes.ext ((Ext.refl w).alloc (.cells #[.int .i64 2, .int .i64 src, .int .i64 dst, .int .i64 term, .int .i64 la, .int .i64 lb, .int .i64 lc, .int .i64 bin, .bool false, .slice A n cp] 47))
  clear hes
  obtain ⟨g1, hg1⟩ : ∃ b, inB src 0 4 = b := ⟨_, rfl⟩
  obtain ⟨g2, hg2⟩ : ∃ b, inB dst 0 4 = b := ⟨_, rfl⟩
  obtain ⟨g4, hg4⟩ : ∃ b, inB term 1 1048576 = b := ⟨_, rfl⟩
  obtain ⟨g5, hg5⟩ : ∃ b, inB bin 1 3 = b := ⟨_, rfl⟩
  obtain ⟨g6, hg6⟩ : ∃ b, inB la 0 0 = b := ⟨_, rfl⟩
  obtain ⟨g7, hg7⟩ : ∃ b, inB lb 0 0 = b := ⟨_, rfl⟩
  obtain ⟨g8, hg8⟩ : ∃ b, inB lc 0 0 = b := ⟨_, rfl⟩
  obtain ⟨g9, hg9⟩ : ∃ b, inB n 0 0 = b := ⟨_, rfl⟩
  have e9 : g9 = decide (n ≤ 0) := by
    rw [← hg9, Bool.eq_iff_iff, inB_t, decide_eq_true_eq]; omega
  have hR : mayR ⟨2, src, dst, term, la, lb, lc, bin, false, A, n, cp, l⟩ = if (g1 && g2 && (src != dst) && g4 && g5 && g6 && g7 && g8 && true && g9 && entsB l) = true then 0 else 1 := by
    simp [mayR, mayB, hg1, hg2, hg4, hg5, hg6, hg7, hg8, hg9]
  clear hg9
  subst e9
  have HR := Lib.hid hR; clear hR
  have C0 := Lib.hid (fun w => ref16_in' (show inB 2 1 4 = true from rfl) w)
  have C1 := Lib.hid (fun w => ref16_in' hg1 w)
  have C2 := Lib.hid (fun w => ref16_in' hg2 w)
  have C4 := Lib.hid (fun w => ref16_in' hg4 w)
  have C5 := Lib.hid (fun w => ref16_in' hg5 w)
  have C6 := Lib.hid (fun w => ref16_in' hg6 w)
  have C7 := Lib.hid (fun w => ref16_in' hg7 w)
  have C8 := Lib.hid (fun w => ref16_in' hg8 w)
  clear hg1 hg2 hg4 hg5 hg6 hg7 hg8
  go_enter Try.func55, Try.ntmps55
  simp only [List.append_eq, List.cons_append, List.nil_append]
  go_wp2_with fail
  refine (C0.out _).mono ?_
  clear C0
  rintro e w1 ⟨rfl, rfl⟩
  go_wp2_with fail
  refine (C1.out _).mono ?_
  clear C1
  rintro e w1 ⟨rfl, rfl⟩
  rcases g1 with _ | _
  · go_wp2
    go_loop [8, 9] (fun o i => o = .bool false ∧ i = .int .i64 0) (fun _ _ => 0)
    case atStart => exact ⟨rfl, rfl⟩
    case round =>
      obtain ⟨rfl, rfl⟩ := hrel
      by_cases hn0 : 0 < n
      · go_wp2
        go_ret
        exact ⟨by rw [HR.out]; simp, (Ext.refl w).alloc _⟩
      · go_wp2
        go_ret
        exact ⟨by rw [HR.out]; simp, (Ext.refl w).alloc _⟩
  go_wp2_with fail
  refine (C2.out _).mono ?_
  clear C2
  rintro e w1 ⟨rfl, rfl⟩
  rcases g2 with _ | _
  · go_wp2
    go_loop [8, 9] (fun o i => o = .bool false ∧ i = .int .i64 0) (fun _ _ => 0)
    case atStart => exact ⟨rfl, rfl⟩
    case round =>
      obtain ⟨rfl, rfl⟩ := hrel
      by_cases hn0 : 0 < n
      · go_wp2
        go_ret
        exact ⟨by rw [HR.out]; simp, (Ext.refl w).alloc _⟩
      · go_wp2
        go_ret
        exact ⟨by rw [HR.out]; simp, (Ext.refl w).alloc _⟩
  rcases g3 : (src != dst) with _ | _
  · go_wp2
    go_loop [8, 9] (fun o i => o = .bool false ∧ i = .int .i64 0) (fun _ _ => 0)
    case atStart => exact ⟨rfl, rfl⟩
    case round =>
      obtain ⟨rfl, rfl⟩ := hrel
      by_cases hn0 : 0 < n
      · go_wp2
        go_ret
        exact ⟨by rw [HR.out]; simp [g3], (Ext.refl w).alloc _⟩
      · go_wp2
        go_ret
        exact ⟨by rw [HR.out]; simp [g3], (Ext.refl w).alloc _⟩
  go_wp2_with fail
  refine (C4.out _).mono ?_
  clear C4
  rintro e w1 ⟨rfl, rfl⟩
  rcases g4 with _ | _
  · go_wp2
    go_loop [8, 9] (fun o i => o = .bool false ∧ i = .int .i64 0) (fun _ _ => 0)
    case atStart => exact ⟨rfl, rfl⟩
    case round =>
      obtain ⟨rfl, rfl⟩ := hrel
      by_cases hn0 : 0 < n
      · go_wp2
        go_ret
        exact ⟨by rw [HR.out]; simp, (Ext.refl w).alloc _⟩
      · go_wp2
        go_ret
        exact ⟨by rw [HR.out]; simp, (Ext.refl w).alloc _⟩
  go_wp2_with fail
  refine (C5.out _).mono ?_
  clear C5
  rintro e w1 ⟨rfl, rfl⟩
  rcases g5 with _ | _
  · go_wp2
    go_loop [8, 9] (fun o i => o = .bool false ∧ i = .int .i64 0) (fun _ _ => 0)
    case atStart => exact ⟨rfl, rfl⟩
    case round =>
      obtain ⟨rfl, rfl⟩ := hrel
      by_cases hn0 : 0 < n
      · go_wp2
        go_ret
        exact ⟨by rw [HR.out]; simp, (Ext.refl w).alloc _⟩
      · go_wp2
        go_ret
        exact ⟨by rw [HR.out]; simp, (Ext.refl w).alloc _⟩
  go_wp2_with fail
  refine (C6.out _).mono ?_
  clear C6
  rintro e w1 ⟨rfl, rfl⟩
  rcases g6 with _ | _
  · go_wp2
    go_loop [8, 9] (fun o i => o = .bool false ∧ i = .int .i64 0) (fun _ _ => 0)
    case atStart => exact ⟨rfl, rfl⟩
    case round =>
      obtain ⟨rfl, rfl⟩ := hrel
      by_cases hn0 : 0 < n
      · go_wp2
        go_ret
        exact ⟨by rw [HR.out]; simp, (Ext.refl w).alloc _⟩
      · go_wp2
        go_ret
        exact ⟨by rw [HR.out]; simp, (Ext.refl w).alloc _⟩
  go_wp2_with fail
  refine (C7.out _).mono ?_
  clear C7
  rintro e w1 ⟨rfl, rfl⟩
  rcases g7 with _ | _
  · go_wp2
    go_loop [8, 9] (fun o i => o = .bool false ∧ i = .int .i64 0) (fun _ _ => 0)
    case atStart => exact ⟨rfl, rfl⟩
    case round =>
      obtain ⟨rfl, rfl⟩ := hrel
      by_cases hn0 : 0 < n
      · go_wp2
        go_ret
        exact ⟨by rw [HR.out]; simp, (Ext.refl w).alloc _⟩
      · go_wp2
        go_ret
        exact ⟨by rw [HR.out]; simp, (Ext.refl w).alloc _⟩
  go_wp2_with fail
  refine (C8.out _).mono ?_
  clear C8
  rintro e w1 ⟨rfl, rfl⟩
  rcases g8 with _ | _
  · go_wp2
    go_loop [8, 9] (fun o i => o = .bool false ∧ i = .int .i64 0) (fun _ _ => 0)
    case atStart => exact ⟨rfl, rfl⟩
    case round =>
      obtain ⟨rfl, rfl⟩ := hrel
      by_cases hn0 : 0 < n
      · go_wp2
        go_ret
        exact ⟨by rw [HR.out]; simp, (Ext.refl w).alloc _⟩
      · go_wp2
        go_ret
        exact ⟨by rw [HR.out]; simp, (Ext.refl w).alloc _⟩
  by_cases h9 : n ≤ 0
  rotate_left
  · have d9 : decide ((n : Int) ≤ 0) = false := dec_f (by omega)
    have hn0 : 0 < n := by omega
    have e9 : decide (n = 0) = false := dec_f (by omega)
    go_wp2
    clear d9 e9
    go_loop [8, 9] (fun o i => o = .bool false ∧ i = .int .i64 0) (fun _ _ => 0)
    case atStart => exact ⟨rfl, rfl⟩
    case round =>
      obtain ⟨rfl, rfl⟩ := hrel
      go_wp2
      go_ret
      exact ⟨by rw [HR.out]; simp [h9], (Ext.refl w).alloc _⟩
  obtain rfl : n = 0 := by omega
  obtain rfl : l = [] := List.eq_nil_of_length_eq_zero hlen
  clear hes' hlen
  go_wp2
  go_loop [8, 9] (fun o i => o = .bool true ∧ i = .int .i64 0) (fun _ _ => 0)
  case atStart => exact ⟨rfl, rfl⟩
  case round =>
    obtain ⟨rfl, rfl⟩ := hrel
    go_wp2
    go_ret
    exact ⟨by rw [HR.out, entsB_nil]; simp [g3], (Ext.refl w).alloc _⟩

set_option maxRecDepth 100000 in
set_option maxHeartbeats 3200000 in
theorem ref16_May4t (src dst term la lb lc bin : Int) (A : Option Addr) (n cp : Nat) (l : List EV) (w : World) (hes : Es w A n l) (hn : n ≤ 20000) :
    Calls Try.prog 55 #[(⟨4, src, dst, term, la, lb, lc, bin, true, A, n, cp, l⟩ : LV).val] w fun e w' => e = .returned (.int .i64 (mayR ⟨4, src, dst, term, la, lb, lc, bin, true, A, n, cp, l⟩)) ∧ Ext w w' := by
  unfold LV.val
  dsimp only
  have hlen := hes.len
  have hes' := hes.ext ((Ext.refl w).alloc (.cells #[.int .i64 4, .int .i64 src, .int .i64 dst, .int .i64 term, .int .i64 la, .int .i64 lb, .int .i64 lc, .int .i64 bin, .bool true, .slice A n cp] 47))
  clear hes
  obtain ⟨g1, hg1⟩ : ∃ b, inB src 0 4 = b := ⟨_, rfl⟩
  obtain ⟨g2, hg2⟩ : ∃ b, inB dst 0 4 = b := ⟨_, rfl⟩
  obtain ⟨g4, hg4⟩ : ∃ b, inB term 1 1048576 = b := ⟨_, rfl⟩
  obtain ⟨g5, hg5⟩ : ∃ b, inB bin 1 3 = b := ⟨_, rfl⟩
  obtain ⟨g6, hg6⟩ : ∃ b, inB la 0 64 = b := ⟨_, rfl⟩
  obtain ⟨g7, hg7⟩ : ∃ b, inB lb 0 0 = b := ⟨_, rfl⟩
  obtain ⟨g8, hg8⟩ : ∃ b, inB lc 0 0 = b := ⟨_, rfl⟩
  obtain ⟨g9, hg9⟩ : ∃ b, inB n 0 0 = b := ⟨_, rfl⟩
  have e9 : g9 = decide (n ≤ 0) := by
    rw [← hg9, Bool.eq_iff_iff, inB_t, decide_eq_true_eq]; omega
  have hR : mayR ⟨4, src, dst, term, la, lb, lc, bin, true, A, n, cp, l⟩ = if (g1 && g2 && (src != dst) && g4 && g5 && g6 && g7 && g8 && true && g9 && entsB l) = true then 0 else 1 := by
    simp [mayR, mayB, hg1, hg2, hg4, hg5, hg6, hg7, hg8, hg9]
  clear hg9
  subst e9
  have HR := Lib.hid hR; clear hR
  have C0 := Lib.hid (fun w => ref16_in' (show inB 4 1 4 = true from rfl) w)
  have C1 := Lib.hid (fun w => ref16_in' hg1 w)
  have C2 := Lib.hid (fun w => ref16_in' hg2 w)
  have C4 := Lib.hid (fun w => ref16_in' hg4 w)
  have C5 := Lib.hid (fun w => ref16_in' hg5 w)
  have C6 := Lib.hid (fun w => ref16_in' hg6 w)
  have C7 := Lib.hid (fun w => ref16_in' hg7 w)
  have C8 := Lib.hid (fun w => ref16_in' hg8 w)
  clear hg1 hg2 hg4 hg5 hg6 hg7 hg8
  go_enter Try.func55, Try.ntmps55
  simp only [List.append_eq, List.cons_append, List.nil_append]
  go_wp2_with fail
  refine (C0.out _).mono ?_
  clear C0
  rintro e w1 ⟨rfl, rfl⟩
  go_wp2_with fail
  refine (C1.out _).mono ?_
  clear C1
  rintro e w1 ⟨rfl, rfl⟩
  rcases g1 with _ | _
  · go_wp2
    go_loop [8, 9] (fun o i => o = .bool false ∧ i = .int .i64 0) (fun _ _ => 0)
    case atStart => exact ⟨rfl, rfl⟩
    case round =>
      obtain ⟨rfl, rfl⟩ := hrel
      by_cases hn0 : 0 < n
      · go_wp2
        go_ret
        exact ⟨by rw [HR.out]; simp, (Ext.refl w).alloc _⟩
      · go_wp2
        go_ret
        exact ⟨by rw [HR.out]; simp, (Ext.refl w).alloc _⟩
  go_wp2_with fail
  refine (C2.out _).mono ?_
  clear C2
  rintro e w1 ⟨rfl, rfl⟩
  rcases g2 with _ | _
  · go_wp2
    go_loop [8, 9] (fun o i => o = .bool false ∧ i = .int .i64 0) (fun _ _ => 0)
    case atStart => exact ⟨rfl, rfl⟩
    case round =>
      obtain ⟨rfl, rfl⟩ := hrel
      by_cases hn0 : 0 < n
      · go_wp2
        go_ret
        exact ⟨by rw [HR.out]; simp, (Ext.refl w).alloc _⟩
      · go_wp2
        go_ret
        exact ⟨by rw [HR.out]; simp, (Ext.refl w).alloc _⟩
  rcases g3 : (src != dst) with _ | _
  · go_wp2
    go_loop [8, 9] (fun o i => o = .bool false ∧ i = .int .i64 0) (fun _ _ => 0)
    case atStart => exact ⟨rfl, rfl⟩
    case round =>
      obtain ⟨rfl, rfl⟩ := hrel
      by_cases hn0 : 0 < n
      · go_wp2
        go_ret
        exact ⟨by rw [HR.out]; simp [g3], (Ext.refl w).alloc _⟩
      · go_wp2
        go_ret
        exact ⟨by rw [HR.out]; simp [g3], (Ext.refl w).alloc _⟩
  go_wp2_with fail
  refine (C4.out _).mono ?_
  clear C4
  rintro e w1 ⟨rfl, rfl⟩
  rcases g4 with _ | _
  · go_wp2
    go_loop [8, 9] (fun o i => o = .bool false ∧ i = .int .i64 0) (fun _ _ => 0)
    case atStart => exact ⟨rfl, rfl⟩
    case round =>
      obtain ⟨rfl, rfl⟩ := hrel
      by_cases hn0 : 0 < n
      · go_wp2
        go_ret
        exact ⟨by rw [HR.out]; simp, (Ext.refl w).alloc _⟩
      · go_wp2
        go_ret
        exact ⟨by rw [HR.out]; simp, (Ext.refl w).alloc _⟩
  go_wp2_with fail
  refine (C5.out _).mono ?_
  clear C5
  rintro e w1 ⟨rfl, rfl⟩
  rcases g5 with _ | _
  · go_wp2
    go_loop [8, 9] (fun o i => o = .bool false ∧ i = .int .i64 0) (fun _ _ => 0)
    case atStart => exact ⟨rfl, rfl⟩
    case round =>
      obtain ⟨rfl, rfl⟩ := hrel
      by_cases hn0 : 0 < n
      · go_wp2
        go_ret
        exact ⟨by rw [HR.out]; simp, (Ext.refl w).alloc _⟩
      · go_wp2
        go_ret
        exact ⟨by rw [HR.out]; simp, (Ext.refl w).alloc _⟩
  go_wp2_with fail
  refine (C6.out _).mono ?_
  clear C6
  rintro e w1 ⟨rfl, rfl⟩
  rcases g6 with _ | _
  · go_wp2
    go_loop [8, 9] (fun o i => o = .bool false ∧ i = .int .i64 0) (fun _ _ => 0)
    case atStart => exact ⟨rfl, rfl⟩
    case round =>
      obtain ⟨rfl, rfl⟩ := hrel
      by_cases hn0 : 0 < n
      · go_wp2
        go_ret
        exact ⟨by rw [HR.out]; simp, (Ext.refl w).alloc _⟩
      · go_wp2
        go_ret
        exact ⟨by rw [HR.out]; simp, (Ext.refl w).alloc _⟩
  go_wp2_with fail
  refine (C7.out _).mono ?_
  clear C7
  rintro e w1 ⟨rfl, rfl⟩
  rcases g7 with _ | _
  · go_wp2
    go_loop [8, 9] (fun o i => o = .bool false ∧ i = .int .i64 0) (fun _ _ => 0)
    case atStart => exact ⟨rfl, rfl⟩
    case round =>
      obtain ⟨rfl, rfl⟩ := hrel
      by_cases hn0 : 0 < n
      · go_wp2
        go_ret
        exact ⟨by rw [HR.out]; simp, (Ext.refl w).alloc _⟩
      · go_wp2
        go_ret
        exact ⟨by rw [HR.out]; simp, (Ext.refl w).alloc _⟩
  go_wp2_with fail
  refine (C8.out _).mono ?_
  clear C8
  rintro e w1 ⟨rfl, rfl⟩
  rcases g8 with _ | _
  · go_wp2
    go_loop [8, 9] (fun o i => o = .bool false ∧ i = .int .i64 0) (fun _ _ => 0)
    case atStart => exact ⟨rfl, rfl⟩
    case round =>
      obtain ⟨rfl, rfl⟩ := hrel
      by_cases hn0 : 0 < n
      · go_wp2
        go_ret
        exact ⟨by rw [HR.out]; simp, (Ext.refl w).alloc _⟩
      · go_wp2
        go_ret
        exact ⟨by rw [HR.out]; simp, (Ext.refl w).alloc _⟩
  by_cases h9 : n ≤ 0
  rotate_left
  · have d9 : decide ((n : Int) ≤ 0) = false := dec_f (by omega)
    have hn0 : 0 < n := by omega
    have e9 : decide (n = 0) = false := dec_f (by omega)
    go_wp2
    clear d9 e9
    go_loop [8, 9] (fun o i => o = .bool false ∧ i = .int .i64 0) (fun _ _ => 0)
    case atStart => exact ⟨rfl, rfl⟩
    case round =>
      obtain ⟨rfl, rfl⟩ := hrel
      go_wp2
      go_ret
      exact ⟨by rw [HR.out]; simp [h9], (Ext.refl w).alloc _⟩
  obtain rfl : n = 0 := by omega
  obtain rfl : l = [] := List.eq_nil_of_length_eq_zero hlen
  clear hes' hlen
  go_wp2
  go_loop [8, 9] (fun o i => o = .bool true ∧ i = .int .i64 0) (fun _ _ => 0)
  case atStart => exact ⟨rfl, rfl⟩
  case round =>
    obtain ⟨rfl, rfl⟩ := hrel
    go_wp2
    go_ret
    exact ⟨by rw [HR.out, entsB_nil]; simp [g3], (Ext.refl w).alloc _⟩

set_option maxRecDepth 100000 in
set_option maxHeartbeats 3200000 in
theorem ref16_May4f (src dst term la lb lc bin : Int) (A : Option Addr) (n cp : Nat) (l : List EV) (w : World) (hes : Es w A n l) (hn : n ≤ 20000) :
    Calls Try.prog 55 #[(⟨4, src, dst, term, la, lb, lc, bin, false, A, n, cp, l⟩ : LV).val] w fun e w' => e = .returned (.int .i64 (mayR ⟨4, src, dst, term, la, lb, lc, bin, false, A, n, cp, l⟩)) ∧ Ext w w' := by
  unfold LV.val
  dsimp only
  have hlen := hes.len
  have hes' := hes.ext ((Ext.refl w).alloc (.cells #[.int .i64 4, .int .i64 src, .int .i64 dst, .int .i64 term, .int .i64 la, .int .i64 lb, .int .i64 lc, .int .i64 bin, .bool false, .slice A n cp] 47))
  clear hes
  obtain ⟨g1, hg1⟩ : ∃ b, inB src 0 4 = b := ⟨_, rfl⟩
  obtain ⟨g2, hg2⟩ : ∃ b, inB dst 0 4 = b := ⟨_, rfl⟩
  obtain ⟨g4, hg4⟩ : ∃ b, inB term 1 1048576 = b := ⟨_, rfl⟩
  obtain ⟨g5, hg5⟩ : ∃ b, inB bin 1 3 = b := ⟨_, rfl⟩
  obtain ⟨g6, hg6⟩ : ∃ b, inB la 0 64 = b := ⟨_, rfl⟩
  obtain ⟨g7, hg7⟩ : ∃ b, inB lb 0 0 = b := ⟨_, rfl⟩
  obtain ⟨g8, hg8⟩ : ∃ b, inB lc 0 0 = b := ⟨_, rfl⟩
  obtain ⟨g9, hg9⟩ : ∃ b, inB n 0 0 = b := ⟨_, rfl⟩
  have e9 : g9 = decide (n ≤ 0) := by
    rw [← hg9, Bool.eq_iff_iff, inB_t, decide_eq_true_eq]; omega
  have hR : mayR ⟨4, src, dst, term, la, lb, lc, bin, false, A, n, cp, l⟩ = if (g1 && g2 && (src != dst) && g4 && g5 && g6 && g7 && g8 && true && g9 && entsB l) = true then 0 else 1 := by
    simp [mayR, mayB, hg1, hg2, hg4, hg5, hg6, hg7, hg8, hg9]
  clear hg9
  subst e9
  have HR := Lib.hid hR; clear hR
  have C0 := Lib.hid (fun w => ref16_in' (show inB 4 1 4 = true from rfl) w)
  have C1 := Lib.hid (fun w => ref16_in' hg1 w)
  have C2 := Lib.hid (fun w => ref16_in' hg2 w)
  have C4 := Lib.hid (fun w => ref16_in' hg4 w)
  have C5 := Lib.hid (fun w => ref16_in' hg5 w)
  have C6 := Lib.hid (fun w => ref16_in' hg6 w)
  have C7 := Lib.hid (fun w => ref16_in' hg7 w)
  have C8 := Lib.hid (fun w => ref16_in' hg8 w)
  clear hg1 hg2 hg4 hg5 hg6 hg7 hg8
  go_enter Try.func55, Try.ntmps55
  simp only [List.append_eq, List.cons_append, List.nil_append]
  go_wp2_with fail
  refine (C0.out _).mono ?_
  clear C0
  rintro e w1 ⟨rfl, rfl⟩
  go_wp2_with fail
  refine (C1.out _).mono ?_
  clear C1
  rintro e w1 ⟨rfl, rfl⟩
  rcases g1 with _ | _
  · go_wp2
    go_loop [8, 9] (fun o i => o = .bool false ∧ i = .int .i64 0) (fun _ _ => 0)
    case atStart => exact ⟨rfl, rfl⟩
    case round =>
      obtain ⟨rfl, rfl⟩ := hrel
      by_cases hn0 : 0 < n
      · go_wp2
        go_ret
        exact ⟨by rw [HR.out]; simp, (Ext.refl w).alloc _⟩
      · go_wp2
        go_ret
        exact ⟨by rw [HR.out]; simp, (Ext.refl w).alloc _⟩
  go_wp2_with fail
  refine (C2.out _).mono ?_
  clear C2
  rintro e w1 ⟨rfl, rfl⟩
  rcases g2 with _ | _
  · go_wp2
    go_loop [8, 9] (fun o i => o = .bool false ∧ i = .int .i64 0) (fun _ _ => 0)
    case atStart => exact ⟨rfl, rfl⟩
    case round =>
      obtain ⟨rfl, rfl⟩ := hrel
      by_cases hn0 : 0 < n
      · go_wp2
        go_ret
        exact ⟨by rw [HR.out]; simp, (Ext.refl w).alloc _⟩
      · go_wp2
        go_ret
        exact ⟨by rw [HR.out]; simp, (Ext.refl w).alloc _⟩
  rcases g3 : (src != dst) with _ | _
  · go_wp2
    go_loop [8, 9] (fun o i => o = .bool false ∧ i = .int .i64 0) (fun _ _ => 0)
    case atStart => exact ⟨rfl, rfl⟩
    case round =>
      obtain ⟨rfl, rfl⟩ := hrel
      by_cases hn0 : 0 < n
      · go_wp2
        go_ret
        exact ⟨by rw [HR.out]; simp [g3], (Ext.refl w).alloc _⟩
      · go_wp2
        go_ret
        exact ⟨by rw [HR.out]; simp [g3], (Ext.refl w).alloc _⟩
  go_wp2_with fail
  refine (C4.out _).mono ?_
  clear C4
  rintro e w1 ⟨rfl, rfl⟩
  rcases g4 with _ | _
  · go_wp2
    go_loop [8, 9] (fun o i => o = .bool false ∧ i = .int .i64 0) (fun _ _ => 0)
    case atStart => exact ⟨rfl, rfl⟩
    case round =>
      obtain ⟨rfl, rfl⟩ := hrel
      by_cases hn0 : 0 < n
      · go_wp2
        go_ret
        exact ⟨by rw [HR.out]; simp, (Ext.refl w).alloc _⟩
      · go_wp2
        go_ret
        exact ⟨by rw [HR.out]; simp, (Ext.refl w).alloc _⟩
  go_wp2_with fail
  refine (C5.out _).mono ?_
  clear C5
  rintro e w1 ⟨rfl, rfl⟩
  rcases g5 with _ | _
  · go_wp2
    go_loop [8, 9] (fun o i => o = .bool false ∧ i = .int .i64 0) (fun _ _ => 0)
    case atStart => exact ⟨rfl, rfl⟩
    case round =>
      obtain ⟨rfl, rfl⟩ := hrel
      by_cases hn0 : 0 < n
      · go_wp2
        go_ret
        exact ⟨by rw [HR.out]; simp, (Ext.refl w).alloc _⟩
      · go_wp2
        go_ret
        exact ⟨by rw [HR.out]; simp, (Ext.refl w).alloc _⟩
  go_wp2_with fail
  refine (C6.out _).mono ?_
  clear C6
  rintro e w1 ⟨rfl, rfl⟩
  rcases g6 with _ | _
  · go_wp2
    go_loop [8, 9] (fun o i => o = .bool false ∧ i = .int .i64 0) (fun _ _ => 0)
    case atStart => exact ⟨rfl, rfl⟩
    case round =>
      obtain ⟨rfl, rfl⟩ := hrel
      by_cases hn0 : 0 < n
      · go_wp2
        go_ret
        exact ⟨by rw [HR.out]; simp, (Ext.refl w).alloc _⟩
      · go_wp2
        go_ret
        exact ⟨by rw [HR.out]; simp, (Ext.refl w).alloc _⟩
  go_wp2_with fail
  refine (C7.out _).mono ?_
  clear C7
  rintro e w1 ⟨rfl, rfl⟩
  rcases g7 with _ | _
  · go_wp2
    go_loop [8, 9] (fun o i => o = .bool false ∧ i = .int .i64 0) (fun _ _ => 0)
    case atStart => exact ⟨rfl, rfl⟩
    case round =>
      obtain ⟨rfl, rfl⟩ := hrel
      by_cases hn0 : 0 < n
      · go_wp2
        go_ret
        exact ⟨by rw [HR.out]; simp, (Ext.refl w).alloc _⟩
      · go_wp2
        go_ret
        exact ⟨by rw [HR.out]; simp, (Ext.refl w).alloc _⟩
  go_wp2_with fail
  refine (C8.out _).mono ?_
  clear C8
  rintro e w1 ⟨rfl, rfl⟩
  rcases g8 with _ | _
  · go_wp2
    go_loop [8, 9] (fun o i => o = .bool false ∧ i = .int .i64 0) (fun _ _ => 0)
    case atStart => exact ⟨rfl, rfl⟩
    case round =>
      obtain ⟨rfl, rfl⟩ := hrel
      by_cases hn0 : 0 < n
      · go_wp2
        go_ret
        exact ⟨by rw [HR.out]; simp, (Ext.refl w).alloc _⟩
      · go_wp2
        go_ret
        exact ⟨by rw [HR.out]; simp, (Ext.refl w).alloc _⟩
  by_cases h9 : n ≤ 0
  rotate_left
  · have d9 : decide ((n : Int) ≤ 0) = false := dec_f (by omega)
    have hn0 : 0 < n := by omega
    have e9 : decide (n = 0) = false := dec_f (by omega)
    go_wp2
    clear d9 e9
    go_loop [8, 9] (fun o i => o = .bool false ∧ i = .int .i64 0) (fun _ _ => 0)
    case atStart => exact ⟨rfl, rfl⟩
    case round =>
      obtain ⟨rfl, rfl⟩ := hrel
      go_wp2
      go_ret
      exact ⟨by rw [HR.out]; simp [h9], (Ext.refl w).alloc _⟩
  obtain rfl : n = 0 := by omega
  obtain rfl : l = [] := List.eq_nil_of_length_eq_zero hlen
  clear hes' hlen
  go_wp2
  go_loop [8, 9] (fun o i => o = .bool true ∧ i = .int .i64 0) (fun _ _ => 0)
  case atStart => exact ⟨rfl, rfl⟩
  case round =>
    obtain ⟨rfl, rfl⟩ := hrel
    go_wp2
    go_ret
    exact ⟨by rw [HR.out, entsB_nil]; simp [g3], (Ext.refl w).alloc _⟩

set_option maxRecDepth 100000 in
set_option maxHeartbeats 800000 in
theorem ref16_May0 (kind src dst term la lb lc bin : Int) (ok : Bool) (A : Option Addr) (n cp : Nat) (l : List EV) (w : World) (h1 : kind ≠ 1) (h2 : kind ≠ 2) (h3 : kind ≠ 3) (h4 : kind ≠ 4) :
    Calls Try.prog 55 #[(⟨kind, src, dst, term, la, lb, lc, bin, ok, A, n, cp, l⟩ : LV).val] w fun e w' => e = .returned (.int .i64 (mayR ⟨kind, src, dst, term, la, lb, lc, bin, ok, A, n, cp, l⟩)) ∧ Ext w w' := by
  have HR := Lib.hid (mayR_f (x := ⟨kind, src, dst, term, la, lb, lc, bin, ok, A, n, cp, l⟩) (by simp [mayB, h1, h2, h3, h4]))
  have C0 := Lib.hid (fun w => ref16_in' (show inB kind 1 4 = false by rw [inB_f]; omega) w)
  unfold LV.val
  dsimp only
  have g1 := beq_f h1
  have g2 := beq_f h2
  have g3 := beq_f h3
  have g4 := beq_f h4
  clear h1 h2 h3 h4
  go_enter Try.func55, Try.ntmps55
  simp only [List.append_eq, List.cons_append, List.nil_append]
  go_wp2_with fail
  refine (C0.out _).mono ?_
  clear C0
  rintro e w1 ⟨rfl, rfl⟩
  go_wp2
  go_loop [8, 9] (fun o i => o = .bool false ∧ i = .int .i64 0) (fun _ _ => 0)
  case atStart => exact ⟨rfl, rfl⟩
  case round =>
    obtain ⟨rfl, rfl⟩ := hrel
    by_cases hn0 : 0 < n
    · go_wp2
      go_ret
      exact ⟨by rw [HR.out]; rfl, (Ext.refl w).alloc _⟩
    · go_wp2
      go_ret
      exact ⟨by rw [HR.out]; rfl, (Ext.refl w).alloc _⟩

theorem ref16_May (x : LV) (w : World) (hx : x.Ok w) (hn : x.n ≤ 20000) :
    Calls Try.prog 55 #[x.val] w fun e w' => e = .returned (.int .i64 (mayR x)) ∧ Ext w w' := by
  have hes := hx.es
  obtain ⟨kind, src, dst, term, la, lb, lc, bin, ok, A, n, cp, l⟩ := x
  by_cases h1 : kind = 1
  · subst h1; exact ref16_May1 src dst term la lb lc bin ok A n cp l w hes hn
  by_cases h2 : kind = 2
  · subst h2
    cases ok
    · exact ref16_May2f src dst term la lb lc bin A n cp l w hes hn
    · exact ref16_May2t src dst term la lb lc bin A n cp l w hes hn
  by_cases h3 : kind = 3
  · subst h3; exact ref16_May3 src dst term la lb lc bin ok A n cp l w hes hn
  by_cases h4 : kind = 4
  · subst h4
    cases ok
    · exact ref16_May4f src dst term la lb lc bin A n cp l w hes hn
    · exact ref16_May4t src dst term la lb lc bin A n cp l w hes hn
  exact ref16_May0 kind src dst term la lb lc bin ok A n cp l w h1 h2 h3 h4
end Go.Proofs.Ytcdnjhcddbkciaa
