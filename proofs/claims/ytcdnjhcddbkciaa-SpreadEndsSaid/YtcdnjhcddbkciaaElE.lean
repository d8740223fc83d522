/- The walks of Wins of layer 18, and of the laws' head. -/
import Derived.Test.YtcdnjhcddbkciaaElC
namespace Go.Proofs.Ytcdnjhcddbkciaa
open Go.RowKit

/-- a slice of bools that reads as l -/
def Bl (w : World) (A : Option Addr) (n : Nat) (l : List Bool) : Prop := Rd w A n 1 (l.map Value.bool)
theorem Bl.len {w : World} {A : Option Addr} {n : Nat} {l : List Bool} (h : Bl w A n l) : l.length = n := by have := h.1; simpa using this
theorem Bl.ext {w w' : World} {A : Option Addr} {n : Nat} {l : List Bool} (h : Bl w A n l) (he : Ext w w') : Bl w' A n l := Rd.ext h he
theorem Bl.at_ {w : World} {A : Option Addr} {n : Nat} {l : List Bool} (h : Bl w A n l) {k : Nat} (hk : k < n) : ∃ b off, A = some ⟨b, off, none⟩ ∧ w.cell? ⟨b, off + k, none⟩ = some (.bool (l[k]'(by rw [h.len]; exact hk))) := by
  obtain ⟨b, off, e, _, hc⟩ := h.2 (by omega)
  refine ⟨b, off, e, hc k _ ?_⟩
  rw [List.getElem?_map, List.getElem?_eq_getElem (by rw [h.len]; exact hk)]
  rfl
/-- how many are for one -/
def cnt (l : List Bool) : Nat := l.count true
theorem cnt_le (l : List Bool) : cnt l ≤ l.length := List.count_le_length
theorem cnt_snoc (l : List Bool) (j : Nat) (h : j < l.length) : cnt (l.take (j + 1)) = cnt (l.take j) + if l[j] = true then 1 else 0 := by
  unfold cnt; rw [List.take_succ_eq_append_getElem h, List.count_append, List.count_singleton]
  cases l[j] <;> simp
theorem cnt_take (l : List Bool) (j : Nat) : cnt (l.take j) ≤ j := by
  have := cnt_le (l.take j); rw [List.length_take] at this; omega
/-- are more than half for one -/
def winsB (l : List Bool) : Bool := decide (l.length < 2 * cnt l)

set_option maxRecDepth 100000 in
set_option maxHeartbeats 800000 in
theorem elect_Wins (A : Option Addr) (n c : Nat) (l : List Bool) (w : World) (hl : Bl w A n l) (hn : n ≤ 1000) : Calls Try.prog 41 #[.slice A n c] w fun e w' => e = .returned (.bool (winsB l)) ∧ w = w' := by
  have hlen := hl.len
  go_enter Try.func41, Try.ntmps41
  go_wp2
  go_loop [3, 8] (fun s i => ∃ j : Nat, i = .int .i64 j ∧ j ≤ n ∧ s = .int .i64 (cnt (l.take j))) (fun _ i => n - (intOf i).toNat)
  case atStart => exact ⟨0, rfl, by omega, rfl⟩
  case round =>
    obtain ⟨j, rfl, hj, rfl⟩ := hrel
    have hct := cnt_take l j
    by_cases hjn : j < n
    · obtain ⟨b, off, rfl, c0⟩ := hl.at_ hjn
      have hsn := cnt_snoc l j (by omega)
      generalize cnt (l.take j) = S at *
      rcases hb : l[j] with _ | _
      · rw [hb] at c0
        have Hsn : Hid (cnt (l.take (j + 1)) = S) := Lib.hid (by rw [hsn, hb]; rfl)
        clear hsn hb
        go_wp2
        go_round
        case rel => exact ⟨j + 1, val_int (by omega), by omega, val_int (by rw [Hsn.out])⟩
        case measure => simp [intOf]; omega
      · rw [hb] at c0
        have Hsn : Hid (cnt (l.take (j + 1)) = S + 1) := Lib.hid (by rw [hsn, hb]; rfl)
        clear hsn hb
        go_wp2
        go_round
        case rel => exact ⟨j + 1, val_int (by omega), by omega, val_int (by rw [Hsn.out]; omega)⟩
        case measure => simp [intOf]; omega
    · obtain rfl : j = n := by omega
      rw [List.take_of_length_le (by omega)] at hct ⊢
      have hw : winsB l = decide ((j : Int) / 2 < (cnt l : Int)) := by
        unfold winsB; rw [hlen, Bool.eq_iff_iff, decide_eq_true_eq, decide_eq_true_eq]; omega
      have Hw := Lib.hid hw; clear hw
      generalize cnt l = S at *
      go_wp2
      go_ret
      exact ⟨congrArg (fun b => Ending.returned (.bool b)) Hw.out.symm, rfl⟩

set_option maxRecDepth 100000 in
set_option maxHeartbeats 800000 in
theorem ref18_Wins (A : Option Addr) (n c : Nat) (l : List Bool) (w : World) (hl : Bl w A n l) (hn : n ≤ 1000) : Calls Try.prog 48 #[.slice A n c] w fun e w' => e = .returned (.bool (winsB l)) ∧ w = w' := by
  have hlen := hl.len
  go_enter Try.func48, Try.ntmps48
  go_wp2
  go_loop [3, 4] (fun s i => ∃ j : Nat, i = .int .i64 j ∧ j ≤ n ∧ s = .int .i64 (cnt (l.take j))) (fun _ i => n - (intOf i).toNat)
  case atStart => exact ⟨0, rfl, by omega, rfl⟩
  case round =>
    obtain ⟨j, rfl, hj, rfl⟩ := hrel
    have hct := cnt_take l j
    by_cases hjn : j < n
    · obtain ⟨b, off, rfl, c0⟩ := hl.at_ hjn
      have hsn := cnt_snoc l j (by omega)
      generalize cnt (l.take j) = S at *
      rcases hb : l[j] with _ | _
      · rw [hb] at c0
        have Hsn : Hid (cnt (l.take (j + 1)) = S) := Lib.hid (by rw [hsn, hb]; rfl)
        clear hsn hb
        go_wp2
        go_round
        case rel => exact ⟨j + 1, val_int (by omega), by omega, val_int (by rw [Hsn.out])⟩
        case measure => simp [intOf]; omega
      · rw [hb] at c0
        have Hsn : Hid (cnt (l.take (j + 1)) = S + 1) := Lib.hid (by rw [hsn, hb]; rfl)
        clear hsn hb
        go_wp2
        go_round
        case rel => exact ⟨j + 1, val_int (by omega), by omega, val_int (by rw [Hsn.out]; omega)⟩
        case measure => simp [intOf]; omega
    · obtain rfl : j = n := by omega
      rw [List.take_of_length_le (by omega)] at hct ⊢
      have hw : winsB l = decide ((j : Int) < 2 * (cnt l : Int)) := by
        unfold winsB; rw [hlen, Bool.eq_iff_iff, decide_eq_true_eq, decide_eq_true_eq]; omega
      have Hw := Lib.hid hw; clear hw
      generalize cnt l = S at *
      go_wp2
      go_ret
      exact ⟨congrArg (fun b => Ending.returned (.bool b)) Hw.out.symm, rfl⟩

def exX : LV := ⟨1, 1, 0, 2, 0, 0, 0, 1, false, none, 0, 0, []⟩
def exS (v : Int) : SV := ⟨0, 2, v, none, 0, 0, []⟩
theorem exX_ok (w : World) : exX.Ok w := ⟨Es.nil_ _ _, by decide, by decide, ⟨by decide, by decide⟩, ⟨by decide, by decide⟩, ⟨by decide, by decide⟩, ⟨by decide, by decide⟩, ⟨by decide, by decide⟩, ⟨by decide, by decide⟩, ⟨by decide, by decide⟩, ⟨by decide, by decide⟩⟩
theorem exS_ok (v : Nat) (hv : v ≤ 5) (w : World) : (exS v).Ok w := ⟨Es.nil_ _ _, Nat.le_refl _, by simp [exS, maxLen], ⟨by simp [exS], by simp [exS]⟩, ⟨by simp [exS], by simp [exS]⟩, ⟨by show (-9223372036854775808 : Int) ≤ (v : Int); omega, by show (v : Int) ≤ 9223372036854775807; omega⟩⟩
theorem ex1 : answerL (exS 1) exX = ([], false, 0) := rfl
theorem ex2 : answerL (exS 2) exX = ([], true, 0) := rfl

theorem AnsPost.nil_ {s : SV} {x : LV} {g : Bool} {k : Nat} (ha : answerL s x = ([], g, k)) {w w' : World} {e : Ending} (h : AnsPost s x w e w') : ∃ A c, e = .returned (.tuple #[.slice A 0 c, .bool g, .int .i64 k]) ∧ Ext w w' := by
  obtain ⟨v, he, ho, hx⟩ := h
  rw [ha] at he ho
  obtain ⟨A, c, rfl, _⟩ := own_form ho
  exact ⟨A, c, he, hx⟩

set_option maxRecDepth 100000 in
set_option maxHeartbeats 800000 in
theorem law18_shown (w : World) : Calls Try.prog 36 #[] w fun e w' => e = .returned (.bool true) ∧ Ext w w' := by
  have A1 := Lib.hid (fun w' => (elect_Answer (exS 1) exX w' (exS_ok 1 (by omega) w') (exX_ok w') (by decide) (by decide)).mono fun e w'' h => AnsPost.nil_ ex1 h)
  have A2 := Lib.hid (fun w' => (elect_Answer (exS 2) exX w' (exS_ok 2 (by omega) w') (exX_ok w') (by decide) (by decide)).mono fun e w'' h => AnsPost.nil_ ex2 h)
  have W3 := Lib.hid (fun (w' : World) (k : Nat) (hk : k = w'.heap.size) => elect_Wins (some ⟨k, 0, none⟩) 3 3 [true, true, false] (w'.alloc (.cells #[.bool true, .bool true, .bool false] 4)) (by subst hk; exact Rd.block (size := 1) w' _ _ 3 rfl) (by omega))
  rw [show winsB [true, true, false] = true from rfl] at W3
  unfold SV.val LV.val exS exX at A1 A2
  dsimp only at A1 A2
  go_enter Try.func36, Try.ntmps36
  go_wp2_with fail
  refine (A1.out _).mono ?_
  rintro e w1 ⟨B1, d1, rfl, x1⟩
  have q := fun i v (h : (w.alloc (.cells #[.int .i64 1, .int .i64 1, .int .i64 0, .int .i64 2, .int .i64 0, .int .i64 0, .int .i64 0, .int .i64 1, .bool false, .slice none 0 0] 47)).cell? ⟨w.heap.size, i, none⟩ = some v) => x1.cell h
  have q0 := q 0 (.int .i64 1) (by simp)
  have q1 := q 1 (.int .i64 1) (by simp)
  have q2 := q 2 (.int .i64 0) (by simp)
  have q3 := q 3 (.int .i64 2) (by simp)
  have q4 := q 4 (.int .i64 0) (by simp)
  have q5 := q 5 (.int .i64 0) (by simp)
  have q6 := q 6 (.int .i64 0) (by simp)
  have q7 := q 7 (.int .i64 1) (by simp)
  have q8 := q 8 (.bool false) (by simp)
  have q9 := q 9 (.slice none 0 0) (by simp)
  clear q
  have y1 := ((Ext.refl w).alloc _).trans x1
  clear x1
  go_wp2_with fail
  refine (A2.out _).mono ?_
  rintro e w2 ⟨B2, d2, rfl, x2⟩
  have y2 := y1.trans x2
  clear q0 q1 q2 q3 q4 q5 q6 q7 q8 q9 x2 y1
  go_wp2_with fail
  refine (W3.out _ _ rfl).mono ?_
  rintro e w3 ⟨rfl, rfl⟩
  go_wp2
  go_ret
  exact ⟨rfl, y2.alloc _⟩
end Go.Proofs.Ytcdnjhcddbkciaa
