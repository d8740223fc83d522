/- Words and walks that the last text of this claim stands on: StB, StL, StF, StK, FormA, FormB, ImL. No condition. -/
import Derived.Test.YtiildgoaiookhaaGreatB04
import Derived.Test.YtiildgoaiookhaaGreatB05
import Derived.Test.YtiildgoaiookhaaGreatB03
import Derived.Test.YtiildgoaiookhaaGreatB01
import Derived.Test.YtiildgoaiookhaaGreatProg
/- The walks of place, rising and all of a catalogue. (Printed by wip/tools/stwalks.py.) -/
namespace Go.Proofs.YtiildgoaiookhaaGreat
open Go.RowKit

/-- the first place from j on of a thing of that key, -1 without one -/
def findAt {α : Type} (key : α → Int) (l : List α) (x : Int) (j : Nat) : Int :=
  match (l.drop j).findIdx? (fun e => key e == x) with
  | some i => ((j + i : Nat) : Int)
  | none => -1
section
variable {α : Type} {key : α → Int} {l : List α} {x : Int} {j : Nat}
theorem findAt_hit (h : j < l.length) (hk : key l[j] = x) : findAt key l x j = j := by
  unfold findAt
  rw [List.drop_eq_getElem_cons h, List.findIdx?_cons]
  simp [hk]
theorem findAt_miss (h : j < l.length) (hk : key l[j] ≠ x) : findAt key l x j = findAt key l x (j + 1) := by
  unfold findAt
  rw [List.drop_eq_getElem_cons h, List.findIdx?_cons]
  have : (key l[j] == x) = false := beq_eq_false_iff_ne.2 hk
  rw [this]
  rcases (l.drop (j + 1)).findIdx? (fun e => key e == x) with _ | i
  · rfl
  · simp; omega
theorem findAt_end (h : l.length ≤ j) : findAt key l x j = -1 := by
  unfold findAt
  rw [List.drop_of_length_le h]; rfl
theorem findAt_lo : -1 ≤ findAt key l x j := by
  unfold findAt; split <;> omega
theorem findAt_hi : findAt key l x j < l.length ∨ findAt key l x j = -1 := by
  unfold findAt
  split
  · rename_i i h
    left
    have := (List.findIdx?_eq_some_iff_getElem.1 h).1
    rw [List.length_drop] at this
    omega
  · exact .inr rfl
/-- do keys rise, each from a + 1 to most -/
def risB (key : α → Int) (most : Int) : Int → List α → Bool
  | _, [] => true
  | a, e :: r => inI (key e) (a + 1) most && risB key most (key e) r
theorem risB_nil (key : α → Int) (most a : Int) : risB key most a [] = true := rfl
theorem risB_cons (key : α → Int) (most a : Int) (e : α) (r : List α) : risB key most a (e :: r) = (inI (key e) (a + 1) most && risB key most (key e) r) := rfl
end

set_option maxRecDepth 100000 in
set_option maxHeartbeats 800000 in
theorem st_risingSess (A : Option Addr) (n c : Nat) (l : List CV) (most : Int) (w : World) (h : Ts w A n l) (hn : n ≤ 1000000) (hm : most ≤ 1048576) :
    Calls Tryz.prog 60 #[.slice A n c, .int .i64 most, .func (.func 61) #[] #[]] w fun e w' => e = .returned (.bool (risB CV.client most 0 l)) ∧ Ext w w' := by
  have hlen := h.len
  go_enter Tryz.func60, Tryz.ntmps60
  go_wp2_with fail
  go_loopw [7, 12] (fun q i wr => ∃ (j : Nat) (ah : Int), i = .int .i64 j ∧ q = .int .i64 ah ∧ 0 ≤ ah ∧ ah ≤ 1048576 ∧ j ≤ n ∧ risB CV.client most 0 l = risB CV.client most ah (l.drop j) ∧ Ext w wr) (fun _ i _ => n - (intOf i).toNat)
  case atStart => exact ⟨0, 0, rfl, rfl, by omega, by omega, by omega, rfl, Ext.refl w⟩
  case round =>
    obtain ⟨j, ah, rfl, rfl, ha0, ha1, hj, hf, hx⟩ := hrel
    by_cases hjn : j < n
    · obtain ⟨bb, off, rfl, hlt, hc⟩ := (h.ext hx).at_ hjn
      rw [List.drop_eq_getElem_cons (show j < l.length by omega)] at hf
      generalize l[j]'(by omega) = f at *
      have c0 : wr.cell? ⟨bb, off + j * 4, none⟩ = some (.int .i64 f.client) := hc 0 (by omega)
      have c1 : wr.cell? ⟨bb, off + j * 4 + 1, none⟩ = some (.int .i64 f.seq) := hc 1 (by omega)
      have c2 : wr.cell? ⟨bb, off + j * 4 + 2, none⟩ = some (.int .i64 f.code) := hc 2 (by omega)
      have c3 : wr.cell? ⟨bb, off + j * 4 + 3, none⟩ = some (.int .i64 f.n) := hc 3 (by omega)
      clear hc
      obtain ⟨a, b, c, d⟩ := f
      rw [risB_cons] at hf
      dsimp only at hf c0 c1 c2 c3
      have xa : Ext wr (wr.alloc (.cells #[.int .i64 a, .int .i64 b, .int .i64 c, .int .i64 d] 63)) := (Ext.refl wr).alloc _
      have hB := Blk.new wr 63 [.int .i64 a, .int .i64 b, .int .i64 c, .int .i64 d]
      have hI := fun h1 h2 => (inI_t (n := a) (lo := ah + 1) (hi := most) h1 h2)
      rcases hb : inI a (ah + 1) most with _ | _
      · rw [hb, Bool.false_and] at hf
        have HF := Lib.hid hf
        have HW := Lib.hid (fun w => st_within a (ah + 1) most false hb w)
        clear hf hb hI hB
        go_wp2_with (first
          | (refine wpList_named 61 (by rfl) ?_)
          | (go_at_call 61; refine (st_clientOf ⟨a, b, c, d⟩ _).mono ?_; rintro e w1 ⟨rfl, yw1⟩)
          | (go_at_call 59; refine (HW.out _).mono ?_; rintro e w2 ⟨rfl, rfl⟩))
        go_ret
        exact ⟨by rw [HF.out] <;> rfl, (hx.trans xa).trans yw1⟩
      · rw [hb, Bool.true_and] at hf
        have HF := Lib.hid hf
        have HW := Lib.hid (fun w => st_within a (ah + 1) most true hb w)
        obtain ⟨hl, hh⟩ := inI_iff.1 hb
        have K1 : Hid (Calls Tryz.prog 61 #[.agg #[.int .i64 a, .int .i64 b, .int .i64 c, .int .i64 d]] (wr.alloc (.cells #[.int .i64 a, .int .i64 b, .int .i64 c, .int .i64 d] 63)) fun e w' => e = .returned (.int .i64 a) ∧ Ext (wr.alloc (.cells #[.int .i64 a, .int .i64 b, .int .i64 c, .int .i64 d] 63)) w') := Lib.hid (st_clientOf ⟨a, b, c, d⟩ _)
        clear hf hb hI
        go_wp2_with (first
          | (refine wpList_named 61 (by rfl) ?_)
          | (go_at_call 61; ((with_reducible refine K1.out.mono ?_); rintro e w1 ⟨rfl, yw1⟩; have hB1 := hB.ext yw1; have d0 := hB1.cell 0; have d1 := hB1.cell 1; have d2 := hB1.cell 2; have d3 := hB1.cell 3; simp only [List.getElem?_cons_zero, List.getElem?_cons_succ] at d0 d1 d2 d3))
          | (go_at_call 61; refine (st_clientOf ⟨a, b, c, d⟩ _).mono ?_; rintro e w3 ⟨rfl, yw3⟩)
          | (go_at_call 59; refine (HW.out _).mono ?_; rintro e w2 ⟨rfl, rfl⟩))
        go_roundw
        case rel => exact ⟨j + 1, a, val_int (by omega), rfl, by omega, by omega, by omega, HF.out, ((hx.trans xa).trans yw1).trans yw3⟩
        case measure => simp [intOf]; omega
    · obtain rfl : n = j := by omega
      rw [List.drop_of_length_le (by omega), risB_nil] at hf
      have H1 := Lib.hid hf
      clear hf
      go_wp2
      go_ret
      exact ⟨by rw [H1.out] <;> rfl, hx⟩

set_option maxRecDepth 100000 in
set_option maxHeartbeats 800000 in
theorem st_allSess (A : Option Addr) (n c : Nat) (l : List CV) (w : World) (h : Ts w A n l) (hn : n ≤ 1000000) :
    Calls Tryz.prog 62 #[.slice A n c, .func (.func 63) #[] #[]] w fun e w' => e = .returned (.bool (l.all sesB)) ∧ Ext w w' := by
  have hlen := h.len
  go_enter Tryz.func62, Tryz.ntmps62
  go_wp2_with fail
  go_loopw [9] (fun i wr => ∃ j : Nat, i = .int .i64 j ∧ j ≤ n ∧ l.all sesB = (l.drop j).all sesB ∧ Ext w wr) (fun i _ => n - (intOf i).toNat)
  case atStart => exact ⟨0, rfl, by omega, rfl, Ext.refl w⟩
  case round =>
    obtain ⟨j, rfl, hj, hf, hx⟩ := hrel
    by_cases hjn : j < n
    · obtain ⟨bb, off, rfl, hlt, hc⟩ := (h.ext hx).at_ hjn
      have hok : CV.Ok (l[j]'(by omega)) w := h.ok (l[j]'(by omega)) (List.getElem_mem _)
      rw [List.drop_eq_getElem_cons (show j < l.length by omega), List.all_cons] at hf
      generalize l[j]'(by omega) = f at *
      have c0 : wr.cell? ⟨bb, off + j * 4, none⟩ = some (.int .i64 f.client) := hc 0 (by omega)
      have c1 : wr.cell? ⟨bb, off + j * 4 + 1, none⟩ = some (.int .i64 f.seq) := hc 1 (by omega)
      have c2 : wr.cell? ⟨bb, off + j * 4 + 2, none⟩ = some (.int .i64 f.code) := hc 2 (by omega)
      have c3 : wr.cell? ⟨bb, off + j * 4 + 3, none⟩ = some (.int .i64 f.n) := hc 3 (by omega)
      clear hc
      rcases hb : sesB f with _ | _
      · rw [hb, Bool.false_and] at hf
        have HF := Lib.hid hf
        have HW := Lib.hid (fun w => st_May1 f (hok.u2) false hb w)
        obtain ⟨a, b, c, d⟩ := f
        dsimp only at c0 c1 c2 c3
        have xa : Ext wr (wr.alloc (.cells #[.int .i64 a, .int .i64 b, .int .i64 c, .int .i64 d] 63)) := (Ext.refl wr).alloc _
        clear hf hb hok
        go_wp2_with (first
          | (refine wpList_named 63 (by rfl) ?_)
          | (go_at_call 63; refine (HW.out _).mono ?_; rintro e w1 ⟨rfl, yw1⟩))
        go_ret
        exact ⟨by rw [HF.out] <;> rfl, (hx.trans xa).trans yw1⟩
      · rw [hb, Bool.true_and] at hf
        have HF := Lib.hid hf
        have HW := Lib.hid (fun w => st_May1 f (hok.u2) true hb w)
        obtain ⟨a, b, c, d⟩ := f
        dsimp only at c0 c1 c2 c3
        have xa : Ext wr (wr.alloc (.cells #[.int .i64 a, .int .i64 b, .int .i64 c, .int .i64 d] 63)) := (Ext.refl wr).alloc _
        clear hf hb hok
        go_wp2_with (first
          | (refine wpList_named 63 (by rfl) ?_)
          | (go_at_call 63; refine (HW.out _).mono ?_; rintro e w1 ⟨rfl, yw1⟩))
        go_roundw
        case rel => exact ⟨j + 1, val_int (by omega), by omega, HF.out, (hx.trans xa).trans yw1⟩
        case measure => simp [intOf]; omega
    · obtain rfl : n = j := by omega
      rw [List.drop_of_length_le (by omega), List.all_nil] at hf
      have H1 := Lib.hid hf
      clear hf
      go_wp2
      go_ret
      exact ⟨by rw [H1.out] <;> rfl, hx⟩

set_option maxRecDepth 100000 in
set_option maxHeartbeats 800000 in
theorem st_risingOpen (A : Option Addr) (n c : Nat) (l : List OV) (most : Int) (w : World) (h : Ts w A n l) (hn : n ≤ 1000000) (hm : most ≤ 1048576) :
    Calls Tryz.prog 64 #[.slice A n c, .int .i64 most, .func (.func 65) #[] #[]] w fun e w' => e = .returned (.bool (risB OV.set most 0 l)) ∧ Ext w w' := by
  have hlen := h.len
  go_enter Tryz.func64, Tryz.ntmps64
  go_wp2_with fail
  go_loopw [7, 12] (fun q i wr => ∃ (j : Nat) (ah : Int), i = .int .i64 j ∧ q = .int .i64 ah ∧ 0 ≤ ah ∧ ah ≤ 1048576 ∧ j ≤ n ∧ risB OV.set most 0 l = risB OV.set most ah (l.drop j) ∧ Ext w wr) (fun _ i _ => n - (intOf i).toNat)
  case atStart => exact ⟨0, 0, rfl, rfl, by omega, by omega, by omega, rfl, Ext.refl w⟩
  case round =>
    obtain ⟨j, ah, rfl, rfl, ha0, ha1, hj, hf, hx⟩ := hrel
    by_cases hjn : j < n
    · obtain ⟨bb, off, rfl, hlt, hc⟩ := (h.ext hx).at_ hjn
      rw [List.drop_eq_getElem_cons (show j < l.length by omega)] at hf
      generalize l[j]'(by omega) = f at *
      have c0 : wr.cell? ⟨bb, off + j * 2, none⟩ = some (.int .i64 f.set) := hc 0 (by omega)
      have c1 : wr.cell? ⟨bb, off + j * 2 + 1, none⟩ = some (.int .i64 f.client) := hc 1 (by omega)
      clear hc
      obtain ⟨a, b⟩ := f
      rw [risB_cons] at hf
      dsimp only at hf c0 c1
      have xa : Ext wr (wr.alloc (.cells #[.int .i64 a, .int .i64 b] 65)) := (Ext.refl wr).alloc _
      have hB := Blk.new wr 65 [.int .i64 a, .int .i64 b]
      have hI := fun h1 h2 => (inI_t (n := a) (lo := ah + 1) (hi := most) h1 h2)
      rcases hb : inI a (ah + 1) most with _ | _
      · rw [hb, Bool.false_and] at hf
        have HF := Lib.hid hf
        have HW := Lib.hid (fun w => st_within a (ah + 1) most false hb w)
        clear hf hb hI hB
        go_wp2_with (first
          | (refine wpList_named 65 (by rfl) ?_)
          | (go_at_call 65; refine (st_setOf ⟨a, b⟩ _).mono ?_; rintro e w1 ⟨rfl, yw1⟩)
          | (go_at_call 59; refine (HW.out _).mono ?_; rintro e w2 ⟨rfl, rfl⟩))
        go_ret
        exact ⟨by rw [HF.out] <;> rfl, (hx.trans xa).trans yw1⟩
      · rw [hb, Bool.true_and] at hf
        have HF := Lib.hid hf
        have HW := Lib.hid (fun w => st_within a (ah + 1) most true hb w)
        obtain ⟨hl, hh⟩ := inI_iff.1 hb
        have K1 : Hid (Calls Tryz.prog 65 #[.agg #[.int .i64 a, .int .i64 b]] (wr.alloc (.cells #[.int .i64 a, .int .i64 b] 65)) fun e w' => e = .returned (.int .i64 a) ∧ Ext (wr.alloc (.cells #[.int .i64 a, .int .i64 b] 65)) w') := Lib.hid (st_setOf ⟨a, b⟩ _)
        clear hf hb hI
        go_wp2_with (first
          | (refine wpList_named 65 (by rfl) ?_)
          | (go_at_call 65; ((with_reducible refine K1.out.mono ?_); rintro e w1 ⟨rfl, yw1⟩; have hB1 := hB.ext yw1; have d0 := hB1.cell 0; have d1 := hB1.cell 1; simp only [List.getElem?_cons_zero, List.getElem?_cons_succ] at d0 d1))
          | (go_at_call 65; refine (st_setOf ⟨a, b⟩ _).mono ?_; rintro e w3 ⟨rfl, yw3⟩)
          | (go_at_call 59; refine (HW.out _).mono ?_; rintro e w2 ⟨rfl, rfl⟩))
        go_roundw
        case rel => exact ⟨j + 1, a, val_int (by omega), rfl, by omega, by omega, by omega, HF.out, ((hx.trans xa).trans yw1).trans yw3⟩
        case measure => simp [intOf]; omega
    · obtain rfl : n = j := by omega
      rw [List.drop_of_length_le (by omega), risB_nil] at hf
      have H1 := Lib.hid hf
      clear hf
      go_wp2
      go_ret
      exact ⟨by rw [H1.out] <;> rfl, hx⟩

set_option maxRecDepth 100000 in
set_option maxHeartbeats 800000 in
theorem st_allOpen (A : Option Addr) (n c : Nat) (l : List OV) (w : World) (h : Ts w A n l) (hn : n ≤ 1000000) :
    Calls Tryz.prog 66 #[.slice A n c, .func (.func 67) #[] #[]] w fun e w' => e = .returned (.bool (l.all opnB)) ∧ Ext w w' := by
  have hlen := h.len
  go_enter Tryz.func66, Tryz.ntmps66
  go_wp2_with fail
  go_loopw [9] (fun i wr => ∃ j : Nat, i = .int .i64 j ∧ j ≤ n ∧ l.all opnB = (l.drop j).all opnB ∧ Ext w wr) (fun i _ => n - (intOf i).toNat)
  case atStart => exact ⟨0, rfl, by omega, rfl, Ext.refl w⟩
  case round =>
    obtain ⟨j, rfl, hj, hf, hx⟩ := hrel
    by_cases hjn : j < n
    · obtain ⟨bb, off, rfl, hlt, hc⟩ := (h.ext hx).at_ hjn
      have hok : OV.Ok (l[j]'(by omega)) w := h.ok (l[j]'(by omega)) (List.getElem_mem _)
      rw [List.drop_eq_getElem_cons (show j < l.length by omega), List.all_cons] at hf
      generalize l[j]'(by omega) = f at *
      have c0 : wr.cell? ⟨bb, off + j * 2, none⟩ = some (.int .i64 f.set) := hc 0 (by omega)
      have c1 : wr.cell? ⟨bb, off + j * 2 + 1, none⟩ = some (.int .i64 f.client) := hc 1 (by omega)
      clear hc
      rcases hb : opnB f with _ | _
      · rw [hb, Bool.false_and] at hf
        have HF := Lib.hid hf
        have HW := Lib.hid (fun w => st_May2 f false hb w)
        obtain ⟨a, b⟩ := f
        dsimp only at c0 c1
        have xa : Ext wr (wr.alloc (.cells #[.int .i64 a, .int .i64 b] 65)) := (Ext.refl wr).alloc _
        clear hf hb hok
        go_wp2_with (first
          | (refine wpList_named 67 (by rfl) ?_)
          | (go_at_call 67; refine (HW.out _).mono ?_; rintro e w1 ⟨rfl, yw1⟩))
        go_ret
        exact ⟨by rw [HF.out] <;> rfl, (hx.trans xa).trans yw1⟩
      · rw [hb, Bool.true_and] at hf
        have HF := Lib.hid hf
        have HW := Lib.hid (fun w => st_May2 f true hb w)
        obtain ⟨a, b⟩ := f
        dsimp only at c0 c1
        have xa : Ext wr (wr.alloc (.cells #[.int .i64 a, .int .i64 b] 65)) := (Ext.refl wr).alloc _
        clear hf hb hok
        go_wp2_with (first
          | (refine wpList_named 67 (by rfl) ?_)
          | (go_at_call 67; refine (HW.out _).mono ?_; rintro e w1 ⟨rfl, yw1⟩))
        go_roundw
        case rel => exact ⟨j + 1, val_int (by omega), by omega, HF.out, (hx.trans xa).trans yw1⟩
        case measure => simp [intOf]; omega
    · obtain rfl : n = j := by omega
      rw [List.drop_of_length_le (by omega), List.all_nil] at hf
      have H1 := Lib.hid hf
      clear hf
      go_wp2
      go_ret
      exact ⟨by rw [H1.out] <;> rfl, hx⟩

set_option maxRecDepth 100000 in
set_option maxHeartbeats 800000 in
theorem st_risingSnap (A : Option Addr) (n c : Nat) (l : List NV) (most : Int) (w : World) (h : Ts w A n l) (hn : n ≤ 1000000) (hm : most ≤ 1048576) :
    Calls Tryz.prog 90 #[.slice A n c, .int .i64 most, .func (.func 91) #[] #[]] w fun e w' => e = .returned (.bool (risB NV.id most 0 l)) ∧ Ext w w' := by
  have hlen := h.len
  go_enter Tryz.func90, Tryz.ntmps90
  go_wp2_with fail
  go_loopw [7, 12] (fun q i wr => ∃ (j : Nat) (ah : Int), i = .int .i64 j ∧ q = .int .i64 ah ∧ 0 ≤ ah ∧ ah ≤ 1048576 ∧ j ≤ n ∧ risB NV.id most 0 l = risB NV.id most ah (l.drop j) ∧ Ext w wr) (fun _ i _ => n - (intOf i).toNat)
  case atStart => exact ⟨0, 0, rfl, rfl, by omega, by omega, by omega, rfl, Ext.refl w⟩
  case round =>
    obtain ⟨j, ah, rfl, rfl, ha0, ha1, hj, hf, hx⟩ := hrel
    by_cases hjn : j < n
    · obtain ⟨bb, off, rfl, hlt, hc⟩ := (h.ext hx).at_ hjn
      rw [List.drop_eq_getElem_cons (show j < l.length by omega)] at hf
      generalize l[j]'(by omega) = f at *
      have c0 : wr.cell? ⟨bb, off + j * 5, none⟩ = some (.int .i64 f.id) := hc 0 (by omega)
      have c1 : wr.cell? ⟨bb, off + j * 5 + 1, none⟩ = some (.int .i64 f.set) := hc 1 (by omega)
      have c2 : wr.cell? ⟨bb, off + j * 5 + 2, none⟩ = some (.slice f.A f.len f.cap) := hc 2 (by omega)
      have c3 : wr.cell? ⟨bb, off + j * 5 + 3, none⟩ = some (.bool f.held) := hc 3 (by omega)
      have c4 : wr.cell? ⟨bb, off + j * 5 + 4, none⟩ = some (.string f.tag) := hc 4 (by omega)
      clear hc
      obtain ⟨a, b, A, ln, cp, ch, hd, tg⟩ := f
      rw [risB_cons] at hf
      dsimp only at hf c0 c1 c2 c3 c4
      have xa : Ext wr (wr.alloc (.cells #[.int .i64 a, .int .i64 b, .slice A ln cp, .bool hd, .string tg] 70)) := (Ext.refl wr).alloc _
      have hB := Blk.new wr 70 [.int .i64 a, .int .i64 b, .slice A ln cp, .bool hd, .string tg]
      have hI := fun h1 h2 => (inI_t (n := a) (lo := ah + 1) (hi := most) h1 h2)
      rcases hb : inI a (ah + 1) most with _ | _
      · rw [hb, Bool.false_and] at hf
        have HF := Lib.hid hf
        have HW := Lib.hid (fun w => st_within a (ah + 1) most false hb w)
        clear hf hb hI hB
        go_wp2_with (first
          | (refine wpList_named 91 (by rfl) ?_)
          | (go_at_call 91; refine (st_idOf ⟨a, b, A, ln, cp, ch, hd, tg⟩ _).mono ?_; rintro e w1 ⟨rfl, yw1⟩)
          | (go_at_call 59; refine (HW.out _).mono ?_; rintro e w2 ⟨rfl, rfl⟩))
        go_ret
        exact ⟨by rw [HF.out] <;> rfl, (hx.trans xa).trans yw1⟩
      · rw [hb, Bool.true_and] at hf
        have HF := Lib.hid hf
        have HW := Lib.hid (fun w => st_within a (ah + 1) most true hb w)
        obtain ⟨hl, hh⟩ := inI_iff.1 hb
        have K1 : Hid (Calls Tryz.prog 91 #[.agg #[.int .i64 a, .int .i64 b, .slice A ln cp, .bool hd, .string tg]] (wr.alloc (.cells #[.int .i64 a, .int .i64 b, .slice A ln cp, .bool hd, .string tg] 70)) fun e w' => e = .returned (.int .i64 a) ∧ Ext (wr.alloc (.cells #[.int .i64 a, .int .i64 b, .slice A ln cp, .bool hd, .string tg] 70)) w') := Lib.hid (st_idOf ⟨a, b, A, ln, cp, ch, hd, tg⟩ _)
        clear hf hb hI
        go_wp2_with (first
          | (refine wpList_named 91 (by rfl) ?_)
          | (go_at_call 91; ((with_reducible refine K1.out.mono ?_); rintro e w1 ⟨rfl, yw1⟩; have hB1 := hB.ext yw1; have d0 := hB1.cell 0; have d1 := hB1.cell 1; have d2 := hB1.cell 2; have d3 := hB1.cell 3; have d4 := hB1.cell 4; simp only [List.getElem?_cons_zero, List.getElem?_cons_succ] at d0 d1 d2 d3 d4))
          | (go_at_call 91; refine (st_idOf ⟨a, b, A, ln, cp, ch, hd, tg⟩ _).mono ?_; rintro e w3 ⟨rfl, yw3⟩)
          | (go_at_call 59; refine (HW.out _).mono ?_; rintro e w2 ⟨rfl, rfl⟩))
        go_roundw
        case rel => exact ⟨j + 1, a, val_int (by omega), rfl, by omega, by omega, by omega, HF.out, ((hx.trans xa).trans yw1).trans yw3⟩
        case measure => simp [intOf]; omega
    · obtain rfl : n = j := by omega
      rw [List.drop_of_length_le (by omega), risB_nil] at hf
      have H1 := Lib.hid hf
      clear hf
      go_wp2
      go_ret
      exact ⟨by rw [H1.out] <;> rfl, hx⟩

end Go.Proofs.YtiildgoaiookhaaGreat

/- The walk of less of layer 7's laws. (Printed by wip/tools/stless.py.) -/
namespace Go.Proofs.YtiildgoaiookhaaGreat
open Go.RowKit

/-- a snapshot with at most 12 chunks and 40 bytes of text -/
def cutN (f : NV) : NV := ⟨f.id, f.set, f.A, min f.len 12, f.cap, f.ch.take 12, f.held, if 40 < f.tag.size then f.tag.extract 0 40 else f.tag⟩
theorem ext40 (s : ByteArray) (h : 40 < s.size) : (s.extract 0 40).size = 40 := by
  rw [ByteArray.size_extract]; omega
theorem cutN_ok {f : NV} {w : World} (h : f.Ok w) : (cutN f).Ok w := by
  have hl := h.cs.len
  refine ⟨h.u0, h.u1, ?_, ?_, h.cap, fun x hx => h.uc x (List.mem_of_mem_take hx), ?_⟩
  · unfold cutN
    dsimp only
    by_cases h12 : 12 < f.len
    · rw [show min f.len 12 = 12 by omega]; exact h.cs.upto (by omega)
    · rw [show min f.len 12 = f.len by omega, List.take_of_length_le (by omega)]; exact h.cs
  · have := h.le; unfold cutN; dsimp only; omega
  · have := h.ut
    unfold cutN; dsimp only
    split
    · rename_i h40; rw [ext40 _ h40]; unfold maxLen; omega
    · exact this
theorem cutN_len (f : NV) : (cutN f).len ≤ 12 := by unfold cutN; dsimp only; omega
theorem cutN_tag (f : NV) : (cutN f).tag.size ≤ 40 := by
  unfold cutN; dsimp only
  split
  · rename_i h; rw [ext40 _ h]; exact Nat.le_refl _
  · omega
def cutSn (l : List NV) : List NV := (l.take 20).map cutN
theorem cutSn_len (l : List NV) : (cutSn l).length = min 20 l.length := by simp [cutSn]
theorem cutSn_snoc (l : List NV) (j : Nat) (h : j < l.length) (hm : j < 20) : (cutSn l).take (j + 1) = (cutSn l).take j ++ [cutN l[j]] := by
  have hl : j < (cutSn l).length := by rw [cutSn_len]; omega
  rw [List.take_succ_eq_append_getElem hl]
  congr 2
  simp [cutSn]
/-- a catalogue of at most 20 clients, open backups and snapshots -/
def lessK (s : KV) (A : Option Addr) (c : Nat) : KV := ⟨s.ver, s.next, s.keep, s.quota, s.A1, min s.n1 20, s.c1, s.ses.take 20, s.A2, min s.n2 20, s.c2, s.ops.take 20, A, min 20 s.n3, c, cutSn s.sns⟩
theorem ncells_one (a b : Int) (A : Option Addr) (ln cp : Nat) (hd : Bool) (tg : ByteArray) : ∀ u ∈ [Value.int .i64 a, .int .i64 b, .slice A ln cp, .bool hd, .string tg], u.oneCell' = true := by
  intro u hu
  simp only [List.mem_cons, List.not_mem_nil, or_false] at hu
  rcases hu with rfl | rfl | rfl | rfl | rfl <;> rfl
theorem own_cap {w : World} {base : Nat} {e : TypeId} {size n c : Nat} {A : Option Addr} {xs : List Value} (h : w.ownsRow base e size (.slice A n c) n xs) : n ≤ c ∧ c ≤ maxLen := by
  rcases h.2 with ⟨hv, h0⟩ | ⟨g, cap, cur, hv, hb, hg, hc, hm, _⟩
  · injection hv with _ _ hc; subst hc; exact ⟨by omega, by unfold maxLen; omega⟩
  · injection hv with _ _ hc'; subst hc'; exact ⟨hc, hm⟩
theorem Ts.cut {α : Type} {size : Nat} [T : Thing α size] {w : World} {A : Option Addr} {n : Nat} {l : List α} (h : Ts w A n l) (k : Nat) : Ts w A (min n k) (l.take k) := by
  have := h.upto (hi := min n k) (by omega)
  have e : l.take (min n k) = l.take k := by
    rw [← h.len]
    by_cases hk : k ≤ l.length
    · rw [show min l.length k = k by omega]
    · rw [show min l.length k = l.length by omega, List.take_of_length_le (Nat.le_refl _), List.take_of_length_le (by omega)]
  rw [e] at this
  exact this

theorem lessK_ok {s : KV} {w w' : World} (hs : s.Ok w) (hx : Ext w w') {B : Nat} {A : Option Addr} {c : Nat} (ho : w'.ownsRow B 70 5 (.slice A (min 20 s.n3) c) (min 20 s.n3) (thingsOf (cutSn s.sns))) : (lessK s A c).Ok w' := by
  have hc := own_cap ho
  have l1 := hs.le1
  have l2 := hs.le2
  refine ⟨hs.u0, hs.u1, hs.u2, hs.u3, (hs.t1.cut 20).ext hx, by dsimp only [lessK]; omega, hs.cap1, (hs.t2.cut 20).ext hx, by dsimp only [lessK]; omega, hs.cap2, ?_, hc.1, hc.2⟩
  exact Ts.of_own ho (fun f hf => by
    obtain ⟨g, hg, rfl⟩ := List.mem_map.1 hf
    exact (cutN_ok (hs.t3.ok g (List.mem_of_mem_take hg))).ext hx) (by omega)
end Go.Proofs.YtiildgoaiookhaaGreat

/- The walks of Client, Opened, Snap and Kept of a catalogue. (Printed by wip/tools/stfind.py.) -/
namespace Go.Proofs.YtiildgoaiookhaaGreat
open Go.RowKit

end Go.Proofs.YtiildgoaiookhaaGreat

/- The walks of Kept of a catalogue. -/
namespace Go.Proofs.YtiildgoaiookhaaGreat
open Go.RowKit

theorem cut_things {α : Type} {size : Nat} [T : Thing α size] {P : Program} {t e : TypeId} {bytes : Nat} (S : SliceT P t e size bytes) (A : Option Addr) {n c lo : Nat} (hlo : lo ≤ n) (hnc : n ≤ c) (x : Int) (hx : x = lo) :
    ∃ A' c', n - lo ≤ c' ∧ (∀ w, (Instr.slice t (.slice A n c) (some (.int .i64 x)) none none).run P w = .ok (.slice A' (n - lo) c') w) ∧ ∀ w (l : List α), Ts w A n l → Ts w A' (n - lo) (l.drop lo) := by
  obtain ⟨A', c', h1, h2, h3⟩ := cut_from S A hlo hnc x hx
  exact ⟨A', c', h1, h2, fun w l h => ⟨by have := h3 w _ h.rd; rwa [← thingsOf_drop] at this, fun f hf => h.ok f (List.mem_of_mem_drop hf), h.pos⟩⟩

/-- how many are of a set -/
def cntS (S : Int) (l : List NV) : Nat := (l.filter (fun y => y.set == S)).length
theorem cntS_cons (S : Int) (f : NV) (l : List NV) : cntS S (f :: l) = (if f.set = S then 1 else 0) + cntS S l := by
  unfold cntS
  rw [List.filter_cons]
  by_cases h : f.set = S
  · simp [h]; omega
  · simp [h]
theorem cntS_snoc (S : Int) (l : List NV) (j : Nat) (h : j < l.length) : cntS S (l.take (j + 1)) = cntS S (l.take j) + if l[j].set = S then 1 else 0 := by
  unfold cntS
  rw [List.take_succ_eq_append_getElem h, List.filter_append, List.length_append]
  congr 1
  by_cases e : l[j].set = S <;> simp [e]
theorem cntS_le (S : Int) (l : List NV) : cntS S l ≤ l.length := List.length_filter_le _ _
/-- is a snapshot among the last ones of its set -/
def keptB (keep : Int) (l : List NV) (at_ : Int) : Bool :=
  if h : 0 ≤ at_ ∧ at_.toNat < l.length then decide ((cntS (l[at_.toNat]'h.2).set (l.drop (at_.toNat + 1)) : Int) < keep) else false
theorem keptB_at (keep : Int) (l : List NV) (i : Nat) (h : i < l.length) : keptB keep l i = decide ((cntS l[i].set (l.drop (i + 1)) : Int) < keep) := by
  unfold keptB
  rw [dif_pos ⟨by omega, by simpa using h⟩]
  simp
theorem keptB_out (keep : Int) (l : List NV) (at_ : Int) (h : at_ < 0 ∨ (l.length : Int) ≤ at_) : keptB keep l at_ = false := by
  unfold keptB
  rw [dif_neg (by omega)]

end Go.Proofs.YtiildgoaiookhaaGreat

/- The walk of forms.all: what records may have. -/
namespace Go.Proofs.YtiildgoaiookhaaGreat
open Go.RowKit

set_option maxRecDepth 100000 in
theorem forms_number (num since : Int) (w : World) : Calls Tryz.prog 97 #[.int .i64 num, .int .i64 since] w fun e w' => e = .returned (.agg #[.int .i64 num, .int .i64 0, .int .i64 since, .bool false, .bool false]) ∧ Ext w w' := by
  go_enter Tryz.func97, Tryz.ntmps97
  go_wp2
  refine bodyPost_ret (v := .agg #[.int .i64 num, .int .i64 0, .int .i64 since, .bool false, .bool false]) (by simp [results, Tryz.results97, go_sem]) rfl ⟨rfl, ?_⟩
  repeat (refine Ext.setCell ?_ (by simp) _)
  exact (Ext.refl w).alloc _

set_option maxRecDepth 100000 in
theorem forms_bytes (num since : Int) (w : World) : Calls Tryz.prog 98 #[.int .i64 num, .int .i64 since] w fun e w' => e = .returned (.agg #[.int .i64 num, .int .i64 2, .int .i64 since, .bool false, .bool false]) ∧ Ext w w' := by
  go_enter Tryz.func98, Tryz.ntmps98
  go_wp2
  refine bodyPost_ret (v := .agg #[.int .i64 num, .int .i64 2, .int .i64 since, .bool false, .bool false]) (by simp [results, Tryz.results98, go_sem]) rfl ⟨rfl, ?_⟩
  repeat (refine Ext.setCell ?_ (by simp) _)
  exact (Ext.refl w).alloc _

set_option maxRecDepth 100000 in
theorem forms_need (a b c : Int) (d e : Bool) (w : World) : Calls Tryz.prog 99 #[.agg #[.int .i64 a, .int .i64 b, .int .i64 c, .bool d, .bool e]] w fun r w' => r = .returned (.agg #[.int .i64 a, .int .i64 b, .int .i64 c, .bool true, .bool e]) ∧ Ext w w' := by
  go_enter Tryz.func99, Tryz.ntmps99
  go_wp2
  refine bodyPost_ret (v := .agg #[.int .i64 a, .int .i64 b, .int .i64 c, .bool true, .bool e]) (by simp [results, Tryz.results99, go_sem]) rfl ⟨rfl, ?_⟩
  repeat (refine Ext.setCell ?_ (by simp) _)
  exact ((Ext.refl w).alloc _).alloc _

set_option maxRecDepth 100000 in
theorem forms_many (a b c : Int) (d e : Bool) (w : World) : Calls Tryz.prog 100 #[.agg #[.int .i64 a, .int .i64 b, .int .i64 c, .bool d, .bool e]] w fun r w' => r = .returned (.agg #[.int .i64 a, .int .i64 b, .int .i64 c, .bool d, .bool true]) ∧ Ext w w' := by
  go_enter Tryz.func100, Tryz.ntmps100
  go_wp2
  refine bodyPost_ret (v := .agg #[.int .i64 a, .int .i64 b, .int .i64 c, .bool d, .bool true]) (by simp [results, Tryz.results100, go_sem]) rfl ⟨rfl, ?_⟩
  repeat (refine Ext.setCell ?_ (by simp) _)
  exact ((Ext.refl w).alloc _).alloc _

set_option maxRecDepth 100000 in
set_option maxHeartbeats 3200000 in
theorem forms_all (kind : Int) (w : World) : Calls Tryz.prog 75 #[.int .i64 kind] w fun e w' => ∃ v, e = .returned v ∧ w'.ownsRow w.heap.size 92 5 v (formOf kind).length (specOf (formOf kind)) ∧ Ext w w' := by
  have hI := MapIs.made 92 w
  have ZV : Hid (∀ w, (zeroValue 87).run Tryz.prog w = .ok (.slice none 0 0) w) := Lib.hid (fun w => by kernel_rfl)
  go_enter Tryz.func75, Tryz.ntmps75
  simp only [List.append_eq, List.cons_append, List.nil_append]
  go_wp2_with (refine wpList_makeMap (by rfl) (by rfl) ?_; intro ops R hR; have HR := Lib.hid hR; clear hR)
  have hR := HR.out
  clear HR
  subst hR
  refine wpList_hide 20 ?_
  intro ops R hR
  have HR := Lib.hid hR; clear hR
  simp only [List.take_succ_cons, List.take_zero, List.cons_append, List.nil_append]
  go_wp2_with (first
    | (refine wpList_named 97 (by rfl) ?_)
    | (refine wpList_named 98 (by rfl) ?_)
    | (refine wpList_named 99 (by rfl) ?_)
    | (refine wpList_named 100 (by rfl) ?_)
    | (go_at_call 97; refine (forms_number _ _ _).mono ?_; rintro e w9 ⟨rfl, x9⟩; replace hI := hI.call x9; clear x9)
    | (go_at_call 98; refine (forms_bytes _ _ _).mono ?_; rintro e w9 ⟨rfl, x9⟩; replace hI := hI.call x9; clear x9)
    | (go_at_call 99; refine (forms_need _ _ _ _ _ _).mono ?_; rintro e w9 ⟨rfl, x9⟩; replace hI := hI.call x9; clear x9)
    | (go_at_call 100; refine (forms_many _ _ _ _ _ _).mono ?_; rintro e w9 ⟨rfl, x9⟩; replace hI := hI.call x9; clear x9)
    | (refine wpList_insert Tryz.underlying133 Tryz.underlying3 hI 1 [nN 1, nS 2 1, nS 3 1, nS 4 1, nS 5 1, nS 6 1, bS 7 1, bS 8 3] _ (by rfl) (by decide) 8 (by rfl) (by rfl) _ _ _ (by rfl) (by rfl) (by rfl) (by rfl) ?_; clear hI; intro w9 hI))
  have hR := HR.out
  clear HR
  simp only [List.drop_succ_cons, List.drop_zero] at hR
  subst hR
  refine wpList_hide 18 ?_
  intro ops R hR
  have HR := Lib.hid hR; clear hR
  simp only [List.take_succ_cons, List.take_zero, List.cons_append, List.nil_append]
  go_wp2_with (first
    | (refine wpList_named 97 (by rfl) ?_)
    | (refine wpList_named 98 (by rfl) ?_)
    | (refine wpList_named 99 (by rfl) ?_)
    | (refine wpList_named 100 (by rfl) ?_)
    | (go_at_call 97; refine (forms_number _ _ _).mono ?_; rintro e w9 ⟨rfl, x9⟩; replace hI := hI.call x9; clear x9)
    | (go_at_call 98; refine (forms_bytes _ _ _).mono ?_; rintro e w9 ⟨rfl, x9⟩; replace hI := hI.call x9; clear x9)
    | (go_at_call 99; refine (forms_need _ _ _ _ _ _).mono ?_; rintro e w9 ⟨rfl, x9⟩; replace hI := hI.call x9; clear x9)
    | (go_at_call 100; refine (forms_many _ _ _ _ _ _).mono ?_; rintro e w9 ⟨rfl, x9⟩; replace hI := hI.call x9; clear x9)
    | (refine wpList_insert Tryz.underlying133 Tryz.underlying3 hI 2 [nN 1, nN 2, ⟨3, 2, 1, true, false⟩, nS 4 2, bS 5 3] _ (by rfl) (by decide) 5 (by rfl) (by rfl) _ _ _ (by rfl) (by rfl) (by rfl) (by rfl) ?_; clear hI; intro w9 hI))
  have hR := HR.out
  clear HR
  simp only [List.drop_succ_cons, List.drop_zero] at hR
  subst hR
  refine wpList_hide 10 ?_
  intro ops R hR
  have HR := Lib.hid hR; clear hR
  simp only [List.take_succ_cons, List.take_zero, List.cons_append, List.nil_append]
  go_wp2_with (first
    | (refine wpList_named 97 (by rfl) ?_)
    | (refine wpList_named 98 (by rfl) ?_)
    | (refine wpList_named 99 (by rfl) ?_)
    | (refine wpList_named 100 (by rfl) ?_)
    | (go_at_call 97; refine (forms_number _ _ _).mono ?_; rintro e w9 ⟨rfl, x9⟩; replace hI := hI.call x9; clear x9)
    | (go_at_call 98; refine (forms_bytes _ _ _).mono ?_; rintro e w9 ⟨rfl, x9⟩; replace hI := hI.call x9; clear x9)
    | (go_at_call 99; refine (forms_need _ _ _ _ _ _).mono ?_; rintro e w9 ⟨rfl, x9⟩; replace hI := hI.call x9; clear x9)
    | (go_at_call 100; refine (forms_many _ _ _ _ _ _).mono ?_; rintro e w9 ⟨rfl, x9⟩; replace hI := hI.call x9; clear x9)
    | (refine wpList_insert Tryz.underlying133 Tryz.underlying3 hI 3 [nN 1, nN 2] _ (by rfl) (by decide) 2 (by rfl) (by rfl) _ _ _ (by rfl) (by rfl) (by rfl) (by rfl) ?_; clear hI; intro w9 hI))
  have hR := HR.out
  clear HR
  simp only [List.drop_succ_cons, List.drop_zero] at hR
  subst hR
  refine wpList_hide 12 ?_
  intro ops R hR
  have HR := Lib.hid hR; clear hR
  simp only [List.take_succ_cons, List.take_zero, List.cons_append, List.nil_append]
  go_wp2_with (first
    | (refine wpList_named 97 (by rfl) ?_)
    | (refine wpList_named 98 (by rfl) ?_)
    | (refine wpList_named 99 (by rfl) ?_)
    | (refine wpList_named 100 (by rfl) ?_)
    | (go_at_call 97; refine (forms_number _ _ _).mono ?_; rintro e w9 ⟨rfl, x9⟩; replace hI := hI.call x9; clear x9)
    | (go_at_call 98; refine (forms_bytes _ _ _).mono ?_; rintro e w9 ⟨rfl, x9⟩; replace hI := hI.call x9; clear x9)
    | (go_at_call 99; refine (forms_need _ _ _ _ _ _).mono ?_; rintro e w9 ⟨rfl, x9⟩; replace hI := hI.call x9; clear x9)
    | (go_at_call 100; refine (forms_many _ _ _ _ _ _).mono ?_; rintro e w9 ⟨rfl, x9⟩; replace hI := hI.call x9; clear x9)
    | (refine wpList_insert Tryz.underlying133 Tryz.underlying3 hI 4 [nN 1, nS 2 1, nS 3 1, nS 4 1] _ (by rfl) (by decide) 4 (by rfl) (by rfl) _ _ _ (by rfl) (by rfl) (by rfl) (by rfl) ?_; clear hI; intro w9 hI))
  have hR := HR.out
  clear HR
  simp only [List.drop_succ_cons, List.drop_zero] at hR
  subst hR
  refine wpList_hide 26 ?_
  intro ops R hR
  have HR := Lib.hid hR; clear hR
  simp only [List.take_succ_cons, List.take_zero, List.cons_append, List.nil_append]
  go_wp2_with (first
    | (refine wpList_named 97 (by rfl) ?_)
    | (refine wpList_named 98 (by rfl) ?_)
    | (refine wpList_named 99 (by rfl) ?_)
    | (refine wpList_named 100 (by rfl) ?_)
    | (go_at_call 97; refine (forms_number _ _ _).mono ?_; rintro e w9 ⟨rfl, x9⟩; replace hI := hI.call x9; clear x9)
    | (go_at_call 98; refine (forms_bytes _ _ _).mono ?_; rintro e w9 ⟨rfl, x9⟩; replace hI := hI.call x9; clear x9)
    | (go_at_call 99; refine (forms_need _ _ _ _ _ _).mono ?_; rintro e w9 ⟨rfl, x9⟩; replace hI := hI.call x9; clear x9)
    | (go_at_call 100; refine (forms_many _ _ _ _ _ _).mono ?_; rintro e w9 ⟨rfl, x9⟩; replace hI := hI.call x9; clear x9)
    | (refine wpList_insert Tryz.underlying133 Tryz.underlying3 hI 5 [nN 1, nN 2, nS 3 1, bM 4, bM 5, bM 6, nS 7 3] _ (by rfl) (by decide) 7 (by rfl) (by rfl) _ _ _ (by rfl) (by rfl) (by rfl) (by rfl) ?_; clear hI; intro w9 hI))
  have hR := HR.out
  clear HR
  simp only [List.drop_succ_cons, List.drop_zero] at hR
  subst hR
  refine wpList_hide 32 ?_
  intro ops R hR
  have HR := Lib.hid hR; clear hR
  simp only [List.take_succ_cons, List.take_zero, List.cons_append, List.nil_append]
  go_wp2_with (first
    | (refine wpList_named 97 (by rfl) ?_)
    | (refine wpList_named 98 (by rfl) ?_)
    | (refine wpList_named 99 (by rfl) ?_)
    | (refine wpList_named 100 (by rfl) ?_)
    | (go_at_call 97; refine (forms_number _ _ _).mono ?_; rintro e w9 ⟨rfl, x9⟩; replace hI := hI.call x9; clear x9)
    | (go_at_call 98; refine (forms_bytes _ _ _).mono ?_; rintro e w9 ⟨rfl, x9⟩; replace hI := hI.call x9; clear x9)
    | (go_at_call 99; refine (forms_need _ _ _ _ _ _).mono ?_; rintro e w9 ⟨rfl, x9⟩; replace hI := hI.call x9; clear x9)
    | (go_at_call 100; refine (forms_many _ _ _ _ _ _).mono ?_; rintro e w9 ⟨rfl, x9⟩; replace hI := hI.call x9; clear x9)
    | (refine wpList_insert Tryz.underlying133 Tryz.underlying3 hI 6 [nN 1, nN 2, nN 3, nN 4, nS 5 1, nS 6 1, nS 7 1, nS 8 1, nS 9 1, bM 10] _ (by rfl) (by decide) 10 (by rfl) (by rfl) _ _ _ (by rfl) (by rfl) (by rfl) (by rfl) ?_; clear hI; intro w9 hI))
  have hR := HR.out
  clear HR
  simp only [List.drop_succ_cons, List.drop_zero] at hR
  subst hR
  refine wpList_hide 8 ?_
  intro ops R hR
  have HR := Lib.hid hR; clear hR
  simp only [List.take_succ_cons, List.take_zero, List.cons_append, List.nil_append]
  go_wp2_with (first
    | (refine wpList_named 97 (by rfl) ?_)
    | (refine wpList_named 98 (by rfl) ?_)
    | (refine wpList_named 99 (by rfl) ?_)
    | (refine wpList_named 100 (by rfl) ?_)
    | (go_at_call 97; refine (forms_number _ _ _).mono ?_; rintro e w9 ⟨rfl, x9⟩; replace hI := hI.call x9; clear x9)
    | (go_at_call 98; refine (forms_bytes _ _ _).mono ?_; rintro e w9 ⟨rfl, x9⟩; replace hI := hI.call x9; clear x9)
    | (go_at_call 99; refine (forms_need _ _ _ _ _ _).mono ?_; rintro e w9 ⟨rfl, x9⟩; replace hI := hI.call x9; clear x9)
    | (go_at_call 100; refine (forms_many _ _ _ _ _ _).mono ?_; rintro e w9 ⟨rfl, x9⟩; replace hI := hI.call x9; clear x9)
    | (refine wpList_insert Tryz.underlying133 Tryz.underlying3 hI 7 [nN 1, bS 2 1] _ (by rfl) (by decide) 2 (by rfl) (by rfl) _ _ _ (by rfl) (by rfl) (by rfl) (by rfl) ?_; clear hI; intro w9 hI))
  have hR := HR.out
  clear HR
  simp only [List.drop_succ_cons, List.drop_zero] at hR
  subst hR
  go_wp2_with (refine wpList_look Tryz.underlying133 Tryz.underlying3 ZV.out hI (by decide) kind (by rfl) _ _ (by rfl) (by rfl) (by rfl) ?_; intro v hv)
  go_ret
  exact ⟨v, rfl, hv, hI.ext⟩
end Go.Proofs.YtiildgoaiookhaaGreat

/- The walks of forms.Specs and forms.Top. -/
namespace Go.Proofs.YtiildgoaiookhaaGreat
open Go.RowKit

theorem specT : SliceT Tryz.prog 87 92 5 32 := .mk' Tryz.underlying87 (z := .agg #[.int .i64 0, .int .i64 0, .int .i64 0, .bool false, .bool false]) (by kernel_rfl) rfl
theorem scells_one (a b c : Int) (d e : Bool) : ∀ u ∈ [Value.int .i64 a, .int .i64 b, .int .i64 c, .bool d, .bool e], u.oneCell' = true := by
  intro u hu
  simp only [List.mem_cons, List.not_mem_nil, or_false] at hu
  rcases hu with rfl | rfl | rfl | rfl | rfl <;> rfl

theorem filter_snoc {α : Type} (p : α → Bool) (l : List α) (j : Nat) (h : j < l.length) : (l.take (j + 1)).filter p = (l.take j).filter p ++ if p l[j] then [l[j]] else [] := by
  rw [List.take_succ_eq_append_getElem h, List.filter_append]
  congr 1
  simp only [List.filter_cons, List.filter_nil]
theorem topL_snoc (l : List SpV) (j : Nat) (h : j < l.length) : topL (l.take (j + 1)) = max (topL (l.take j)) l[j].num := by
  unfold topL; rw [List.take_succ_eq_append_getElem h, List.foldl_append]; rfl

theorem specL_len (kind v : Int) : (specL kind v).length ≤ 10 := by
  unfold specL; split
  · exact Nat.le_trans (List.length_filter_le _ _) (formOf_len kind)
  · simp
theorem formOf_num (kind : Int) : ∀ s ∈ formOf kind, s.num ≤ 10 := by
  rcases formOf_cases kind with ⟨_, h⟩ | rfl | rfl | rfl | rfl | rfl | rfl | rfl
  · rw [h]; simp
  all_goals decide
theorem specL_num (kind v : Int) : ∀ s ∈ specL kind v, s.num ≤ 10 := by
  unfold specL; split
  · intro s hs; exact formOf_num kind s (List.mem_filter.1 hs).1
  · simp
theorem topL_le {n : Nat} : ∀ (l : List SpV), (∀ s ∈ l, s.num ≤ n) → ∀ a, a ≤ n → l.foldl (fun a s => max a s.num) a ≤ n
  | [], _, a, h => h
  | s :: r, hl, a, h => by
    have := hl s (List.mem_cons_self ..)
    exact topL_le r (fun z hz => hl z (List.mem_cons_of_mem _ hz)) (max a s.num) (by omega)

set_option maxRecDepth 100000 in
set_option maxHeartbeats 800000 in
theorem forms_Specs (kind v : Int) (w : World) : Calls Tryz.prog 40 #[.int .i64 kind, .int .i64 v] w fun e w' => ∃ V, e = .returned V ∧ w'.ownsRow w.heap.size 92 5 V (specL kind v).length (specOf (specL kind v)) ∧ Ext w w' := by
  by_cases h1 : v < 1
  · rw [show specL kind v = [] by unfold specL; rw [if_neg (by omega)]]
    go_enter Tryz.func40, Tryz.ntmps40
    go_wp2
    go_ret
    exact ⟨_, rfl, World.ownsRow_nil _ _ _ _, Ext.refl w⟩
  · by_cases h2 : 3 < v
    · rw [show specL kind v = [] by unfold specL; rw [if_neg (by omega)]]
      go_enter Tryz.func40, Tryz.ntmps40
      go_wp2
      go_ret
      exact ⟨_, rfl, World.ownsRow_nil _ _ _ _, Ext.refl w⟩
    · rw [show specL kind v = (formOf kind).filter (fun s => decide ((s.since : Int) ≤ v)) by unfold specL; rw [if_pos (by omega)]]
      have HA := Lib.hid (forms_all kind w)
      have hl := formOf_len kind
      generalize formOf kind = F at *
      go_enter Tryz.func40, Tryz.ntmps40
      go_wp2_with fail
      refine HA.out.mono ?_
      rintro e w1 ⟨V, rfl, hown, x1⟩
      obtain ⟨A, c, rfl, _⟩ := own_form hown
      have hS := Ss.of_own hown
      clear hown HA
      generalize hN : F.length = N at *
      have HN := Lib.hid hN; clear hN
      have h0 := World.ownsRow_nil w1 w1.heap.size 92 5
      go_wp2
      go_loopw [5, 17] (fun acc i wr => ∃ j : Nat, i = .int .i64 j ∧ j ≤ N ∧ wr.ownsRow w1.heap.size 92 5 acc ((F.take j).filter (fun s => decide ((s.since : Int) ≤ v))).length (specOf ((F.take j).filter (fun s => decide ((s.since : Int) ≤ v)))) ∧ Ext w1 wr) (fun _ i _ => N - (intOf i).toNat)
      case atStart => exact ⟨0, rfl, by omega, by simpa [specOf] using h0, Ext.refl _⟩
      case round =>
        obtain ⟨j, rfl, hj, hown, hx⟩ := hrel
        by_cases hjn : j < N
        · obtain ⟨b, off, rfl, d0, d1, d2, d3, d4⟩ := (hS.ext hx).at_ hjn
          have hsn := filter_snoc (fun s : SpV => decide ((s.since : Int) ≤ v)) F j (by rw [HN.out]; exact hjn)
          have hle : ((F.take j).filter (fun s => decide ((s.since : Int) ≤ v))).length ≤ j := Nat.le_trans (List.length_filter_le _ _) (List.length_take_le _ _)
          generalize F[j]'(by rw [HN.out]; exact hjn) = f at *
          have Hsn := Lib.hid hsn; clear hsn
          have hszw := hx.size
          by_cases hs : (f.since : Int) ≤ v
          · go_wp2_with (at_builtin; refine wpList_app specT (by omega) _ rfl rfl rfl ((hown.alloc _).alloc _) rfl (rd_at5 _ (.int .i64 f.num) (.int .i64 f.wire) (.int .i64 f.since) (.bool f.need) (.bool f.many) _ _ (by simp)) (scells_one _ _ _ _ _) (by unfold maxLen; omega) (by omega) (by simp; omega) ?_; intro v1 w2 hown1 hg1 hat1)
            go_roundw
            case rel => exact ⟨j + 1, val_int (by omega), by omega, own_to hown1 (Nat.le_refl _) (by rw [Hsn.out]; simp [hs]) (by rw [Hsn.out, specOf_append]; simp [hs, specOf_one, SpV.cells]), Below.app ((hx.alloc _).alloc _) hg1 (by simp; omega) ((hown.alloc _).alloc _) (Nat.le_refl _)⟩
            case measure => simp [intOf]; omega
          · go_wp2
            go_roundw
            case rel => exact ⟨j + 1, val_int (by omega), by omega, own_to (hown.alloc _) (Nat.le_refl _) (by rw [Hsn.out]; simp [hs]) (by rw [Hsn.out, specOf_append]; simp [hs, specOf]), hx.alloc _⟩
            case measure => simp [intOf]; omega
        · obtain rfl : j = N := by omega
          go_wp2
          go_ret
          refine ⟨_, rfl, own_to hown (x1.size) (by rw [List.take_of_length_le (by rw [HN.out]; exact Nat.le_refl _)]) (by rw [List.take_of_length_le (by rw [HN.out]; exact Nat.le_refl _)]), x1.trans hx⟩

set_option maxRecDepth 100000 in
set_option maxHeartbeats 800000 in
theorem forms_Top (kind v : Int) (w : World) : Calls Tryz.prog 15 #[.int .i64 kind, .int .i64 v] w fun e w' => e = .returned (.int .i64 (topL (specL kind v))) ∧ Ext w w' := by
  have HA := Lib.hid (forms_Specs kind v w)
  have hl := specL_len kind v
  have hm := topL_le (specL kind v) (specL_num kind v)
  generalize specL kind v = F at *
  go_enter Tryz.func15, Tryz.ntmps15
  go_wp2_with fail
  refine HA.out.mono ?_
  rintro e w1 ⟨V, rfl, hown, x1⟩
  obtain ⟨A, c, rfl, _⟩ := own_form hown
  have hS := Ss.of_own hown
  clear hown HA hm
  generalize hN : F.length = N at *
  have HN := Lib.hid hN; clear hN
  go_wp2
  go_loopw [5, 12] (fun acc i wr => ∃ j : Nat, i = .int .i64 j ∧ j ≤ N ∧ acc = .int .i64 (topL (F.take j)) ∧ Ext w1 wr) (fun _ i _ => N - (intOf i).toNat)
  case atStart => exact ⟨0, rfl, by omega, rfl, Ext.refl _⟩
  case round =>
    obtain ⟨j, rfl, hj, rfl, hx⟩ := hrel
    by_cases hjn : j < N
    · obtain ⟨b, off, rfl, d0, d1, d2, d3, d4⟩ := (hS.ext hx).at_ hjn
      have hsn := topL_snoc F j (by rw [HN.out]; exact hjn)
      generalize F[j]'(by rw [HN.out]; exact hjn) = f at *
      have Hsn := Lib.hid hsn; clear hsn
      go_wp2
      go_outline
      go_roundw
      case rel => exact ⟨j + 1, val_int (by omega), by omega, by rw [Hsn.out]; exact val_int (by omega), hx.alloc _⟩
      case measure => simp [intOf]; omega
    · obtain rfl : j = N := by omega
      go_wp2
      go_ret
      exact ⟨by rw [List.take_of_length_le (by rw [HN.out]; exact Nat.le_refl _)]; rfl, x1.trans hx⟩
end Go.Proofs.YtiildgoaiookhaaGreat

/- The walk of less of layer 10's laws. (Turned from that of layer 7's.) -/
namespace Go.Proofs.YtiildgoaiookhaaGreat
open Go.RowKit

end Go.Proofs.YtiildgoaiookhaaGreat
