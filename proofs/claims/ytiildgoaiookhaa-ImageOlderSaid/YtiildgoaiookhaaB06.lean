/- Words and walks that the last text of this claim stands on: StB, StL, StF, StK. No condition. -/
import Derived.Test.YtiildgoaiookhaaB04
import Derived.Test.YtiildgoaiookhaaB05
import Derived.Test.YtiildgoaiookhaaB03
import Derived.Test.YtiildgoaiookhaaB01
/- The walks of place, rising and all of a catalogue. (Printed by wip/tools/stwalks.py.) -/
namespace Go.Proofs.Ytiildgoaiookhaa
open Go.RowKit

/-- the first place from j on of a thing of that key, -1 without one -/
def findAt {α : Type} (key : α → Int) (l : List α) (x : Int) (j : Nat) : Int :=
  match (l.drop j).findIdx? (fun e => key e == x) with
  | some i => ((j + i : Nat) : Int)
  | none => -1
section
variable {α : Type} {key : α → Int} {l : List α} {x : Int} {j : Nat}
theorem findAt_hit (h : j < l.length) (hk : key l[j] = x) : findAt key l x j = j := by
  unfold findAt
  rw [List.drop_eq_getElem_cons h, List.findIdx?_cons]
  simp [hk]
theorem findAt_miss (h : j < l.length) (hk : key l[j] ≠ x) : findAt key l x j = findAt key l x (j + 1) := by
  unfold findAt
  rw [List.drop_eq_getElem_cons h, List.findIdx?_cons]
  have : (key l[j] == x) = false := beq_eq_false_iff_ne.2 hk
  rw [this]
  rcases (l.drop (j + 1)).findIdx? (fun e => key e == x) with _ | i
  · rfl
  · simp; omega
theorem findAt_end (h : l.length ≤ j) : findAt key l x j = -1 := by
  unfold findAt
  rw [List.drop_of_length_le h]; rfl
theorem findAt_lo : -1 ≤ findAt key l x j := by
  unfold findAt; split <;> omega
theorem findAt_hi : findAt key l x j < l.length ∨ findAt key l x j = -1 := by
  unfold findAt
  split
  · rename_i i h
    left
    have := (List.findIdx?_eq_some_iff_getElem.1 h).1
    rw [List.length_drop] at this
    omega
  · exact .inr rfl
/-- do keys rise, each from a + 1 to most -/
def risB (key : α → Int) (most : Int) : Int → List α → Bool
  | _, [] => true
  | a, e :: r => inI (key e) (a + 1) most && risB key most (key e) r
theorem risB_nil (key : α → Int) (most a : Int) : risB key most a [] = true := rfl
theorem risB_cons (key : α → Int) (most a : Int) (e : α) (r : List α) : risB key most a (e :: r) = (inI (key e) (a + 1) most && risB key most (key e) r) := rfl
end

set_option maxRecDepth 100000 in
set_option maxHeartbeats 800000 in
theorem st_placeSess (A : Option Addr) (n c : Nat) (l : List CV) (x : Int) (w : World) (h : Ts w A n l) (hn : n ≤ 1000000) :
    Calls Try.prog 58 #[.slice A n c, .int .i64 x, .func (.func 44) #[] #[]] w fun e w' => e = .returned (.int .i64 (findAt CV.client l x 0)) ∧ Ext w w' := by
  have hlen := h.len
  go_enter Try.func58, Try.ntmps58
  go_wp2_with fail
  go_loopw [11] (fun i wr => ∃ j : Nat, i = .int .i64 j ∧ j ≤ n ∧ findAt CV.client l x 0 = findAt CV.client l x j ∧ Ext w wr) (fun i _ => n - (intOf i).toNat)
  case atStart => exact ⟨0, rfl, by omega, rfl, Ext.refl w⟩
  case round =>
    obtain ⟨j, rfl, hj, hf, hx⟩ := hrel
    have HF := Lib.hid hf; clear hf
    by_cases hjn : j < n
    · obtain ⟨bb, off, rfl, hlt, hc⟩ := (h.ext hx).at_ hjn
      have hjl : j < l.length := by omega
      have HH : Hid (l[j].client = x → findAt CV.client l x j = j) := Lib.hid (fun hk => findAt_hit hjl hk)
      have HM : Hid (l[j].client ≠ x → findAt CV.client l x j = findAt CV.client l x (j + 1)) := Lib.hid (fun hk => findAt_miss hjl hk)
      generalize l[j] = f at *
      have c0 : wr.cell? ⟨bb, off + j * 4, none⟩ = some (.int .i64 f.client) := hc 0 (by omega)
      have c1 : wr.cell? ⟨bb, off + j * 4 + 1, none⟩ = some (.int .i64 f.seq) := hc 1 (by omega)
      have c2 : wr.cell? ⟨bb, off + j * 4 + 2, none⟩ = some (.int .i64 f.code) := hc 2 (by omega)
      have c3 : wr.cell? ⟨bb, off + j * 4 + 3, none⟩ = some (.int .i64 f.n) := hc 3 (by omega)
      clear hc
      obtain ⟨a, b, c, d⟩ := f
      dsimp only at HH HM c0 c1 c2 c3
      have xa : Ext wr (wr.alloc (.cells #[.int .i64 a, .int .i64 b, .int .i64 c, .int .i64 d] 45)) := (Ext.refl wr).alloc _
      by_cases hk : a = x
      · have H1 := Lib.hid (HF.out.trans (HH.out hk))
        clear HH HM HF
        subst hk
        go_wp2_with (first
          | (refine wpList_named 44 (by rfl) ?_)
          | (go_at_call 44; refine (st_clientOf ⟨a, b, c, d⟩ _).mono ?_; rintro e w1 ⟨rfl, yw1⟩))
        go_ret
        exact ⟨by rw [H1.out] <;> rfl, (hx.trans xa).trans yw1⟩
      · have H1 := Lib.hid (HF.out.trans (HM.out hk))
        have hk' := beq_f hk
        clear HH HM HF hk
        go_wp2_with (first
          | (refine wpList_named 44 (by rfl) ?_)
          | (go_at_call 44; refine (st_clientOf ⟨a, b, c, d⟩ _).mono ?_; rintro e w1 ⟨rfl, yw1⟩))
        go_roundw
        case rel => exact ⟨j + 1, val_int (by omega), by omega, H1.out, (hx.trans xa).trans yw1⟩
        case measure => simp [intOf]; omega
    · obtain rfl : n = j := by omega
      have H1 := Lib.hid (HF.out.trans (findAt_end (by omega)))
      clear HF
      go_wp2
      go_ret
      exact ⟨by rw [H1.out] <;> rfl, hx⟩

set_option maxRecDepth 100000 in
set_option maxHeartbeats 800000 in
theorem st_risingSess (A : Option Addr) (n c : Nat) (l : List CV) (most : Int) (w : World) (h : Ts w A n l) (hn : n ≤ 1000000) (hm : most ≤ 1048576) :
    Calls Try.prog 43 #[.slice A n c, .int .i64 most, .func (.func 44) #[] #[]] w fun e w' => e = .returned (.bool (risB CV.client most 0 l)) ∧ Ext w w' := by
  have hlen := h.len
  go_enter Try.func43, Try.ntmps43
  go_wp2_with fail
  go_loopw [7, 12] (fun q i wr => ∃ (j : Nat) (ah : Int), i = .int .i64 j ∧ q = .int .i64 ah ∧ 0 ≤ ah ∧ ah ≤ 1048576 ∧ j ≤ n ∧ risB CV.client most 0 l = risB CV.client most ah (l.drop j) ∧ Ext w wr) (fun _ i _ => n - (intOf i).toNat)
  case atStart => exact ⟨0, 0, rfl, rfl, by omega, by omega, by omega, rfl, Ext.refl w⟩
  case round =>
    obtain ⟨j, ah, rfl, rfl, ha0, ha1, hj, hf, hx⟩ := hrel
    by_cases hjn : j < n
    · obtain ⟨bb, off, rfl, hlt, hc⟩ := (h.ext hx).at_ hjn
      rw [List.drop_eq_getElem_cons (show j < l.length by omega)] at hf
      generalize l[j]'(by omega) = f at *
      have c0 : wr.cell? ⟨bb, off + j * 4, none⟩ = some (.int .i64 f.client) := hc 0 (by omega)
      have c1 : wr.cell? ⟨bb, off + j * 4 + 1, none⟩ = some (.int .i64 f.seq) := hc 1 (by omega)
      have c2 : wr.cell? ⟨bb, off + j * 4 + 2, none⟩ = some (.int .i64 f.code) := hc 2 (by omega)
      have c3 : wr.cell? ⟨bb, off + j * 4 + 3, none⟩ = some (.int .i64 f.n) := hc 3 (by omega)
      clear hc
      obtain ⟨a, b, c, d⟩ := f
      rw [risB_cons] at hf
      dsimp only at hf c0 c1 c2 c3
      have xa : Ext wr (wr.alloc (.cells #[.int .i64 a, .int .i64 b, .int .i64 c, .int .i64 d] 45)) := (Ext.refl wr).alloc _
      have hB := Blk.new wr 45 [.int .i64 a, .int .i64 b, .int .i64 c, .int .i64 d]
      have hI := fun h1 h2 => (inI_t (n := a) (lo := ah + 1) (hi := most) h1 h2)
      rcases hb : inI a (ah + 1) most with _ | _
      · rw [hb, Bool.false_and] at hf
        have HF := Lib.hid hf
        have HW := Lib.hid (fun w => st_within a (ah + 1) most false hb w)
        clear hf hb hI hB
        go_wp2_with (first
          | (refine wpList_named 44 (by rfl) ?_)
          | (go_at_call 44; refine (st_clientOf ⟨a, b, c, d⟩ _).mono ?_; rintro e w1 ⟨rfl, yw1⟩)
          | (go_at_call 42; refine (HW.out _).mono ?_; rintro e w2 ⟨rfl, rfl⟩))
        go_ret
        exact ⟨by rw [HF.out] <;> rfl, (hx.trans xa).trans yw1⟩
      · rw [hb, Bool.true_and] at hf
        have HF := Lib.hid hf
        have HW := Lib.hid (fun w => st_within a (ah + 1) most true hb w)
        obtain ⟨hl, hh⟩ := inI_iff.1 hb
        have K1 : Hid (Calls Try.prog 44 #[.agg #[.int .i64 a, .int .i64 b, .int .i64 c, .int .i64 d]] (wr.alloc (.cells #[.int .i64 a, .int .i64 b, .int .i64 c, .int .i64 d] 45)) fun e w' => e = .returned (.int .i64 a) ∧ Ext (wr.alloc (.cells #[.int .i64 a, .int .i64 b, .int .i64 c, .int .i64 d] 45)) w') := Lib.hid (st_clientOf ⟨a, b, c, d⟩ _)
        clear hf hb hI
        go_wp2_with (first
          | (refine wpList_named 44 (by rfl) ?_)
          | (go_at_call 44; ((with_reducible refine K1.out.mono ?_); rintro e w1 ⟨rfl, yw1⟩; have hB1 := hB.ext yw1; have d0 := hB1.cell 0; have d1 := hB1.cell 1; have d2 := hB1.cell 2; have d3 := hB1.cell 3; simp only [List.getElem?_cons_zero, List.getElem?_cons_succ] at d0 d1 d2 d3))
          | (go_at_call 44; refine (st_clientOf ⟨a, b, c, d⟩ _).mono ?_; rintro e w3 ⟨rfl, yw3⟩)
          | (go_at_call 42; refine (HW.out _).mono ?_; rintro e w2 ⟨rfl, rfl⟩))
        go_roundw
        case rel => exact ⟨j + 1, a, val_int (by omega), rfl, by omega, by omega, by omega, HF.out, ((hx.trans xa).trans yw1).trans yw3⟩
        case measure => simp [intOf]; omega
    · obtain rfl : n = j := by omega
      rw [List.drop_of_length_le (by omega), risB_nil] at hf
      have H1 := Lib.hid hf
      clear hf
      go_wp2
      go_ret
      exact ⟨by rw [H1.out] <;> rfl, hx⟩

set_option maxRecDepth 100000 in
set_option maxHeartbeats 800000 in
theorem st_allSess (A : Option Addr) (n c : Nat) (l : List CV) (w : World) (h : Ts w A n l) (hn : n ≤ 1000000) :
    Calls Try.prog 45 #[.slice A n c, .func (.func 46) #[] #[]] w fun e w' => e = .returned (.bool (l.all sesB)) ∧ Ext w w' := by
  have hlen := h.len
  go_enter Try.func45, Try.ntmps45
  go_wp2_with fail
  go_loopw [9] (fun i wr => ∃ j : Nat, i = .int .i64 j ∧ j ≤ n ∧ l.all sesB = (l.drop j).all sesB ∧ Ext w wr) (fun i _ => n - (intOf i).toNat)
  case atStart => exact ⟨0, rfl, by omega, rfl, Ext.refl w⟩
  case round =>
    obtain ⟨j, rfl, hj, hf, hx⟩ := hrel
    by_cases hjn : j < n
    · obtain ⟨bb, off, rfl, hlt, hc⟩ := (h.ext hx).at_ hjn
      have hok : CV.Ok (l[j]'(by omega)) w := h.ok (l[j]'(by omega)) (List.getElem_mem _)
      rw [List.drop_eq_getElem_cons (show j < l.length by omega), List.all_cons] at hf
      generalize l[j]'(by omega) = f at *
      have c0 : wr.cell? ⟨bb, off + j * 4, none⟩ = some (.int .i64 f.client) := hc 0 (by omega)
      have c1 : wr.cell? ⟨bb, off + j * 4 + 1, none⟩ = some (.int .i64 f.seq) := hc 1 (by omega)
      have c2 : wr.cell? ⟨bb, off + j * 4 + 2, none⟩ = some (.int .i64 f.code) := hc 2 (by omega)
      have c3 : wr.cell? ⟨bb, off + j * 4 + 3, none⟩ = some (.int .i64 f.n) := hc 3 (by omega)
      clear hc
      rcases hb : sesB f with _ | _
      · rw [hb, Bool.false_and] at hf
        have HF := Lib.hid hf
        have HW := Lib.hid (fun w => st_May1 f (hok.u2) false hb w)
        obtain ⟨a, b, c, d⟩ := f
        dsimp only at c0 c1 c2 c3
        have xa : Ext wr (wr.alloc (.cells #[.int .i64 a, .int .i64 b, .int .i64 c, .int .i64 d] 45)) := (Ext.refl wr).alloc _
        clear hf hb hok
        go_wp2_with (first
          | (refine wpList_named 46 (by rfl) ?_)
          | (go_at_call 46; refine (HW.out _).mono ?_; rintro e w1 ⟨rfl, yw1⟩))
        go_ret
        exact ⟨by rw [HF.out] <;> rfl, (hx.trans xa).trans yw1⟩
      · rw [hb, Bool.true_and] at hf
        have HF := Lib.hid hf
        have HW := Lib.hid (fun w => st_May1 f (hok.u2) true hb w)
        obtain ⟨a, b, c, d⟩ := f
        dsimp only at c0 c1 c2 c3
        have xa : Ext wr (wr.alloc (.cells #[.int .i64 a, .int .i64 b, .int .i64 c, .int .i64 d] 45)) := (Ext.refl wr).alloc _
        clear hf hb hok
        go_wp2_with (first
          | (refine wpList_named 46 (by rfl) ?_)
          | (go_at_call 46; refine (HW.out _).mono ?_; rintro e w1 ⟨rfl, yw1⟩))
        go_roundw
        case rel => exact ⟨j + 1, val_int (by omega), by omega, HF.out, (hx.trans xa).trans yw1⟩
        case measure => simp [intOf]; omega
    · obtain rfl : n = j := by omega
      rw [List.drop_of_length_le (by omega), List.all_nil] at hf
      have H1 := Lib.hid hf
      clear hf
      go_wp2
      go_ret
      exact ⟨by rw [H1.out] <;> rfl, hx⟩

set_option maxRecDepth 100000 in
set_option maxHeartbeats 800000 in
theorem st_placeOpen (A : Option Addr) (n c : Nat) (l : List OV) (x : Int) (w : World) (h : Ts w A n l) (hn : n ≤ 1000000) :
    Calls Try.prog 59 #[.slice A n c, .int .i64 x, .func (.func 48) #[] #[]] w fun e w' => e = .returned (.int .i64 (findAt OV.set l x 0)) ∧ Ext w w' := by
  have hlen := h.len
  go_enter Try.func59, Try.ntmps59
  go_wp2_with fail
  go_loopw [11] (fun i wr => ∃ j : Nat, i = .int .i64 j ∧ j ≤ n ∧ findAt OV.set l x 0 = findAt OV.set l x j ∧ Ext w wr) (fun i _ => n - (intOf i).toNat)
  case atStart => exact ⟨0, rfl, by omega, rfl, Ext.refl w⟩
  case round =>
    obtain ⟨j, rfl, hj, hf, hx⟩ := hrel
    have HF := Lib.hid hf; clear hf
    by_cases hjn : j < n
    · obtain ⟨bb, off, rfl, hlt, hc⟩ := (h.ext hx).at_ hjn
      have hjl : j < l.length := by omega
      have HH : Hid (l[j].set = x → findAt OV.set l x j = j) := Lib.hid (fun hk => findAt_hit hjl hk)
      have HM : Hid (l[j].set ≠ x → findAt OV.set l x j = findAt OV.set l x (j + 1)) := Lib.hid (fun hk => findAt_miss hjl hk)
      generalize l[j] = f at *
      have c0 : wr.cell? ⟨bb, off + j * 2, none⟩ = some (.int .i64 f.set) := hc 0 (by omega)
      have c1 : wr.cell? ⟨bb, off + j * 2 + 1, none⟩ = some (.int .i64 f.client) := hc 1 (by omega)
      clear hc
      obtain ⟨a, b⟩ := f
      dsimp only at HH HM c0 c1
      have xa : Ext wr (wr.alloc (.cells #[.int .i64 a, .int .i64 b] 47)) := (Ext.refl wr).alloc _
      by_cases hk : a = x
      · have H1 := Lib.hid (HF.out.trans (HH.out hk))
        clear HH HM HF
        subst hk
        go_wp2_with (first
          | (refine wpList_named 48 (by rfl) ?_)
          | (go_at_call 48; refine (st_setOf ⟨a, b⟩ _).mono ?_; rintro e w1 ⟨rfl, yw1⟩))
        go_ret
        exact ⟨by rw [H1.out] <;> rfl, (hx.trans xa).trans yw1⟩
      · have H1 := Lib.hid (HF.out.trans (HM.out hk))
        have hk' := beq_f hk
        clear HH HM HF hk
        go_wp2_with (first
          | (refine wpList_named 48 (by rfl) ?_)
          | (go_at_call 48; refine (st_setOf ⟨a, b⟩ _).mono ?_; rintro e w1 ⟨rfl, yw1⟩))
        go_roundw
        case rel => exact ⟨j + 1, val_int (by omega), by omega, H1.out, (hx.trans xa).trans yw1⟩
        case measure => simp [intOf]; omega
    · obtain rfl : n = j := by omega
      have H1 := Lib.hid (HF.out.trans (findAt_end (by omega)))
      clear HF
      go_wp2
      go_ret
      exact ⟨by rw [H1.out] <;> rfl, hx⟩

set_option maxRecDepth 100000 in
set_option maxHeartbeats 800000 in
theorem st_risingOpen (A : Option Addr) (n c : Nat) (l : List OV) (most : Int) (w : World) (h : Ts w A n l) (hn : n ≤ 1000000) (hm : most ≤ 1048576) :
    Calls Try.prog 47 #[.slice A n c, .int .i64 most, .func (.func 48) #[] #[]] w fun e w' => e = .returned (.bool (risB OV.set most 0 l)) ∧ Ext w w' := by
  have hlen := h.len
  go_enter Try.func47, Try.ntmps47
  go_wp2_with fail
  go_loopw [7, 12] (fun q i wr => ∃ (j : Nat) (ah : Int), i = .int .i64 j ∧ q = .int .i64 ah ∧ 0 ≤ ah ∧ ah ≤ 1048576 ∧ j ≤ n ∧ risB OV.set most 0 l = risB OV.set most ah (l.drop j) ∧ Ext w wr) (fun _ i _ => n - (intOf i).toNat)
  case atStart => exact ⟨0, 0, rfl, rfl, by omega, by omega, by omega, rfl, Ext.refl w⟩
  case round =>
    obtain ⟨j, ah, rfl, rfl, ha0, ha1, hj, hf, hx⟩ := hrel
    by_cases hjn : j < n
    · obtain ⟨bb, off, rfl, hlt, hc⟩ := (h.ext hx).at_ hjn
      rw [List.drop_eq_getElem_cons (show j < l.length by omega)] at hf
      generalize l[j]'(by omega) = f at *
      have c0 : wr.cell? ⟨bb, off + j * 2, none⟩ = some (.int .i64 f.set) := hc 0 (by omega)
      have c1 : wr.cell? ⟨bb, off + j * 2 + 1, none⟩ = some (.int .i64 f.client) := hc 1 (by omega)
      clear hc
      obtain ⟨a, b⟩ := f
      rw [risB_cons] at hf
      dsimp only at hf c0 c1
      have xa : Ext wr (wr.alloc (.cells #[.int .i64 a, .int .i64 b] 47)) := (Ext.refl wr).alloc _
      have hB := Blk.new wr 47 [.int .i64 a, .int .i64 b]
      have hI := fun h1 h2 => (inI_t (n := a) (lo := ah + 1) (hi := most) h1 h2)
      rcases hb : inI a (ah + 1) most with _ | _
      · rw [hb, Bool.false_and] at hf
        have HF := Lib.hid hf
        have HW := Lib.hid (fun w => st_within a (ah + 1) most false hb w)
        clear hf hb hI hB
        go_wp2_with (first
          | (refine wpList_named 48 (by rfl) ?_)
          | (go_at_call 48; refine (st_setOf ⟨a, b⟩ _).mono ?_; rintro e w1 ⟨rfl, yw1⟩)
          | (go_at_call 42; refine (HW.out _).mono ?_; rintro e w2 ⟨rfl, rfl⟩))
        go_ret
        exact ⟨by rw [HF.out] <;> rfl, (hx.trans xa).trans yw1⟩
      · rw [hb, Bool.true_and] at hf
        have HF := Lib.hid hf
        have HW := Lib.hid (fun w => st_within a (ah + 1) most true hb w)
        obtain ⟨hl, hh⟩ := inI_iff.1 hb
        have K1 : Hid (Calls Try.prog 48 #[.agg #[.int .i64 a, .int .i64 b]] (wr.alloc (.cells #[.int .i64 a, .int .i64 b] 47)) fun e w' => e = .returned (.int .i64 a) ∧ Ext (wr.alloc (.cells #[.int .i64 a, .int .i64 b] 47)) w') := Lib.hid (st_setOf ⟨a, b⟩ _)
        clear hf hb hI
        go_wp2_with (first
          | (refine wpList_named 48 (by rfl) ?_)
          | (go_at_call 48; ((with_reducible refine K1.out.mono ?_); rintro e w1 ⟨rfl, yw1⟩; have hB1 := hB.ext yw1; have d0 := hB1.cell 0; have d1 := hB1.cell 1; simp only [List.getElem?_cons_zero, List.getElem?_cons_succ] at d0 d1))
          | (go_at_call 48; refine (st_setOf ⟨a, b⟩ _).mono ?_; rintro e w3 ⟨rfl, yw3⟩)
          | (go_at_call 42; refine (HW.out _).mono ?_; rintro e w2 ⟨rfl, rfl⟩))
        go_roundw
        case rel => exact ⟨j + 1, a, val_int (by omega), rfl, by omega, by omega, by omega, HF.out, ((hx.trans xa).trans yw1).trans yw3⟩
        case measure => simp [intOf]; omega
    · obtain rfl : n = j := by omega
      rw [List.drop_of_length_le (by omega), risB_nil] at hf
      have H1 := Lib.hid hf
      clear hf
      go_wp2
      go_ret
      exact ⟨by rw [H1.out] <;> rfl, hx⟩

set_option maxRecDepth 100000 in
set_option maxHeartbeats 800000 in
theorem st_allOpen (A : Option Addr) (n c : Nat) (l : List OV) (w : World) (h : Ts w A n l) (hn : n ≤ 1000000) :
    Calls Try.prog 49 #[.slice A n c, .func (.func 50) #[] #[]] w fun e w' => e = .returned (.bool (l.all opnB)) ∧ Ext w w' := by
  have hlen := h.len
  go_enter Try.func49, Try.ntmps49
  go_wp2_with fail
  go_loopw [9] (fun i wr => ∃ j : Nat, i = .int .i64 j ∧ j ≤ n ∧ l.all opnB = (l.drop j).all opnB ∧ Ext w wr) (fun i _ => n - (intOf i).toNat)
  case atStart => exact ⟨0, rfl, by omega, rfl, Ext.refl w⟩
  case round =>
    obtain ⟨j, rfl, hj, hf, hx⟩ := hrel
    by_cases hjn : j < n
    · obtain ⟨bb, off, rfl, hlt, hc⟩ := (h.ext hx).at_ hjn
      have hok : OV.Ok (l[j]'(by omega)) w := h.ok (l[j]'(by omega)) (List.getElem_mem _)
      rw [List.drop_eq_getElem_cons (show j < l.length by omega), List.all_cons] at hf
      generalize l[j]'(by omega) = f at *
      have c0 : wr.cell? ⟨bb, off + j * 2, none⟩ = some (.int .i64 f.set) := hc 0 (by omega)
      have c1 : wr.cell? ⟨bb, off + j * 2 + 1, none⟩ = some (.int .i64 f.client) := hc 1 (by omega)
      clear hc
      rcases hb : opnB f with _ | _
      · rw [hb, Bool.false_and] at hf
        have HF := Lib.hid hf
        have HW := Lib.hid (fun w => st_May2 f false hb w)
        obtain ⟨a, b⟩ := f
        dsimp only at c0 c1
        have xa : Ext wr (wr.alloc (.cells #[.int .i64 a, .int .i64 b] 47)) := (Ext.refl wr).alloc _
        clear hf hb hok
        go_wp2_with (first
          | (refine wpList_named 50 (by rfl) ?_)
          | (go_at_call 50; refine (HW.out _).mono ?_; rintro e w1 ⟨rfl, yw1⟩))
        go_ret
        exact ⟨by rw [HF.out] <;> rfl, (hx.trans xa).trans yw1⟩
      · rw [hb, Bool.true_and] at hf
        have HF := Lib.hid hf
        have HW := Lib.hid (fun w => st_May2 f true hb w)
        obtain ⟨a, b⟩ := f
        dsimp only at c0 c1
        have xa : Ext wr (wr.alloc (.cells #[.int .i64 a, .int .i64 b] 47)) := (Ext.refl wr).alloc _
        clear hf hb hok
        go_wp2_with (first
          | (refine wpList_named 50 (by rfl) ?_)
          | (go_at_call 50; refine (HW.out _).mono ?_; rintro e w1 ⟨rfl, yw1⟩))
        go_roundw
        case rel => exact ⟨j + 1, val_int (by omega), by omega, HF.out, (hx.trans xa).trans yw1⟩
        case measure => simp [intOf]; omega
    · obtain rfl : n = j := by omega
      rw [List.drop_of_length_le (by omega), List.all_nil] at hf
      have H1 := Lib.hid hf
      clear hf
      go_wp2
      go_ret
      exact ⟨by rw [H1.out] <;> rfl, hx⟩

set_option maxRecDepth 100000 in
set_option maxHeartbeats 800000 in
theorem st_placeSnap (A : Option Addr) (n c : Nat) (l : List NV) (x : Int) (w : World) (h : Ts w A n l) (hn : n ≤ 1000000) :
    Calls Try.prog 60 #[.slice A n c, .int .i64 x, .func (.func 61) #[] #[]] w fun e w' => e = .returned (.int .i64 (findAt NV.id l x 0)) ∧ Ext w w' := by
  have hlen := h.len
  go_enter Try.func60, Try.ntmps60
  go_wp2_with fail
  go_loopw [11] (fun i wr => ∃ j : Nat, i = .int .i64 j ∧ j ≤ n ∧ findAt NV.id l x 0 = findAt NV.id l x j ∧ Ext w wr) (fun i _ => n - (intOf i).toNat)
  case atStart => exact ⟨0, rfl, by omega, rfl, Ext.refl w⟩
  case round =>
    obtain ⟨j, rfl, hj, hf, hx⟩ := hrel
    have HF := Lib.hid hf; clear hf
    by_cases hjn : j < n
    · obtain ⟨bb, off, rfl, hlt, hc⟩ := (h.ext hx).at_ hjn
      have hjl : j < l.length := by omega
      have HH : Hid (l[j].id = x → findAt NV.id l x j = j) := Lib.hid (fun hk => findAt_hit hjl hk)
      have HM : Hid (l[j].id ≠ x → findAt NV.id l x j = findAt NV.id l x (j + 1)) := Lib.hid (fun hk => findAt_miss hjl hk)
      generalize l[j] = f at *
      have c0 : wr.cell? ⟨bb, off + j * 5, none⟩ = some (.int .i64 f.id) := hc 0 (by omega)
      have c1 : wr.cell? ⟨bb, off + j * 5 + 1, none⟩ = some (.int .i64 f.set) := hc 1 (by omega)
      have c2 : wr.cell? ⟨bb, off + j * 5 + 2, none⟩ = some (.slice f.A f.len f.cap) := hc 2 (by omega)
      have c3 : wr.cell? ⟨bb, off + j * 5 + 3, none⟩ = some (.bool f.held) := hc 3 (by omega)
      have c4 : wr.cell? ⟨bb, off + j * 5 + 4, none⟩ = some (.string f.tag) := hc 4 (by omega)
      clear hc
      obtain ⟨a, b, A, ln, cp, ch, hd, tg⟩ := f
      dsimp only at HH HM c0 c1 c2 c3 c4
      have xa : Ext wr (wr.alloc (.cells #[.int .i64 a, .int .i64 b, .slice A ln cp, .bool hd, .string tg] 33)) := (Ext.refl wr).alloc _
      by_cases hk : a = x
      · have H1 := Lib.hid (HF.out.trans (HH.out hk))
        clear HH HM HF
        subst hk
        go_wp2_with (first
          | (refine wpList_named 61 (by rfl) ?_)
          | (go_at_call 61; refine (st_idOf ⟨a, b, A, ln, cp, ch, hd, tg⟩ _).mono ?_; rintro e w1 ⟨rfl, yw1⟩))
        go_ret
        exact ⟨by rw [H1.out] <;> rfl, (hx.trans xa).trans yw1⟩
      · have H1 := Lib.hid (HF.out.trans (HM.out hk))
        have hk' := beq_f hk
        clear HH HM HF hk
        go_wp2_with (first
          | (refine wpList_named 61 (by rfl) ?_)
          | (go_at_call 61; refine (st_idOf ⟨a, b, A, ln, cp, ch, hd, tg⟩ _).mono ?_; rintro e w1 ⟨rfl, yw1⟩))
        go_roundw
        case rel => exact ⟨j + 1, val_int (by omega), by omega, H1.out, (hx.trans xa).trans yw1⟩
        case measure => simp [intOf]; omega
    · obtain rfl : n = j := by omega
      have H1 := Lib.hid (HF.out.trans (findAt_end (by omega)))
      clear HF
      go_wp2
      go_ret
      exact ⟨by rw [H1.out] <;> rfl, hx⟩

set_option maxRecDepth 100000 in
set_option maxHeartbeats 800000 in
theorem st_risingSnap (A : Option Addr) (n c : Nat) (l : List NV) (most : Int) (w : World) (h : Ts w A n l) (hn : n ≤ 1000000) (hm : most ≤ 1048576) :
    Calls Try.prog 89 #[.slice A n c, .int .i64 most, .func (.func 61) #[] #[]] w fun e w' => e = .returned (.bool (risB NV.id most 0 l)) ∧ Ext w w' := by
  have hlen := h.len
  go_enter Try.func89, Try.ntmps89
  go_wp2_with fail
  go_loopw [7, 12] (fun q i wr => ∃ (j : Nat) (ah : Int), i = .int .i64 j ∧ q = .int .i64 ah ∧ 0 ≤ ah ∧ ah ≤ 1048576 ∧ j ≤ n ∧ risB NV.id most 0 l = risB NV.id most ah (l.drop j) ∧ Ext w wr) (fun _ i _ => n - (intOf i).toNat)
  case atStart => exact ⟨0, 0, rfl, rfl, by omega, by omega, by omega, rfl, Ext.refl w⟩
  case round =>
    obtain ⟨j, ah, rfl, rfl, ha0, ha1, hj, hf, hx⟩ := hrel
    by_cases hjn : j < n
    · obtain ⟨bb, off, rfl, hlt, hc⟩ := (h.ext hx).at_ hjn
      rw [List.drop_eq_getElem_cons (show j < l.length by omega)] at hf
      generalize l[j]'(by omega) = f at *
      have c0 : wr.cell? ⟨bb, off + j * 5, none⟩ = some (.int .i64 f.id) := hc 0 (by omega)
      have c1 : wr.cell? ⟨bb, off + j * 5 + 1, none⟩ = some (.int .i64 f.set) := hc 1 (by omega)
      have c2 : wr.cell? ⟨bb, off + j * 5 + 2, none⟩ = some (.slice f.A f.len f.cap) := hc 2 (by omega)
      have c3 : wr.cell? ⟨bb, off + j * 5 + 3, none⟩ = some (.bool f.held) := hc 3 (by omega)
      have c4 : wr.cell? ⟨bb, off + j * 5 + 4, none⟩ = some (.string f.tag) := hc 4 (by omega)
      clear hc
      obtain ⟨a, b, A, ln, cp, ch, hd, tg⟩ := f
      rw [risB_cons] at hf
      dsimp only at hf c0 c1 c2 c3 c4
      have xa : Ext wr (wr.alloc (.cells #[.int .i64 a, .int .i64 b, .slice A ln cp, .bool hd, .string tg] 33)) := (Ext.refl wr).alloc _
      have hB := Blk.new wr 33 [.int .i64 a, .int .i64 b, .slice A ln cp, .bool hd, .string tg]
      have hI := fun h1 h2 => (inI_t (n := a) (lo := ah + 1) (hi := most) h1 h2)
      rcases hb : inI a (ah + 1) most with _ | _
      · rw [hb, Bool.false_and] at hf
        have HF := Lib.hid hf
        have HW := Lib.hid (fun w => st_within a (ah + 1) most false hb w)
        clear hf hb hI hB
        go_wp2_with (first
          | (refine wpList_named 61 (by rfl) ?_)
          | (go_at_call 61; refine (st_idOf ⟨a, b, A, ln, cp, ch, hd, tg⟩ _).mono ?_; rintro e w1 ⟨rfl, yw1⟩)
          | (go_at_call 42; refine (HW.out _).mono ?_; rintro e w2 ⟨rfl, rfl⟩))
        go_ret
        exact ⟨by rw [HF.out] <;> rfl, (hx.trans xa).trans yw1⟩
      · rw [hb, Bool.true_and] at hf
        have HF := Lib.hid hf
        have HW := Lib.hid (fun w => st_within a (ah + 1) most true hb w)
        obtain ⟨hl, hh⟩ := inI_iff.1 hb
        have K1 : Hid (Calls Try.prog 61 #[.agg #[.int .i64 a, .int .i64 b, .slice A ln cp, .bool hd, .string tg]] (wr.alloc (.cells #[.int .i64 a, .int .i64 b, .slice A ln cp, .bool hd, .string tg] 33)) fun e w' => e = .returned (.int .i64 a) ∧ Ext (wr.alloc (.cells #[.int .i64 a, .int .i64 b, .slice A ln cp, .bool hd, .string tg] 33)) w') := Lib.hid (st_idOf ⟨a, b, A, ln, cp, ch, hd, tg⟩ _)
        clear hf hb hI
        go_wp2_with (first
          | (refine wpList_named 61 (by rfl) ?_)
          | (go_at_call 61; ((with_reducible refine K1.out.mono ?_); rintro e w1 ⟨rfl, yw1⟩; have hB1 := hB.ext yw1; have d0 := hB1.cell 0; have d1 := hB1.cell 1; have d2 := hB1.cell 2; have d3 := hB1.cell 3; have d4 := hB1.cell 4; simp only [List.getElem?_cons_zero, List.getElem?_cons_succ] at d0 d1 d2 d3 d4))
          | (go_at_call 61; refine (st_idOf ⟨a, b, A, ln, cp, ch, hd, tg⟩ _).mono ?_; rintro e w3 ⟨rfl, yw3⟩)
          | (go_at_call 42; refine (HW.out _).mono ?_; rintro e w2 ⟨rfl, rfl⟩))
        go_roundw
        case rel => exact ⟨j + 1, a, val_int (by omega), rfl, by omega, by omega, by omega, HF.out, ((hx.trans xa).trans yw1).trans yw3⟩
        case measure => simp [intOf]; omega
    · obtain rfl : n = j := by omega
      rw [List.drop_of_length_le (by omega), risB_nil] at hf
      have H1 := Lib.hid hf
      clear hf
      go_wp2
      go_ret
      exact ⟨by rw [H1.out] <;> rfl, hx⟩

end Go.Proofs.Ytiildgoaiookhaa

/- The walk of less of layer 7's laws. (Printed by wip/tools/stless.py.) -/
namespace Go.Proofs.Ytiildgoaiookhaa
open Go.RowKit

/-- a snapshot with at most 12 chunks and 40 bytes of text -/
def cutN (f : NV) : NV := ⟨f.id, f.set, f.A, min f.len 12, f.cap, f.ch.take 12, f.held, if 40 < f.tag.size then f.tag.extract 0 40 else f.tag⟩
theorem ext40 (s : ByteArray) (h : 40 < s.size) : (s.extract 0 40).size = 40 := by
  rw [ByteArray.size_extract]; omega
theorem cutN_ok {f : NV} {w : World} (h : f.Ok w) : (cutN f).Ok w := by
  have hl := h.cs.len
  refine ⟨h.u0, h.u1, ?_, ?_, h.cap, fun x hx => h.uc x (List.mem_of_mem_take hx), ?_⟩
  · unfold cutN
    dsimp only
    by_cases h12 : 12 < f.len
    · rw [show min f.len 12 = 12 by omega]; exact h.cs.upto (by omega)
    · rw [show min f.len 12 = f.len by omega, List.take_of_length_le (by omega)]; exact h.cs
  · have := h.le; unfold cutN; dsimp only; omega
  · have := h.ut
    unfold cutN; dsimp only
    split
    · rename_i h40; rw [ext40 _ h40]; unfold maxLen; omega
    · exact this
theorem cutN_len (f : NV) : (cutN f).len ≤ 12 := by unfold cutN; dsimp only; omega
theorem cutN_tag (f : NV) : (cutN f).tag.size ≤ 40 := by
  unfold cutN; dsimp only
  split
  · rename_i h; rw [ext40 _ h]; exact Nat.le_refl _
  · omega
def cutSn (l : List NV) : List NV := (l.take 20).map cutN
theorem cutSn_len (l : List NV) : (cutSn l).length = min 20 l.length := by simp [cutSn]
theorem cutSn_snoc (l : List NV) (j : Nat) (h : j < l.length) (hm : j < 20) : (cutSn l).take (j + 1) = (cutSn l).take j ++ [cutN l[j]] := by
  have hl : j < (cutSn l).length := by rw [cutSn_len]; omega
  rw [List.take_succ_eq_append_getElem hl]
  congr 2
  simp [cutSn]
/-- a catalogue of at most 20 clients, open backups and snapshots -/
def lessK (s : KV) (A : Option Addr) (c : Nat) : KV := ⟨s.ver, s.next, s.keep, s.quota, s.A1, min s.n1 20, s.c1, s.ses.take 20, s.A2, min s.n2 20, s.c2, s.ops.take 20, A, min 20 s.n3, c, cutSn s.sns⟩
theorem ncells_one (a b : Int) (A : Option Addr) (ln cp : Nat) (hd : Bool) (tg : ByteArray) : ∀ u ∈ [Value.int .i64 a, .int .i64 b, .slice A ln cp, .bool hd, .string tg], u.oneCell' = true := by
  intro u hu
  simp only [List.mem_cons, List.not_mem_nil, or_false] at hu
  rcases hu with rfl | rfl | rfl | rfl | rfl <;> rfl
theorem own_cap {w : World} {base : Nat} {e : TypeId} {size n c : Nat} {A : Option Addr} {xs : List Value} (h : w.ownsRow base e size (.slice A n c) n xs) : n ≤ c ∧ c ≤ maxLen := by
  rcases h.2 with ⟨hv, h0⟩ | ⟨g, cap, cur, hv, hb, hg, hc, hm, _⟩
  · injection hv with _ _ hc; subst hc; exact ⟨by omega, by unfold maxLen; omega⟩
  · injection hv with _ _ hc'; subst hc'; exact ⟨hc, hm⟩
theorem Ts.cut {α : Type} {size : Nat} [T : Thing α size] {w : World} {A : Option Addr} {n : Nat} {l : List α} (h : Ts w A n l) (k : Nat) : Ts w A (min n k) (l.take k) := by
  have := h.upto (hi := min n k) (by omega)
  have e : l.take (min n k) = l.take k := by
    rw [← h.len]
    by_cases hk : k ≤ l.length
    · rw [show min l.length k = k by omega]
    · rw [show min l.length k = l.length by omega, List.take_of_length_le (Nat.le_refl _), List.take_of_length_le (by omega)]
  rw [e] at this
  exact this

theorem lessK_ok {s : KV} {w w' : World} (hs : s.Ok w) (hx : Ext w w') {B : Nat} {A : Option Addr} {c : Nat} (ho : w'.ownsRow B 33 5 (.slice A (min 20 s.n3) c) (min 20 s.n3) (thingsOf (cutSn s.sns))) : (lessK s A c).Ok w' := by
  have hc := own_cap ho
  have l1 := hs.le1
  have l2 := hs.le2
  refine ⟨hs.u0, hs.u1, hs.u2, hs.u3, (hs.t1.cut 20).ext hx, by dsimp only [lessK]; omega, hs.cap1, (hs.t2.cut 20).ext hx, by dsimp only [lessK]; omega, hs.cap2, ?_, hc.1, hc.2⟩
  exact Ts.of_own ho (fun f hf => by
    obtain ⟨g, hg, rfl⟩ := List.mem_map.1 hf
    exact (cutN_ok (hs.t3.ok g (List.mem_of_mem_take hg))).ext hx) (by omega)
set_option maxRecDepth 100000 in
set_option maxHeartbeats 3200000 in
theorem law07_less (s : KV) (w : World) (hs : s.Ok w) :
    Calls Try.prog 16 #[s.val] w fun e w' => ∃ A c, e = .returned (lessK s A c).val ∧ w'.ownsRow w.heap.size 33 5 (.slice A (min 20 s.n3) c) (min 20 s.n3) (thingsOf (cutSn s.sns)) ∧ Ext w w' := by
  obtain ⟨ver, next, keep, quota, A1, n1, c1, ses, A2, n2, c2, ops, A3, n3, c3, sns⟩ := s
  obtain ⟨u0, u1, u2, u3, t1, le1, cap1, t2, le2, cap2, t3, le3, cap3⟩ := hs
  dsimp only at u0 u1 u2 u3 t1 le1 cap1 t2 le2 cap2 t3 le3 cap3
  unfold KV.val
  dsimp only
  have hn1 : n1 ≤ 9223372036854775807 := by unfold maxLen at cap1; omega
  have hn2 : n2 ≤ 9223372036854775807 := by unfold maxLen at cap2; omega
  have hn3 : n3 ≤ 9223372036854775807 := by unfold maxLen at cap3; omega
  have hl3 := t3.len
  clear t1 t2 u0 u1 u2 u3
  have hB0 := (Blk.new w 26 [.int .i64 ver, .int .i64 next, .int .i64 keep, .int .i64 quota, .slice A1 n1 c1, .slice A2 n2 c2, .slice A3 n3 c3]).alloc (.cells #[.int .i64 0, .int .i64 0, .int .i64 0, .int .i64 0, .slice none 0 0, .slice none 0 0, .slice none 0 0] 26)
  have hB20 := Blk.new (w.alloc (.cells #[.int .i64 ver, .int .i64 next, .int .i64 keep, .int .i64 quota, .slice A1 n1 c1, .slice A2 n2 c2, .slice A3 n3 c3] 26)) 26 [.int .i64 0, .int .i64 0, .int .i64 0, .int .i64 0, .slice none 0 0, .slice none 0 0, .slice none 0 0]
  have hx0 : Ext w ((w.alloc (.cells #[.int .i64 ver, .int .i64 next, .int .i64 keep, .int .i64 quota, .slice A1 n1 c1, .slice A2 n2 c2, .slice A3 n3 c3] 26)).alloc (.cells #[.int .i64 0, .int .i64 0, .int .i64 0, .int .i64 0, .slice none 0 0, .slice none 0 0, .slice none 0 0] 26)) := ((Ext.refl w).alloc _).alloc _
  have hz0 : ((w.alloc (.cells #[.int .i64 ver, .int .i64 next, .int .i64 keep, .int .i64 quota, .slice A1 n1 c1, .slice A2 n2 c2, .slice A3 n3 c3] 26)).alloc (.cells #[.int .i64 0, .int .i64 0, .int .i64 0, .int .i64 0, .slice none 0 0, .slice none 0 0, .slice none 0 0] 26)).heap.size = w.heap.size + 2 := by simp
  rw [show (w.alloc (.cells #[.int .i64 ver, .int .i64 next, .int .i64 keep, .int .i64 quota, .slice A1 n1 c1, .slice A2 n2 c2, .slice A3 n3 c3] 26)).heap.size = w.heap.size + 1 by simp] at hB20
  go_enter Try.func16, Try.ntmps16
  go_upto_if 9 with fail
  generalize ((w.alloc (.cells #[.int .i64 ver, .int .i64 next, .int .i64 keep, .int .i64 quota, .slice A1 n1 c1, .slice A2 n2 c2, .slice A3 n3 c3] 26)).alloc (.cells #[.int .i64 0, .int .i64 0, .int .i64 0, .int .i64 0, .slice none 0 0, .slice none 0 0, .slice none 0 0] 26)) = W0 at *
  go_cut [3] (fun _ wx => Blk wx w.heap.size 26 [.int .i64 ver, .int .i64 next, .int .i64 keep, .int .i64 quota, .slice A1 (min n1 20) c1, .slice A2 n2 c2, .slice A3 n3 c3] ∧ Blk wx (w.heap.size + 1) 26 [.int .i64 0, .int .i64 0, .int .i64 0, .int .i64 0, .slice none 0 0, .slice none 0 0, .slice none 0 0] ∧ Ext w wx ∧ wx.heap.size = w.heap.size + 2)
  case first =>
    by_cases h : 20 < n1
    · have hmin : min n1 20 = 20 := by omega
      have Hmin := Lib.hid hmin
      clear hmin
      have d0 := hB0.cell 0
      have d1 := hB0.cell 1
      have d2 := hB0.cell 2
      have d3 := hB0.cell 3
      have d4 := hB0.cell 4
      have d5 := hB0.cell 5
      have d6 := hB0.cell 6
      simp only [List.getElem?_cons_zero, List.getElem?_cons_succ] at d0 d1 d2 d3 d4 d5 d6
      have f4 := hB0.frozen 4
      go_wp2_with fail
      go_meet
      rw [Hmin.out]
      exact ⟨hB0.set_ 4 _, hB20.far (by simp) _, hx0.setCell (Nat.le_refl _) _, by simpa using hz0⟩
    · have hmin : min n1 20 = n1 := by omega
      have Hmin := Lib.hid hmin
      clear hmin
      go_wp2_with fail
      go_meet
      rw [Hmin.out]
      exact ⟨hB0, hB20, hx0, hz0⟩
  case rest =>
    obtain ⟨hB1, hB21, hx1, hz1⟩ := hcut
    clear hB0 hB20 hx0 hz0
    obtain ⟨W1, rfl⟩ : ∃ W1 : World, W1 = wc := ⟨_, rfl⟩
    have d0 := hB1.cell 0
    have d1 := hB1.cell 1
    have d2 := hB1.cell 2
    have d3 := hB1.cell 3
    have d4 := hB1.cell 4
    have d5 := hB1.cell 5
    have d6 := hB1.cell 6
    simp only [List.getElem?_cons_zero, List.getElem?_cons_succ] at d0 d1 d2 d3 d4 d5 d6
    go_upto_if 17 with fail
    clear d0 d1 d2 d3 d4 d5 d6
    go_cut [3] (fun _ wx => Blk wx w.heap.size 26 [.int .i64 ver, .int .i64 next, .int .i64 keep, .int .i64 quota, .slice A1 (min n1 20) c1, .slice A2 (min n2 20) c2, .slice A3 n3 c3] ∧ Blk wx (w.heap.size + 1) 26 [.int .i64 0, .int .i64 0, .int .i64 0, .int .i64 0, .slice none 0 0, .slice none 0 0, .slice none 0 0] ∧ Ext w wx ∧ wx.heap.size = w.heap.size + 2)
    case first =>
      by_cases h : 20 < n2
      · have hmin : min n2 20 = 20 := by omega
        have Hmin := Lib.hid hmin
        clear hmin
        have d0 := hB1.cell 0
        have d1 := hB1.cell 1
        have d2 := hB1.cell 2
        have d3 := hB1.cell 3
        have d4 := hB1.cell 4
        have d5 := hB1.cell 5
        have d6 := hB1.cell 6
        simp only [List.getElem?_cons_zero, List.getElem?_cons_succ] at d0 d1 d2 d3 d4 d5 d6
        have f5 := hB1.frozen 5
        go_wp2_with fail
        go_meet
        rw [Hmin.out]
        exact ⟨hB1.set_ 5 _, hB21.far (by simp) _, hx1.setCell (Nat.le_refl _) _, by simpa using hz1⟩
      · have hmin : min n2 20 = n2 := by omega
        have Hmin := Lib.hid hmin
        clear hmin
        go_wp2_with fail
        go_meet
        rw [Hmin.out]
        exact ⟨hB1, hB21, hx1, hz1⟩
    case rest =>
      obtain ⟨hB2, hB22, hx2, hz2⟩ := hcut
      clear hB1 hB21 hx1 hz1
      obtain ⟨W2, rfl⟩ : ∃ W2 : World, W2 = wc := ⟨_, rfl⟩
      have h0 := own_empty W2 33 5
      rw [hz2] at h0
      have Hz := Lib.hid hz2
      clear hz2
      go_wp2_with fail
      go_loopw [3, 4] (fun v i wr => ∃ j : Nat, i = .int .i64 j ∧ j ≤ n3 ∧ j ≤ 20 ∧ wr.ownsRow (w.heap.size + 2) 33 5 v j (thingsOf ((cutSn sns).take j)) ∧ Blk wr w.heap.size 26 [.int .i64 ver, .int .i64 next, .int .i64 keep, .int .i64 quota, .slice A1 (min n1 20) c1, .slice A2 (min n2 20) c2, .slice A3 n3 c3] ∧ Blk wr (w.heap.size + 1) 26 [.int .i64 0, .int .i64 0, .int .i64 0, .int .i64 0, .slice none 0 0, .slice none 0 0, .slice none 0 0] ∧ Ext w wr) (fun _ i _ => 20 - (intOf i).toNat)
      case atStart => exact ⟨0, rfl, by omega, by omega, by simpa [thingsOf, Hz.out] using h0, hB2.alloc _, hB22.alloc _, hx2.alloc _⟩
      case round =>
        clear h0 hB2 hB22 hx2
        obtain ⟨j, rfl, hj, hjm, hown, hB, hB2, hx⟩ := hrel
        obtain ⟨v3, rfl⟩ : ∃ v3 : Value, v3 = u3 := ⟨_, rfl⟩
        have d0 := hB.cell 0
        have d1 := hB.cell 1
        have d2 := hB.cell 2
        have d3 := hB.cell 3
        have d4 := hB.cell 4
        have d5 := hB.cell 5
        have d6 := hB.cell 6
        simp only [List.getElem?_cons_zero, List.getElem?_cons_succ] at d0 d1 d2 d3 d4 d5 d6
        clear d0 d1 d2 d3 d4 d5
        have HB := Lib.hid hB
        have HB2 := Lib.hid hB2
        have Hlt := Lib.hid (fun k hk => (hown.lt k hk).1)
        clear hB hB2
        have hszw := HB2.out.lt
        by_cases hlt : j < n3 ∧ j < 20
        · obtain ⟨hjn, hj20⟩ := hlt
          have hjl : j < sns.length := by omega
          obtain ⟨bb, off, rfl, hlt, hc⟩ := (t3.ext hx).at_ hjn
          have hok : NV.Ok sns[j] w := t3.ok sns[j] (List.getElem_mem _)
          have hsn := cutSn_snoc sns j hjl hj20
          generalize sns[j] = f at *
          have c0 : wr.cell? ⟨bb, off + j * 5, none⟩ = some (.int .i64 f.id) := hc 0 (by omega)
          have c1 : wr.cell? ⟨bb, off + j * 5 + 1, none⟩ = some (.int .i64 f.set) := hc 1 (by omega)
          have c2_ : wr.cell? ⟨bb, off + j * 5 + 2, none⟩ = some (.slice f.A f.len f.cap) := hc 2 (by omega)
          have c3_ : wr.cell? ⟨bb, off + j * 5 + 3, none⟩ = some (.bool f.held) := hc 3 (by omega)
          have c4_ : wr.cell? ⟨bb, off + j * 5 + 4, none⟩ = some (.string f.tag) := hc 4 (by omega)
          have hle := hok.le
          have hcm := hok.cap
          have htg := hok.ut
          obtain ⟨a, b, A, ln, cp, ch, hd, tg⟩ := f
          dsimp only at c0 c1 c2_ c3_ c4_ hle hcm htg
          unfold maxLen at hcm htg
          have Hsn := Lib.hid hsn
          clear hsn hc hok Hz
          by_cases h12 : 12 < ln
          · by_cases h40 : 40 < tg.size
            · have Hcut : Hid (cutN ⟨a, b, A, ln, cp, ch, hd, tg⟩ = ⟨a, b, A, 12, cp, ch.take 12, hd, (tg.extract 0 40)⟩) := Lib.hid (by unfold cutN; dsimp only; rw [if_pos h40, show min ln 12 = 12 by omega])
              have hsz40 : 40 < tg.size := by omega
              clear h40
              go_wp2_with (at_builtin; refine wpList_app snapsT (by omega) _ rfl rfl rfl ((hown.alloc _).alloc _) rfl (rd_at5 _ (.int .i64 a) (.int .i64 b) (.slice A 12 cp) (.bool hd) (.string (tg.extract 0 40)) _ _ (by simp)) (ncells_one _ _ _ _ _ _ _) (by unfold maxLen; omega) (by omega) (by simp; omega) ?_; intro v1 w1 hown1 hg1 hat1)
              have hlt' : ∀ k, v3.ownBlock = some k → w.heap.size + 2 ≤ k := fun k hk => (Hlt.out k hk)
              go_roundw
              case rel => exact ⟨j + 1, val_int (by omega), by omega, by omega, own_to hown1 (Nat.le_refl _) rfl (by rw [Hsn.out, thingsOf_append, thingsOf_one, Hcut.out]; rfl), ((HB.out.alloc _).alloc _).grown hg1 (fun e => by have := hlt' _ e.symm; omega), ((HB2.out.alloc _).alloc _).grown hg1 (fun e => by have := hlt' _ e.symm; omega), Below.app ((hx.alloc _).alloc _) hg1 (by simp; omega) ((hown.alloc _).alloc _) (by omega)⟩
              case measure => simp [intOf]; omega
            · have Hcut : Hid (cutN ⟨a, b, A, ln, cp, ch, hd, tg⟩ = ⟨a, b, A, 12, cp, ch.take 12, hd, tg⟩) := Lib.hid (by unfold cutN; dsimp only; rw [if_neg h40, show min ln 12 = 12 by omega])
              have hsz40 : tg.size ≤ 40 := by omega
              clear h40
              go_wp2_with (at_builtin; refine wpList_app snapsT (by omega) _ rfl rfl rfl ((hown.alloc _).alloc _) rfl (rd_at5 _ (.int .i64 a) (.int .i64 b) (.slice A 12 cp) (.bool hd) (.string tg) _ _ (by simp)) (ncells_one _ _ _ _ _ _ _) (by unfold maxLen; omega) (by omega) (by simp; omega) ?_; intro v1 w1 hown1 hg1 hat1)
              have hlt' : ∀ k, v3.ownBlock = some k → w.heap.size + 2 ≤ k := fun k hk => (Hlt.out k hk)
              go_roundw
              case rel => exact ⟨j + 1, val_int (by omega), by omega, by omega, own_to hown1 (Nat.le_refl _) rfl (by rw [Hsn.out, thingsOf_append, thingsOf_one, Hcut.out]; rfl), ((HB.out.alloc _).alloc _).grown hg1 (fun e => by have := hlt' _ e.symm; omega), ((HB2.out.alloc _).alloc _).grown hg1 (fun e => by have := hlt' _ e.symm; omega), Below.app ((hx.alloc _).alloc _) hg1 (by simp; omega) ((hown.alloc _).alloc _) (by omega)⟩
              case measure => simp [intOf]; omega
          · by_cases h40 : 40 < tg.size
            · have Hcut : Hid (cutN ⟨a, b, A, ln, cp, ch, hd, tg⟩ = ⟨a, b, A, ln, cp, ch.take 12, hd, (tg.extract 0 40)⟩) := Lib.hid (by unfold cutN; dsimp only; rw [if_pos h40, show min ln 12 = ln by omega])
              have hsz40 : 40 < tg.size := by omega
              clear h40
              go_wp2_with (at_builtin; refine wpList_app snapsT (by omega) _ rfl rfl rfl ((hown.alloc _).alloc _) rfl (rd_at5 _ (.int .i64 a) (.int .i64 b) (.slice A ln cp) (.bool hd) (.string (tg.extract 0 40)) _ _ (by simp)) (ncells_one _ _ _ _ _ _ _) (by unfold maxLen; omega) (by omega) (by simp; omega) ?_; intro v1 w1 hown1 hg1 hat1)
              have hlt' : ∀ k, v3.ownBlock = some k → w.heap.size + 2 ≤ k := fun k hk => (Hlt.out k hk)
              go_roundw
              case rel => exact ⟨j + 1, val_int (by omega), by omega, by omega, own_to hown1 (Nat.le_refl _) rfl (by rw [Hsn.out, thingsOf_append, thingsOf_one, Hcut.out]; rfl), ((HB.out.alloc _).alloc _).grown hg1 (fun e => by have := hlt' _ e.symm; omega), ((HB2.out.alloc _).alloc _).grown hg1 (fun e => by have := hlt' _ e.symm; omega), Below.app ((hx.alloc _).alloc _) hg1 (by simp; omega) ((hown.alloc _).alloc _) (by omega)⟩
              case measure => simp [intOf]; omega
            · have Hcut : Hid (cutN ⟨a, b, A, ln, cp, ch, hd, tg⟩ = ⟨a, b, A, ln, cp, ch.take 12, hd, tg⟩) := Lib.hid (by unfold cutN; dsimp only; rw [if_neg h40, show min ln 12 = ln by omega])
              have hsz40 : tg.size ≤ 40 := by omega
              clear h40
              go_wp2_with (at_builtin; refine wpList_app snapsT (by omega) _ rfl rfl rfl ((hown.alloc _).alloc _) rfl (rd_at5 _ (.int .i64 a) (.int .i64 b) (.slice A ln cp) (.bool hd) (.string tg) _ _ (by simp)) (ncells_one _ _ _ _ _ _ _) (by unfold maxLen; omega) (by omega) (by simp; omega) ?_; intro v1 w1 hown1 hg1 hat1)
              have hlt' : ∀ k, v3.ownBlock = some k → w.heap.size + 2 ≤ k := fun k hk => (Hlt.out k hk)
              go_roundw
              case rel => exact ⟨j + 1, val_int (by omega), by omega, by omega, own_to hown1 (Nat.le_refl _) rfl (by rw [Hsn.out, thingsOf_append, thingsOf_one, Hcut.out]; rfl), ((HB.out.alloc _).alloc _).grown hg1 (fun e => by have := hlt' _ e.symm; omega), ((HB2.out.alloc _).alloc _).grown hg1 (fun e => by have := hlt' _ e.symm; omega), Below.app ((hx.alloc _).alloc _) hg1 (by simp; omega) ((hown.alloc _).alloc _) (by omega)⟩
              case measure => simp [intOf]; omega
        · have hjm2 : j = min 20 n3 := by omega
          have hown' := own_to (base' := w.heap.size + 2) (ys := thingsOf (cutSn sns)) hown (by omega) rfl (by rw [List.take_of_length_le (by rw [cutSn_len]; omega)])
          obtain ⟨A', c', rfl, hc'⟩ := own_form hown'
          have Hown := Lib.hid hown'
          have HJ := Lib.hid hjm2
          have hcs : j = n3 ∨ j < n3 ∧ j = 20 := by omega
          clear hown hown' hc' hjm2 hlt Hz d6
          have d0 := HB.out.cell 0
          have d1 := HB.out.cell 1
          have d2 := HB.out.cell 2
          have d3 := HB.out.cell 3
          have d4 := HB.out.cell 4
          have d5 := HB.out.cell 5
          have d6 := HB.out.cell 6
          simp only [List.getElem?_cons_zero, List.getElem?_cons_succ] at d0 d1 d2 d3 d4 d5 d6
          have f6 := HB.out.frozen 6
          have g0 := HB2.out.cell 0
          have g1 := HB2.out.cell 1
          have g2 := HB2.out.cell 2
          have g3 := HB2.out.cell 3
          have g4 := HB2.out.cell 4
          have g5 := HB2.out.cell 5
          have g6 := HB2.out.cell 6
          simp only [List.getElem?_cons_zero, List.getElem?_cons_succ] at g0 g1 g2 g3 g4 g5 g6
          have r0 := HB2.out.frozen 0
          have r1 := HB2.out.frozen 1
          have r2 := HB2.out.frozen 2
          have r3 := HB2.out.frozen 3
          have r4 := HB2.out.frozen 4
          have r5 := HB2.out.frozen 5
          have r6 := HB2.out.frozen 6
          clear HB HB2
          rcases hcs with rfl | ⟨hjn, rfl⟩
          · go_wp2
            refine bodyPost_ret (v := .agg #[.int .i64 ver, .int .i64 next, .int .i64 keep, .int .i64 quota, .slice A1 (min n1 20) c1, .slice A2 (min n2 20) c2, .slice A' j c']) (by simp [results, Try.results16, go_sem, g0, g1, g2, g3, g4, g5, g6]) rfl ⟨A', c', ?_, ?_, ?_⟩
            · unfold lessK; dsimp only [KV.val]; rw [← HJ.out]
            · rw [← HJ.out]
              refine own_base (base := w.heap.size + 2) ?_ (by omega)
              repeat (refine own_set ?_ (by simp) _)
              exact Hown.out
            · repeat (refine Ext.setCell ?_ (by simp) _)
              exact hx
          · have t1 : decide ((20 : Int) < (n3 : Int)) = true := dec_t (by omega)
            go_wp2
            refine bodyPost_ret (v := .agg #[.int .i64 ver, .int .i64 next, .int .i64 keep, .int .i64 quota, .slice A1 (min n1 20) c1, .slice A2 (min n2 20) c2, .slice A' 20 c']) (by simp [results, Try.results16, go_sem, g0, g1, g2, g3, g4, g5, g6]) rfl ⟨A', c', ?_, ?_, ?_⟩
            · unfold lessK; dsimp only [KV.val]; rw [← HJ.out]
            · rw [← HJ.out]
              refine own_base (base := w.heap.size + 2) ?_ (by omega)
              repeat (refine own_set ?_ (by simp) _)
              exact Hown.out
            · repeat (refine Ext.setCell ?_ (by simp) _)
              exact hx
end Go.Proofs.Ytiildgoaiookhaa

/- The walks of Client, Opened, Snap and Kept of a catalogue. (Printed by wip/tools/stfind.py.) -/
namespace Go.Proofs.Ytiildgoaiookhaa
open Go.RowKit

set_option maxRecDepth 100000 in
set_option maxHeartbeats 800000 in
theorem st_Client (s : KV) (x : Int) (w : World) (hs : s.Ok w) (hn : s.n1 ≤ 1000000) :
    Calls Try.prog 23 #[s.val, .int .i64 x] w fun e w' => e = .returned (.int .i64 (findAt CV.client s.ses x 0)) ∧ Ext w w' := by
  have ht := hs.t1
  obtain ⟨ver, next, keep, quota, A1, n1, c1, ses, A2, n2, c2, ops, A3, n3, c3, sns⟩ := s
  unfold KV.val
  dsimp only at hn ht ⊢
  have HP := Lib.hid (fun (w' : World) (h : Ext w w') => st_placeSess A1 n1 c1 ses x w' (ht.ext h) hn)
  clear hs ht
  go_enter Try.func23, Try.ntmps23
  go_wp2_with (go_at_call 58; refine (HP.out _ ((Ext.refl w).alloc _)).mono ?_; rintro e w1 ⟨rfl, y1⟩)
  go_ret
  exact ⟨rfl, ((Ext.refl w).alloc _).trans y1⟩

set_option maxRecDepth 100000 in
set_option maxHeartbeats 800000 in
theorem ref07_Client (s : KV) (x : Int) (w : World) (hs : s.Ok w) (hn : s.n1 ≤ 1000000) :
    Calls Try.prog 24 #[s.val, .int .i64 x] w fun e w' => e = .returned (.int .i64 (findAt CV.client s.ses x 0)) ∧ Ext w w' := by
  have ht := hs.t1
  obtain ⟨ver, next, keep, quota, A1, n1, c1, ses, A2, n2, c2, ops, A3, n3, c3, sns⟩ := s
  unfold KV.val
  dsimp only at hn ht ⊢
  have hlen := ht.len
  have hB0 := Blk.new w 26 [.int .i64 ver, .int .i64 next, .int .i64 keep, .int .i64 quota, .slice A1 n1 c1, .slice A2 n2 c2, .slice A3 n3 c3]
  go_enter Try.func24, Try.ntmps24
  go_wp2_with fail
  go_loopw [5] (fun i wr => ∃ j : Nat, i = .int .i64 j ∧ j ≤ n1 ∧ findAt CV.client ses x 0 = findAt CV.client ses x j ∧ Blk wr w.heap.size 26 [.int .i64 ver, .int .i64 next, .int .i64 keep, .int .i64 quota, .slice A1 n1 c1, .slice A2 n2 c2, .slice A3 n3 c3] ∧ Ext w wr) (fun i _ => n1 - (intOf i).toNat)
  case atStart => exact ⟨0, rfl, by omega, rfl, hB0, (Ext.refl w).alloc _⟩
  case round =>
    clear hB0
    obtain ⟨j, rfl, hj, hf, hB, hx⟩ := hrel
    have HF := Lib.hid hf; clear hf
    have d := hB.cell 4
    simp only [List.getElem?_cons_zero, List.getElem?_cons_succ] at d
    have HB := Lib.hid hB
    clear hB hs
    by_cases hjn : j < n1
    · obtain ⟨bb, off, rfl, hlt, hc⟩ := (ht.ext hx).at_ hjn
      have hjl : j < ses.length := by omega
      have HH : Hid (ses[j].client = x → findAt CV.client ses x j = j) := Lib.hid (fun hk => findAt_hit hjl hk)
      have HM : Hid (ses[j].client ≠ x → findAt CV.client ses x j = findAt CV.client ses x (j + 1)) := Lib.hid (fun hk => findAt_miss hjl hk)
      generalize ses[j] = f at *
      have c0 : wr.cell? ⟨bb, off + j * 4, none⟩ = some (.int .i64 f.client) := hc 0 (by omega)
      clear hc
      generalize f.client = kk at *
      have hj0 : (0 : Int) ≤ j := by omega
      have hj1 : (j : Int) < n1 := by omega
      by_cases hk : kk = x
      · have H1 := Lib.hid (HF.out.trans (HH.out hk))
        clear HH HM HF
        subst hk
        go_wp2
        go_ret
        exact ⟨by rw [H1.out] <;> rfl, hx⟩
      · have H1 := Lib.hid (HF.out.trans (HM.out hk))
        have hk' := beq_f hk
        clear HH HM HF hk
        go_wp2
        go_roundw
        case rel => exact ⟨j + 1, val_int (by omega), by omega, H1.out, HB.out, hx⟩
        case measure => simp [intOf]; omega
    · obtain rfl : n1 = j := by omega
      have H1 := Lib.hid (HF.out.trans (findAt_end (by omega)))
      clear HF
      go_wp2
      go_ret
      exact ⟨by rw [H1.out] <;> rfl, hx⟩

set_option maxRecDepth 100000 in
set_option maxHeartbeats 800000 in
theorem st_Opened (s : KV) (x : Int) (w : World) (hs : s.Ok w) (hn : s.n2 ≤ 1000000) :
    Calls Try.prog 25 #[s.val, .int .i64 x] w fun e w' => e = .returned (.int .i64 (findAt OV.set s.ops x 0)) ∧ Ext w w' := by
  have ht := hs.t2
  obtain ⟨ver, next, keep, quota, A1, n1, c1, ses, A2, n2, c2, ops, A3, n3, c3, sns⟩ := s
  unfold KV.val
  dsimp only at hn ht ⊢
  have HP := Lib.hid (fun (w' : World) (h : Ext w w') => st_placeOpen A2 n2 c2 ops x w' (ht.ext h) hn)
  clear hs ht
  go_enter Try.func25, Try.ntmps25
  go_wp2_with (go_at_call 59; refine (HP.out _ ((Ext.refl w).alloc _)).mono ?_; rintro e w1 ⟨rfl, y1⟩)
  go_ret
  exact ⟨rfl, ((Ext.refl w).alloc _).trans y1⟩

set_option maxRecDepth 100000 in
set_option maxHeartbeats 800000 in
theorem ref07_Opened (s : KV) (x : Int) (w : World) (hs : s.Ok w) (hn : s.n2 ≤ 1000000) :
    Calls Try.prog 26 #[s.val, .int .i64 x] w fun e w' => e = .returned (.int .i64 (findAt OV.set s.ops x 0)) ∧ Ext w w' := by
  have ht := hs.t2
  obtain ⟨ver, next, keep, quota, A1, n1, c1, ses, A2, n2, c2, ops, A3, n3, c3, sns⟩ := s
  unfold KV.val
  dsimp only at hn ht ⊢
  have hlen := ht.len
  have hB0 := Blk.new w 26 [.int .i64 ver, .int .i64 next, .int .i64 keep, .int .i64 quota, .slice A1 n1 c1, .slice A2 n2 c2, .slice A3 n3 c3]
  go_enter Try.func26, Try.ntmps26
  go_wp2_with fail
  go_loopw [5] (fun i wr => ∃ j : Nat, i = .int .i64 j ∧ j ≤ n2 ∧ findAt OV.set ops x 0 = findAt OV.set ops x j ∧ Blk wr w.heap.size 26 [.int .i64 ver, .int .i64 next, .int .i64 keep, .int .i64 quota, .slice A1 n1 c1, .slice A2 n2 c2, .slice A3 n3 c3] ∧ Ext w wr) (fun i _ => n2 - (intOf i).toNat)
  case atStart => exact ⟨0, rfl, by omega, rfl, hB0, (Ext.refl w).alloc _⟩
  case round =>
    clear hB0
    obtain ⟨j, rfl, hj, hf, hB, hx⟩ := hrel
    have HF := Lib.hid hf; clear hf
    have d := hB.cell 5
    simp only [List.getElem?_cons_zero, List.getElem?_cons_succ] at d
    have HB := Lib.hid hB
    clear hB hs
    by_cases hjn : j < n2
    · obtain ⟨bb, off, rfl, hlt, hc⟩ := (ht.ext hx).at_ hjn
      have hjl : j < ops.length := by omega
      have HH : Hid (ops[j].set = x → findAt OV.set ops x j = j) := Lib.hid (fun hk => findAt_hit hjl hk)
      have HM : Hid (ops[j].set ≠ x → findAt OV.set ops x j = findAt OV.set ops x (j + 1)) := Lib.hid (fun hk => findAt_miss hjl hk)
      generalize ops[j] = f at *
      have c0 : wr.cell? ⟨bb, off + j * 2, none⟩ = some (.int .i64 f.set) := hc 0 (by omega)
      clear hc
      generalize f.set = kk at *
      have hj0 : (0 : Int) ≤ j := by omega
      have hj1 : (j : Int) < n2 := by omega
      by_cases hk : kk = x
      · have H1 := Lib.hid (HF.out.trans (HH.out hk))
        clear HH HM HF
        subst hk
        go_wp2
        go_ret
        exact ⟨by rw [H1.out] <;> rfl, hx⟩
      · have H1 := Lib.hid (HF.out.trans (HM.out hk))
        have hk' := beq_f hk
        clear HH HM HF hk
        go_wp2
        go_roundw
        case rel => exact ⟨j + 1, val_int (by omega), by omega, H1.out, HB.out, hx⟩
        case measure => simp [intOf]; omega
    · obtain rfl : n2 = j := by omega
      have H1 := Lib.hid (HF.out.trans (findAt_end (by omega)))
      clear HF
      go_wp2
      go_ret
      exact ⟨by rw [H1.out] <;> rfl, hx⟩

set_option maxRecDepth 100000 in
set_option maxHeartbeats 800000 in
theorem st_Snap (s : KV) (x : Int) (w : World) (hs : s.Ok w) (hn : s.n3 ≤ 1000000) :
    Calls Try.prog 27 #[s.val, .int .i64 x] w fun e w' => e = .returned (.int .i64 (findAt NV.id s.sns x 0)) ∧ Ext w w' := by
  have ht := hs.t3
  obtain ⟨ver, next, keep, quota, A1, n1, c1, ses, A2, n2, c2, ops, A3, n3, c3, sns⟩ := s
  unfold KV.val
  dsimp only at hn ht ⊢
  have HP := Lib.hid (fun (w' : World) (h : Ext w w') => st_placeSnap A3 n3 c3 sns x w' (ht.ext h) hn)
  clear hs ht
  go_enter Try.func27, Try.ntmps27
  go_wp2_with (go_at_call 60; refine (HP.out _ ((Ext.refl w).alloc _)).mono ?_; rintro e w1 ⟨rfl, y1⟩)
  go_ret
  exact ⟨rfl, ((Ext.refl w).alloc _).trans y1⟩

set_option maxRecDepth 100000 in
set_option maxHeartbeats 800000 in
theorem ref07_Snap (s : KV) (x : Int) (w : World) (hs : s.Ok w) (hn : s.n3 ≤ 1000000) :
    Calls Try.prog 28 #[s.val, .int .i64 x] w fun e w' => e = .returned (.int .i64 (findAt NV.id s.sns x 0)) ∧ Ext w w' := by
  have ht := hs.t3
  obtain ⟨ver, next, keep, quota, A1, n1, c1, ses, A2, n2, c2, ops, A3, n3, c3, sns⟩ := s
  unfold KV.val
  dsimp only at hn ht ⊢
  have hlen := ht.len
  have hB0 := Blk.new w 26 [.int .i64 ver, .int .i64 next, .int .i64 keep, .int .i64 quota, .slice A1 n1 c1, .slice A2 n2 c2, .slice A3 n3 c3]
  go_enter Try.func28, Try.ntmps28
  go_wp2_with fail
  go_loopw [5] (fun i wr => ∃ j : Nat, i = .int .i64 j ∧ j ≤ n3 ∧ findAt NV.id sns x 0 = findAt NV.id sns x j ∧ Blk wr w.heap.size 26 [.int .i64 ver, .int .i64 next, .int .i64 keep, .int .i64 quota, .slice A1 n1 c1, .slice A2 n2 c2, .slice A3 n3 c3] ∧ Ext w wr) (fun i _ => n3 - (intOf i).toNat)
  case atStart => exact ⟨0, rfl, by omega, rfl, hB0, (Ext.refl w).alloc _⟩
  case round =>
    clear hB0
    obtain ⟨j, rfl, hj, hf, hB, hx⟩ := hrel
    have HF := Lib.hid hf; clear hf
    have d := hB.cell 6
    simp only [List.getElem?_cons_zero, List.getElem?_cons_succ] at d
    have HB := Lib.hid hB
    clear hB hs
    by_cases hjn : j < n3
    · obtain ⟨bb, off, rfl, hlt, hc⟩ := (ht.ext hx).at_ hjn
      have hjl : j < sns.length := by omega
      have HH : Hid (sns[j].id = x → findAt NV.id sns x j = j) := Lib.hid (fun hk => findAt_hit hjl hk)
      have HM : Hid (sns[j].id ≠ x → findAt NV.id sns x j = findAt NV.id sns x (j + 1)) := Lib.hid (fun hk => findAt_miss hjl hk)
      generalize sns[j] = f at *
      have c0 : wr.cell? ⟨bb, off + j * 5, none⟩ = some (.int .i64 f.id) := hc 0 (by omega)
      clear hc
      generalize f.id = kk at *
      have hj0 : (0 : Int) ≤ j := by omega
      have hj1 : (j : Int) < n3 := by omega
      by_cases hk : kk = x
      · have H1 := Lib.hid (HF.out.trans (HH.out hk))
        clear HH HM HF
        subst hk
        go_wp2
        go_ret
        exact ⟨by rw [H1.out] <;> rfl, hx⟩
      · have H1 := Lib.hid (HF.out.trans (HM.out hk))
        have hk' := beq_f hk
        clear HH HM HF hk
        go_wp2
        go_roundw
        case rel => exact ⟨j + 1, val_int (by omega), by omega, H1.out, HB.out, hx⟩
        case measure => simp [intOf]; omega
    · obtain rfl : n3 = j := by omega
      have H1 := Lib.hid (HF.out.trans (findAt_end (by omega)))
      clear HF
      go_wp2
      go_ret
      exact ⟨by rw [H1.out] <;> rfl, hx⟩

end Go.Proofs.Ytiildgoaiookhaa

/- The walks of Kept of a catalogue. -/
namespace Go.Proofs.Ytiildgoaiookhaa
open Go.RowKit

theorem cut_things {α : Type} {size : Nat} [T : Thing α size] {P : Program} {t e : TypeId} {bytes : Nat} (S : SliceT P t e size bytes) (A : Option Addr) {n c lo : Nat} (hlo : lo ≤ n) (hnc : n ≤ c) (x : Int) (hx : x = lo) :
    ∃ A' c', n - lo ≤ c' ∧ (∀ w, (Instr.slice t (.slice A n c) (some (.int .i64 x)) none none).run P w = .ok (.slice A' (n - lo) c') w) ∧ ∀ w (l : List α), Ts w A n l → Ts w A' (n - lo) (l.drop lo) := by
  obtain ⟨A', c', h1, h2, h3⟩ := cut_from S A hlo hnc x hx
  exact ⟨A', c', h1, h2, fun w l h => ⟨by have := h3 w _ h.rd; rwa [← thingsOf_drop] at this, fun f hf => h.ok f (List.mem_of_mem_drop hf), h.pos⟩⟩

/-- how many are of a set -/
def cntS (S : Int) (l : List NV) : Nat := (l.filter (fun y => y.set == S)).length
theorem cntS_cons (S : Int) (f : NV) (l : List NV) : cntS S (f :: l) = (if f.set = S then 1 else 0) + cntS S l := by
  unfold cntS
  rw [List.filter_cons]
  by_cases h : f.set = S
  · simp [h]; omega
  · simp [h]
theorem cntS_snoc (S : Int) (l : List NV) (j : Nat) (h : j < l.length) : cntS S (l.take (j + 1)) = cntS S (l.take j) + if l[j].set = S then 1 else 0 := by
  unfold cntS
  rw [List.take_succ_eq_append_getElem h, List.filter_append, List.length_append]
  congr 1
  by_cases e : l[j].set = S <;> simp [e]
theorem cntS_le (S : Int) (l : List NV) : cntS S l ≤ l.length := List.length_filter_le _ _
/-- is a snapshot among the last ones of its set -/
def keptB (keep : Int) (l : List NV) (at_ : Int) : Bool :=
  if h : 0 ≤ at_ ∧ at_.toNat < l.length then decide ((cntS (l[at_.toNat]'h.2).set (l.drop (at_.toNat + 1)) : Int) < keep) else false
theorem keptB_at (keep : Int) (l : List NV) (i : Nat) (h : i < l.length) : keptB keep l i = decide ((cntS l[i].set (l.drop (i + 1)) : Int) < keep) := by
  unfold keptB
  rw [dif_pos ⟨by omega, by simpa using h⟩]
  simp
theorem keptB_out (keep : Int) (l : List NV) (at_ : Int) (h : at_ < 0 ∨ (l.length : Int) ≤ at_) : keptB keep l at_ = false := by
  unfold keptB
  rw [dif_neg (by omega)]

set_option maxRecDepth 100000 in
set_option maxHeartbeats 1600000 in
theorem st_Kept (s : KV) (at_ : Int) (w : World) (hs : s.Ok w) (hn : s.n3 ≤ 1000000) :
    Calls Try.prog 19 #[s.val, .int .i64 at_] w fun e w' => e = .returned (.bool (keptB s.keep s.sns at_)) ∧ Ext w w' := by
  have ht := hs.t3
  have hle := hs.le3
  obtain ⟨ver, next, keep, quota, A1, n1, c1, ses, A2, n2, c2, ops, A3, n3, c3, sns⟩ := s
  unfold KV.val
  dsimp only at hn ht hle ⊢
  have hlen := ht.len
  clear hs
  have hB0 := Blk.new w 26 [.int .i64 ver, .int .i64 next, .int .i64 keep, .int .i64 quota, .slice A1 n1 c1, .slice A2 n2 c2, .slice A3 n3 c3]
  by_cases h0 : at_ < 0
  · rw [keptB_out _ _ _ (.inl h0)]
    go_enter Try.func19, Try.ntmps19
    go_wp2
    go_ret
    exact ⟨rfl, (Ext.refl w).alloc _⟩
  · by_cases h1 : (n3 : Int) ≤ at_
    · rw [keptB_out _ _ _ (.inr (by omega))]
      have h2 : decide (at_ < 0) = false := dec_f h0
      go_enter Try.func19, Try.ntmps19
      go_wp2
      go_ret
      exact ⟨rfl, (Ext.refl w).alloc _⟩
    · obtain ⟨i, rfl⟩ := Int.eq_ofNat_of_zero_le (show 0 ≤ at_ by omega)
      have hin : i < n3 := by omega
      have hil : i < sns.length := by omega
      have hi0 : (0 : Int) ≤ i := by omega
      have hi1 : (i : Int) < n3 := by omega
      have hw1 : IntKind.i64.wrap ((i : Int) + 1) = (i : Int) + 1 := IntWalk.i64_in _ (by omega)
      rw [keptB_at _ _ _ hil]
      obtain ⟨A', c', hc', hsl, hts⟩ := cut_things (α := NV) (P := Try.prog) snapsT A3 (show i + 1 ≤ n3 by omega) hle ((i : Int) + 1) (by omega)
      have ht2 := hts _ _ ht
      have hlen2 := ht2.len
      obtain ⟨bb0, off0, rfl, hlt0, hc0⟩ := ht.at_ hin
      have k1 : w.cell? ⟨bb0, off0 + i * 5 + 1, none⟩ = some (.int .i64 sns[i].set) := hc0 1 (by omega)
      clear hc0 hts hc'
      generalize sns[i].set = S at *
      generalize sns.drop (i + 1) = R at *
      have hnr : n3 - (i + 1) ≤ 1000000 := by omega
      generalize n3 - (i + 1) = m at *
      clear ht hlen hil hle
      go_enter Try.func19, Try.ntmps19
      go_wp2_with fail
      go_loopw [5, 23] (fun q i wr => ∃ j : Nat, i = .int .i64 j ∧ j ≤ m ∧ q = .int .i64 (cntS S (R.take j)) ∧ Blk wr w.heap.size 26 [.int .i64 ver, .int .i64 next, .int .i64 keep, .int .i64 quota, .slice A1 n1 c1, .slice A2 n2 c2, .slice (some ⟨bb0, off0, none⟩) n3 c3] ∧ Ext w wr) (fun _ i _ => m - (intOf i).toNat)
      case atStart => exact ⟨0, rfl, by omega, by simp [cntS], hB0, (Ext.refl w).alloc _⟩
      case round =>
        clear hB0
        obtain ⟨j, rfl, hj, rfl, hB, hx⟩ := hrel
        have hcl := cntS_le S (R.take j)
        have hcl2 : (R.take j).length ≤ j := List.length_take_le _ _
        by_cases hjn : j < m
        · obtain ⟨bb, off, rfl, hlt, hc⟩ := (ht2.ext hx).at_ hjn
          have hjl : j < R.length := by omega
          have hsn := cntS_snoc S R j hjl
          generalize R[j] = f at *
          have c0 : wr.cell? ⟨bb, off + j * 5, none⟩ = some (.int .i64 f.id) := hc 0 (by omega)
          have c1_ : wr.cell? ⟨bb, off + j * 5 + 1, none⟩ = some (.int .i64 f.set) := hc 1 (by omega)
          have c2_ : wr.cell? ⟨bb, off + j * 5 + 2, none⟩ = some (.slice f.A f.len f.cap) := hc 2 (by omega)
          have c3_ : wr.cell? ⟨bb, off + j * 5 + 3, none⟩ = some (.bool f.held) := hc 3 (by omega)
          have c4_ : wr.cell? ⟨bb, off + j * 5 + 4, none⟩ = some (.string f.tag) := hc 4 (by omega)
          have xa : Ext wr (wr.alloc (.cells #[.int .i64 f.id, .int .i64 f.set, .slice f.A f.len f.cap, .bool f.held, .string f.tag] 33)) := (Ext.refl wr).alloc _
          have hBa := hB.alloc (.cells #[.int .i64 f.id, .int .i64 f.set, .slice f.A f.len f.cap, .bool f.held, .string f.tag] 33)
          have d6 := hBa.cell 6
          simp only [List.getElem?_cons_zero, List.getElem?_cons_succ] at d6
          have k2 := (hx.trans xa).cell k1
          have Hsn := Lib.hid hsn
          have HB := Lib.hid hB
          clear hc hsn hB hBa
          have hj0 : (0 : Int) ≤ j := by omega
          have hj1 : (j : Int) < m := by omega
          generalize cntS S (R.take j) = K at *
          by_cases hk : f.set = S
          · have Hk := Lib.hid hk
            have hk' := beq_t hk
            clear hk
            go_wp2
            go_quiet (fail)
            go_wp2
            go_roundw
            case rel => exact ⟨j + 1, val_int (by omega), by omega, val_int (by rw [Hsn.out, if_pos Hk.out]; omega), ((HB.out.alloc _).ext ((Ext.refl _).drewN _)), (hx.trans xa).drewN _⟩
            case measure => simp [intOf]; omega
          · have Hk := Lib.hid hk
            have hk' := beq_f hk
            clear hk
            go_wp2
            go_quiet (fail)
            go_wp2
            go_roundw
            case rel => exact ⟨j + 1, val_int (by omega), by omega, val_int (by rw [Hsn.out, if_neg Hk.out]; omega), ((HB.out.alloc _).ext ((Ext.refl _).drewN _)), (hx.trans xa).drewN _⟩
            case measure => simp [intOf]; omega
        · obtain rfl : m = j := by omega
          rw [List.take_of_length_le (by omega)]
          have d2 := hB.cell 2
          simp only [List.getElem?_cons_zero, List.getElem?_cons_succ] at d2
          clear hB
          go_wp2
          go_ret
          exact ⟨rfl, hx⟩
end Go.Proofs.Ytiildgoaiookhaa
