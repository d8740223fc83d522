/- The walks of place, rising and all of a catalogue. (Printed by wip/tools/stwalks.py.) -/
import Derived.Test.YtiildgoaiookhaaStA
import Derived.Test.YtiildgoaiookhaaSpec
namespace Go.Proofs.Ytiildgoaiookhaa
open Go.RowKit

/-- the first place from j on of a thing of that key, -1 without one -/
def findAt {α : Type} (key : α → Int) (l : List α) (x : Int) (j : Nat) : Int :=
  match (l.drop j).findIdx? (fun e => key e == x) with
  | some i => ((j + i : Nat) : Int)
  | none => -1
section
variable {α : Type} {key : α → Int} {l : List α} {x : Int} {j : Nat}
theorem findAt_hit (h : j < l.length) (hk : key l[j] = x) : findAt key l x j = j := by
  unfold findAt
  rw [List.drop_eq_getElem_cons h, List.findIdx?_cons]
  simp [hk]
theorem findAt_miss (h : j < l.length) (hk : key l[j] ≠ x) : findAt key l x j = findAt key l x (j + 1) := by
  unfold findAt
  rw [List.drop_eq_getElem_cons h, List.findIdx?_cons]
  have : (key l[j] == x) = false := beq_eq_false_iff_ne.2 hk
  rw [this]
  rcases (l.drop (j + 1)).findIdx? (fun e => key e == x) with _ | i
  · rfl
  · simp; omega
theorem findAt_end (h : l.length ≤ j) : findAt key l x j = -1 := by
  unfold findAt
  rw [List.drop_of_length_le h]; rfl
theorem findAt_lo : -1 ≤ findAt key l x j := by
  unfold findAt; split <;> omega
theorem findAt_hi : findAt key l x j < l.length ∨ findAt key l x j = -1 := by
  unfold findAt
  split
  · rename_i i h
    left
    have := (List.findIdx?_eq_some_iff_getElem.1 h).1
    rw [List.length_drop] at this
    omega
  · exact .inr rfl
/-- do keys rise, each from a + 1 to most -/
def risB (key : α → Int) (most : Int) : Int → List α → Bool
  | _, [] => true
  | a, e :: r => inI (key e) (a + 1) most && risB key most (key e) r
theorem risB_nil (key : α → Int) (most a : Int) : risB key most a [] = true := rfl
theorem risB_cons (key : α → Int) (most a : Int) (e : α) (r : List α) : risB key most a (e :: r) = (inI (key e) (a + 1) most && risB key most (key e) r) := rfl
end

set_option maxRecDepth 100000 in
set_option maxHeartbeats 800000 in
theorem st_placeSess (A : Option Addr) (n c : Nat) (l : List CV) (x : Int) (w : World) (h : Ts w A n l) (hn : n ≤ 1000000) :
    Calls Try.prog 58 #[.slice A n c, .int .i64 x, .func (.func 44) #[] #[]] w fun e w' => e = .returned (.int .i64 (findAt CV.client l x 0)) ∧ Ext w w' := by
  have hlen := h.len
  go_enter Try.func58, Try.ntmps58
  go_wp2_with fail
  go_loopw [11] (fun i wr => ∃ j : Nat, i = .int .i64 j ∧ j ≤ n ∧ findAt CV.client l x 0 = findAt CV.client l x j ∧ Ext w wr) (fun i _ => n - (intOf i).toNat)
  case atStart => exact ⟨0, rfl, by omega, rfl, Ext.refl w⟩
  case round =>
    obtain ⟨j, rfl, hj, hf, hx⟩ := hrel
    have HF := Lib.hid hf; clear hf
    by_cases hjn : j < n
    · obtain ⟨bb, off, rfl, hlt, hc⟩ := (h.ext hx).at_ hjn
      have hjl : j < l.length := by omega
      have HH : Hid (l[j].client = x → findAt CV.client l x j = j) := Lib.hid (fun hk => findAt_hit hjl hk)
      have HM : Hid (l[j].client ≠ x → findAt CV.client l x j = findAt CV.client l x (j + 1)) := Lib.hid (fun hk => findAt_miss hjl hk)
      generalize l[j] = f at *
      have c0 : wr.cell? ⟨bb, off + j * 4, none⟩ = some (.int .i64 f.client) := hc 0 (by omega)
      have c1 : wr.cell? ⟨bb, off + j * 4 + 1, none⟩ = some (.int .i64 f.seq) := hc 1 (by omega)
      have c2 : wr.cell? ⟨bb, off + j * 4 + 2, none⟩ = some (.int .i64 f.code) := hc 2 (by omega)
      have c3 : wr.cell? ⟨bb, off + j * 4 + 3, none⟩ = some (.int .i64 f.n) := hc 3 (by omega)
      clear hc
      obtain ⟨a, b, c, d⟩ := f
      dsimp only at HH HM c0 c1 c2 c3
      have xa : Ext wr (wr.alloc (.cells #[.int .i64 a, .int .i64 b, .int .i64 c, .int .i64 d] 45)) := (Ext.refl wr).alloc _
      by_cases hk : a = x
      · have H1 := Lib.hid (HF.out.trans (HH.out hk))
        clear HH HM HF
        subst hk
        go_wp2_with (first
          | (refine wpList_named 44 (by rfl) ?_)
          | (go_at_call 44; refine (st_clientOf ⟨a, b, c, d⟩ _).mono ?_; rintro e w1 ⟨rfl, yw1⟩))
        go_ret
        exact ⟨by rw [H1.out] <;> rfl, (hx.trans xa).trans yw1⟩
      · have H1 := Lib.hid (HF.out.trans (HM.out hk))
        have hk' := beq_f hk
        clear HH HM HF hk
        go_wp2_with (first
          | (refine wpList_named 44 (by rfl) ?_)
          | (go_at_call 44; refine (st_clientOf ⟨a, b, c, d⟩ _).mono ?_; rintro e w1 ⟨rfl, yw1⟩))
        go_roundw
        case rel => exact ⟨j + 1, val_int (by omega), by omega, H1.out, (hx.trans xa).trans yw1⟩
        case measure => simp [intOf]; omega
    · obtain rfl : n = j := by omega
      have H1 := Lib.hid (HF.out.trans (findAt_end (by omega)))
      clear HF
      go_wp2
      go_ret
      exact ⟨by rw [H1.out] <;> rfl, hx⟩

set_option maxRecDepth 100000 in
set_option maxHeartbeats 800000 in
theorem st_risingSess (A : Option Addr) (n c : Nat) (l : List CV) (most : Int) (w : World) (h : Ts w A n l) (hn : n ≤ 1000000) (hm : most ≤ 1048576) :
    Calls Try.prog 43 #[.slice A n c, .int .i64 most, .func (.func 44) #[] #[]] w fun e w' => e = .returned (.bool (risB CV.client most 0 l)) ∧ Ext w w' := by
  have hlen := h.len
  go_enter Try.func43, Try.ntmps43
  go_wp2_with fail
  go_loopw [7, 12] (fun q i wr => ∃ (j : Nat) (ah : Int), i = .int .i64 j ∧ q = .int .i64 ah ∧ 0 ≤ ah ∧ ah ≤ 1048576 ∧ j ≤ n ∧ risB CV.client most 0 l = risB CV.client most ah (l.drop j) ∧ Ext w wr) (fun _ i _ => n - (intOf i).toNat)
  case atStart => exact ⟨0, 0, rfl, rfl, by omega, by omega, by omega, rfl, Ext.refl w⟩
  case round =>
    obtain ⟨j, ah, rfl, rfl, ha0, ha1, hj, hf, hx⟩ := hrel
    by_cases hjn : j < n
    · obtain ⟨bb, off, rfl, hlt, hc⟩ := (h.ext hx).at_ hjn
      rw [List.drop_eq_getElem_cons (show j < l.length by omega)] at hf
      generalize l[j]'(by omega) = f at *
      have c0 : wr.cell? ⟨bb, off + j * 4, none⟩ = some (.int .i64 f.client) := hc 0 (by omega)
      have c1 : wr.cell? ⟨bb, off + j * 4 + 1, none⟩ = some (.int .i64 f.seq) := hc 1 (by omega)
      have c2 : wr.cell? ⟨bb, off + j * 4 + 2, none⟩ = some (.int .i64 f.code) := hc 2 (by omega)
      have c3 : wr.cell? ⟨bb, off + j * 4 + 3, none⟩ = some (.int .i64 f.n) := hc 3 (by omega)
      clear hc
      obtain ⟨a, b, c, d⟩ := f
      rw [risB_cons] at hf
      dsimp only at hf c0 c1 c2 c3
      have xa : Ext wr (wr.alloc (.cells #[.int .i64 a, .int .i64 b, .int .i64 c, .int .i64 d] 45)) := (Ext.refl wr).alloc _
      have hB := Blk.new wr 45 [.int .i64 a, .int .i64 b, .int .i64 c, .int .i64 d]
      have hI := fun h1 h2 => (inI_t (n := a) (lo := ah + 1) (hi := most) h1 h2)
      rcases hb : inI a (ah + 1) most with _ | _
      · rw [hb, Bool.false_and] at hf
        have HF := Lib.hid hf
        have HW := Lib.hid (fun w => st_within a (ah + 1) most false hb w)
        clear hf hb hI hB
        go_wp2_with (first
          | (refine wpList_named 44 (by rfl) ?_)
          | (go_at_call 44; refine (st_clientOf ⟨a, b, c, d⟩ _).mono ?_; rintro e w1 ⟨rfl, yw1⟩)
          | (go_at_call 42; refine (HW.out _).mono ?_; rintro e w2 ⟨rfl, rfl⟩))
        go_ret
        exact ⟨by rw [HF.out] <;> rfl, (hx.trans xa).trans yw1⟩
      · rw [hb, Bool.true_and] at hf
        have HF := Lib.hid hf
        have HW := Lib.hid (fun w => st_within a (ah + 1) most true hb w)
        obtain ⟨hl, hh⟩ := inI_iff.1 hb
        have K1 : Hid (Calls Try.prog 44 #[.agg #[.int .i64 a, .int .i64 b, .int .i64 c, .int .i64 d]] (wr.alloc (.cells #[.int .i64 a, .int .i64 b, .int .i64 c, .int .i64 d] 45)) fun e w' => e = .returned (.int .i64 a) ∧ Ext (wr.alloc (.cells #[.int .i64 a, .int .i64 b, .int .i64 c, .int .i64 d] 45)) w') := Lib.hid (st_clientOf ⟨a, b, c, d⟩ _)
        clear hf hb hI
        go_wp2_with (first
          | (refine wpList_named 44 (by rfl) ?_)
          | (go_at_call 44; ((with_reducible refine K1.out.mono ?_); rintro e w1 ⟨rfl, yw1⟩; have hB1 := hB.ext yw1; have d0 := hB1.cell 0; have d1 := hB1.cell 1; have d2 := hB1.cell 2; have d3 := hB1.cell 3; simp only [List.getElem?_cons_zero, List.getElem?_cons_succ] at d0 d1 d2 d3))
          | (go_at_call 44; refine (st_clientOf ⟨a, b, c, d⟩ _).mono ?_; rintro e w3 ⟨rfl, yw3⟩)
          | (go_at_call 42; refine (HW.out _).mono ?_; rintro e w2 ⟨rfl, rfl⟩))
        go_roundw
        case rel => exact ⟨j + 1, a, val_int (by omega), rfl, by omega, by omega, by omega, HF.out, ((hx.trans xa).trans yw1).trans yw3⟩
        case measure => simp [intOf]; omega
    · obtain rfl : n = j := by omega
      rw [List.drop_of_length_le (by omega), risB_nil] at hf
      have H1 := Lib.hid hf
      clear hf
      go_wp2
      go_ret
      exact ⟨by rw [H1.out] <;> rfl, hx⟩

set_option maxRecDepth 100000 in
set_option maxHeartbeats 800000 in
theorem st_allSess (A : Option Addr) (n c : Nat) (l : List CV) (w : World) (h : Ts w A n l) (hn : n ≤ 1000000) :
    Calls Try.prog 45 #[.slice A n c, .func (.func 46) #[] #[]] w fun e w' => e = .returned (.bool (l.all sesB)) ∧ Ext w w' := by
  have hlen := h.len
  go_enter Try.func45, Try.ntmps45
  go_wp2_with fail
  go_loopw [9] (fun i wr => ∃ j : Nat, i = .int .i64 j ∧ j ≤ n ∧ l.all sesB = (l.drop j).all sesB ∧ Ext w wr) (fun i _ => n - (intOf i).toNat)
  case atStart => exact ⟨0, rfl, by omega, rfl, Ext.refl w⟩
  case round =>
    obtain ⟨j, rfl, hj, hf, hx⟩ := hrel
    by_cases hjn : j < n
    · obtain ⟨bb, off, rfl, hlt, hc⟩ := (h.ext hx).at_ hjn
      have hok : CV.Ok (l[j]'(by omega)) w := h.ok (l[j]'(by omega)) (List.getElem_mem _)
      rw [List.drop_eq_getElem_cons (show j < l.length by omega), List.all_cons] at hf
      generalize l[j]'(by omega) = f at *
      have c0 : wr.cell? ⟨bb, off + j * 4, none⟩ = some (.int .i64 f.client) := hc 0 (by omega)
      have c1 : wr.cell? ⟨bb, off + j * 4 + 1, none⟩ = some (.int .i64 f.seq) := hc 1 (by omega)
      have c2 : wr.cell? ⟨bb, off + j * 4 + 2, none⟩ = some (.int .i64 f.code) := hc 2 (by omega)
      have c3 : wr.cell? ⟨bb, off + j * 4 + 3, none⟩ = some (.int .i64 f.n) := hc 3 (by omega)
      clear hc
      rcases hb : sesB f with _ | _
      · rw [hb, Bool.false_and] at hf
        have HF := Lib.hid hf
        have HW := Lib.hid (fun w => st_May1 f (hok.u2) false hb w)
        obtain ⟨a, b, c, d⟩ := f
        dsimp only at c0 c1 c2 c3
        have xa : Ext wr (wr.alloc (.cells #[.int .i64 a, .int .i64 b, .int .i64 c, .int .i64 d] 45)) := (Ext.refl wr).alloc _
        clear hf hb hok
        go_wp2_with (first
          | (refine wpList_named 46 (by rfl) ?_)
          | (go_at_call 46; refine (HW.out _).mono ?_; rintro e w1 ⟨rfl, yw1⟩))
        go_ret
        exact ⟨by rw [HF.out] <;> rfl, (hx.trans xa).trans yw1⟩
      · rw [hb, Bool.true_and] at hf
        have HF := Lib.hid hf
        have HW := Lib.hid (fun w => st_May1 f (hok.u2) true hb w)
        obtain ⟨a, b, c, d⟩ := f
        dsimp only at c0 c1 c2 c3
        have xa : Ext wr (wr.alloc (.cells #[.int .i64 a, .int .i64 b, .int .i64 c, .int .i64 d] 45)) := (Ext.refl wr).alloc _
        clear hf hb hok
        go_wp2_with (first
          | (refine wpList_named 46 (by rfl) ?_)
          | (go_at_call 46; refine (HW.out _).mono ?_; rintro e w1 ⟨rfl, yw1⟩))
        go_roundw
        case rel => exact ⟨j + 1, val_int (by omega), by omega, HF.out, (hx.trans xa).trans yw1⟩
        case measure => simp [intOf]; omega
    · obtain rfl : n = j := by omega
      rw [List.drop_of_length_le (by omega), List.all_nil] at hf
      have H1 := Lib.hid hf
      clear hf
      go_wp2
      go_ret
      exact ⟨by rw [H1.out] <;> rfl, hx⟩

set_option maxRecDepth 100000 in
set_option maxHeartbeats 800000 in
theorem st_placeOpen (A : Option Addr) (n c : Nat) (l : List OV) (x : Int) (w : World) (h : Ts w A n l) (hn : n ≤ 1000000) :
    Calls Try.prog 59 #[.slice A n c, .int .i64 x, .func (.func 48) #[] #[]] w fun e w' => e = .returned (.int .i64 (findAt OV.set l x 0)) ∧ Ext w w' := by
  have hlen := h.len
  go_enter Try.func59, Try.ntmps59
  go_wp2_with fail
  go_loopw [11] (fun i wr => ∃ j : Nat, i = .int .i64 j ∧ j ≤ n ∧ findAt OV.set l x 0 = findAt OV.set l x j ∧ Ext w wr) (fun i _ => n - (intOf i).toNat)
  case atStart => exact ⟨0, rfl, by omega, rfl, Ext.refl w⟩
  case round =>
    obtain ⟨j, rfl, hj, hf, hx⟩ := hrel
    have HF := Lib.hid hf; clear hf
    by_cases hjn : j < n
    · obtain ⟨bb, off, rfl, hlt, hc⟩ := (h.ext hx).at_ hjn
      have hjl : j < l.length := by omega
      have HH : Hid (l[j].set = x → findAt OV.set l x j = j) := Lib.hid (fun hk => findAt_hit hjl hk)
      have HM : Hid (l[j].set ≠ x → findAt OV.set l x j = findAt OV.set l x (j + 1)) := Lib.hid (fun hk => findAt_miss hjl hk)
      generalize l[j] = f at *
      have c0 : wr.cell? ⟨bb, off + j * 2, none⟩ = some (.int .i64 f.set) := hc 0 (by omega)
      have c1 : wr.cell? ⟨bb, off + j * 2 + 1, none⟩ = some (.int .i64 f.client) := hc 1 (by omega)
      clear hc
      obtain ⟨a, b⟩ := f
      dsimp only at HH HM c0 c1
      have xa : Ext wr (wr.alloc (.cells #[.int .i64 a, .int .i64 b] 47)) := (Ext.refl wr).alloc _
      by_cases hk : a = x
      · have H1 := Lib.hid (HF.out.trans (HH.out hk))
        clear HH HM HF
        subst hk
        go_wp2_with (first
          | (refine wpList_named 48 (by rfl) ?_)
          | (go_at_call 48; refine (st_setOf ⟨a, b⟩ _).mono ?_; rintro e w1 ⟨rfl, yw1⟩))
        go_ret
        exact ⟨by rw [H1.out] <;> rfl, (hx.trans xa).trans yw1⟩
      · have H1 := Lib.hid (HF.out.trans (HM.out hk))
        have hk' := beq_f hk
        clear HH HM HF hk
        go_wp2_with (first
          | (refine wpList_named 48 (by rfl) ?_)
          | (go_at_call 48; refine (st_setOf ⟨a, b⟩ _).mono ?_; rintro e w1 ⟨rfl, yw1⟩))
        go_roundw
        case rel => exact ⟨j + 1, val_int (by omega), by omega, H1.out, (hx.trans xa).trans yw1⟩
        case measure => simp [intOf]; omega
    · obtain rfl : n = j := by omega
      have H1 := Lib.hid (HF.out.trans (findAt_end (by omega)))
      clear HF
      go_wp2
      go_ret
      exact ⟨by rw [H1.out] <;> rfl, hx⟩

set_option maxRecDepth 100000 in
set_option maxHeartbeats 800000 in
theorem st_risingOpen (A : Option Addr) (n c : Nat) (l : List OV) (most : Int) (w : World) (h : Ts w A n l) (hn : n ≤ 1000000) (hm : most ≤ 1048576) :
    Calls Try.prog 47 #[.slice A n c, .int .i64 most, .func (.func 48) #[] #[]] w fun e w' => e = .returned (.bool (risB OV.set most 0 l)) ∧ Ext w w' := by
  have hlen := h.len
  go_enter Try.func47, Try.ntmps47
  go_wp2_with fail
  go_loopw [7, 12] (fun q i wr => ∃ (j : Nat) (ah : Int), i = .int .i64 j ∧ q = .int .i64 ah ∧ 0 ≤ ah ∧ ah ≤ 1048576 ∧ j ≤ n ∧ risB OV.set most 0 l = risB OV.set most ah (l.drop j) ∧ Ext w wr) (fun _ i _ => n - (intOf i).toNat)
  case atStart => exact ⟨0, 0, rfl, rfl, by omega, by omega, by omega, rfl, Ext.refl w⟩
  case round =>
    obtain ⟨j, ah, rfl, rfl, ha0, ha1, hj, hf, hx⟩ := hrel
    by_cases hjn : j < n
    · obtain ⟨bb, off, rfl, hlt, hc⟩ := (h.ext hx).at_ hjn
      rw [List.drop_eq_getElem_cons (show j < l.length by omega)] at hf
      generalize l[j]'(by omega) = f at *
      have c0 : wr.cell? ⟨bb, off + j * 2, none⟩ = some (.int .i64 f.set) := hc 0 (by omega)
      have c1 : wr.cell? ⟨bb, off + j * 2 + 1, none⟩ = some (.int .i64 f.client) := hc 1 (by omega)
      clear hc
      obtain ⟨a, b⟩ := f
      rw [risB_cons] at hf
      dsimp only at hf c0 c1
      have xa : Ext wr (wr.alloc (.cells #[.int .i64 a, .int .i64 b] 47)) := (Ext.refl wr).alloc _
      have hB := Blk.new wr 47 [.int .i64 a, .int .i64 b]
      have hI := fun h1 h2 => (inI_t (n := a) (lo := ah + 1) (hi := most) h1 h2)
      rcases hb : inI a (ah + 1) most with _ | _
      · rw [hb, Bool.false_and] at hf
        have HF := Lib.hid hf
        have HW := Lib.hid (fun w => st_within a (ah + 1) most false hb w)
        clear hf hb hI hB
        go_wp2_with (first
          | (refine wpList_named 48 (by rfl) ?_)
          | (go_at_call 48; refine (st_setOf ⟨a, b⟩ _).mono ?_; rintro e w1 ⟨rfl, yw1⟩)
          | (go_at_call 42; refine (HW.out _).mono ?_; rintro e w2 ⟨rfl, rfl⟩))
        go_ret
        exact ⟨by rw [HF.out] <;> rfl, (hx.trans xa).trans yw1⟩
      · rw [hb, Bool.true_and] at hf
        have HF := Lib.hid hf
        have HW := Lib.hid (fun w => st_within a (ah + 1) most true hb w)
        obtain ⟨hl, hh⟩ := inI_iff.1 hb
        have K1 : Hid (Calls Try.prog 48 #[.agg #[.int .i64 a, .int .i64 b]] (wr.alloc (.cells #[.int .i64 a, .int .i64 b] 47)) fun e w' => e = .returned (.int .i64 a) ∧ Ext (wr.alloc (.cells #[.int .i64 a, .int .i64 b] 47)) w') := Lib.hid (st_setOf ⟨a, b⟩ _)
        clear hf hb hI
        go_wp2_with (first
          | (refine wpList_named 48 (by rfl) ?_)
          | (go_at_call 48; ((with_reducible refine K1.out.mono ?_); rintro e w1 ⟨rfl, yw1⟩; have hB1 := hB.ext yw1; have d0 := hB1.cell 0; have d1 := hB1.cell 1; simp only [List.getElem?_cons_zero, List.getElem?_cons_succ] at d0 d1))
          | (go_at_call 48; refine (st_setOf ⟨a, b⟩ _).mono ?_; rintro e w3 ⟨rfl, yw3⟩)
          | (go_at_call 42; refine (HW.out _).mono ?_; rintro e w2 ⟨rfl, rfl⟩))
        go_roundw
        case rel => exact ⟨j + 1, a, val_int (by omega), rfl, by omega, by omega, by omega, HF.out, ((hx.trans xa).trans yw1).trans yw3⟩
        case measure => simp [intOf]; omega
    · obtain rfl : n = j := by omega
      rw [List.drop_of_length_le (by omega), risB_nil] at hf
      have H1 := Lib.hid hf
      clear hf
      go_wp2
      go_ret
      exact ⟨by rw [H1.out] <;> rfl, hx⟩

set_option maxRecDepth 100000 in
set_option maxHeartbeats 800000 in
theorem st_allOpen (A : Option Addr) (n c : Nat) (l : List OV) (w : World) (h : Ts w A n l) (hn : n ≤ 1000000) :
    Calls Try.prog 49 #[.slice A n c, .func (.func 50) #[] #[]] w fun e w' => e = .returned (.bool (l.all opnB)) ∧ Ext w w' := by
  have hlen := h.len
  go_enter Try.func49, Try.ntmps49
  go_wp2_with fail
  go_loopw [9] (fun i wr => ∃ j : Nat, i = .int .i64 j ∧ j ≤ n ∧ l.all opnB = (l.drop j).all opnB ∧ Ext w wr) (fun i _ => n - (intOf i).toNat)
  case atStart => exact ⟨0, rfl, by omega, rfl, Ext.refl w⟩
  case round =>
    obtain ⟨j, rfl, hj, hf, hx⟩ := hrel
    by_cases hjn : j < n
    · obtain ⟨bb, off, rfl, hlt, hc⟩ := (h.ext hx).at_ hjn
      have hok : OV.Ok (l[j]'(by omega)) w := h.ok (l[j]'(by omega)) (List.getElem_mem _)
      rw [List.drop_eq_getElem_cons (show j < l.length by omega), List.all_cons] at hf
      generalize l[j]'(by omega) = f at *
      have c0 : wr.cell? ⟨bb, off + j * 2, none⟩ = some (.int .i64 f.set) := hc 0 (by omega)
      have c1 : wr.cell? ⟨bb, off + j * 2 + 1, none⟩ = some (.int .i64 f.client) := hc 1 (by omega)
      clear hc
      rcases hb : opnB f with _ | _
      · rw [hb, Bool.false_and] at hf
        have HF := Lib.hid hf
        have HW := Lib.hid (fun w => st_May2 f false hb w)
        obtain ⟨a, b⟩ := f
        dsimp only at c0 c1
        have xa : Ext wr (wr.alloc (.cells #[.int .i64 a, .int .i64 b] 47)) := (Ext.refl wr).alloc _
        clear hf hb hok
        go_wp2_with (first
          | (refine wpList_named 50 (by rfl) ?_)
          | (go_at_call 50; refine (HW.out _).mono ?_; rintro e w1 ⟨rfl, yw1⟩))
        go_ret
        exact ⟨by rw [HF.out] <;> rfl, (hx.trans xa).trans yw1⟩
      · rw [hb, Bool.true_and] at hf
        have HF := Lib.hid hf
        have HW := Lib.hid (fun w => st_May2 f true hb w)
        obtain ⟨a, b⟩ := f
        dsimp only at c0 c1
        have xa : Ext wr (wr.alloc (.cells #[.int .i64 a, .int .i64 b] 47)) := (Ext.refl wr).alloc _
        clear hf hb hok
        go_wp2_with (first
          | (refine wpList_named 50 (by rfl) ?_)
          | (go_at_call 50; refine (HW.out _).mono ?_; rintro e w1 ⟨rfl, yw1⟩))
        go_roundw
        case rel => exact ⟨j + 1, val_int (by omega), by omega, HF.out, (hx.trans xa).trans yw1⟩
        case measure => simp [intOf]; omega
    · obtain rfl : n = j := by omega
      rw [List.drop_of_length_le (by omega), List.all_nil] at hf
      have H1 := Lib.hid hf
      clear hf
      go_wp2
      go_ret
      exact ⟨by rw [H1.out] <;> rfl, hx⟩

set_option maxRecDepth 100000 in
set_option maxHeartbeats 800000 in
theorem st_placeSnap (A : Option Addr) (n c : Nat) (l : List NV) (x : Int) (w : World) (h : Ts w A n l) (hn : n ≤ 1000000) :
    Calls Try.prog 60 #[.slice A n c, .int .i64 x, .func (.func 61) #[] #[]] w fun e w' => e = .returned (.int .i64 (findAt NV.id l x 0)) ∧ Ext w w' := by
  have hlen := h.len
  go_enter Try.func60, Try.ntmps60
  go_wp2_with fail
  go_loopw [11] (fun i wr => ∃ j : Nat, i = .int .i64 j ∧ j ≤ n ∧ findAt NV.id l x 0 = findAt NV.id l x j ∧ Ext w wr) (fun i _ => n - (intOf i).toNat)
  case atStart => exact ⟨0, rfl, by omega, rfl, Ext.refl w⟩
  case round =>
    obtain ⟨j, rfl, hj, hf, hx⟩ := hrel
    have HF := Lib.hid hf; clear hf
    by_cases hjn : j < n
    · obtain ⟨bb, off, rfl, hlt, hc⟩ := (h.ext hx).at_ hjn
      have hjl : j < l.length := by omega
      have HH : Hid (l[j].id = x → findAt NV.id l x j = j) := Lib.hid (fun hk => findAt_hit hjl hk)
      have HM : Hid (l[j].id ≠ x → findAt NV.id l x j = findAt NV.id l x (j + 1)) := Lib.hid (fun hk => findAt_miss hjl hk)
      generalize l[j] = f at *
      have c0 : wr.cell? ⟨bb, off + j * 5, none⟩ = some (.int .i64 f.id) := hc 0 (by omega)
      have c1 : wr.cell? ⟨bb, off + j * 5 + 1, none⟩ = some (.int .i64 f.set) := hc 1 (by omega)
      have c2 : wr.cell? ⟨bb, off + j * 5 + 2, none⟩ = some (.slice f.A f.len f.cap) := hc 2 (by omega)
      have c3 : wr.cell? ⟨bb, off + j * 5 + 3, none⟩ = some (.bool f.held) := hc 3 (by omega)
      have c4 : wr.cell? ⟨bb, off + j * 5 + 4, none⟩ = some (.string f.tag) := hc 4 (by omega)
      clear hc
      obtain ⟨a, b, A, ln, cp, ch, hd, tg⟩ := f
      dsimp only at HH HM c0 c1 c2 c3 c4
      have xa : Ext wr (wr.alloc (.cells #[.int .i64 a, .int .i64 b, .slice A ln cp, .bool hd, .string tg] 33)) := (Ext.refl wr).alloc _
      by_cases hk : a = x
      · have H1 := Lib.hid (HF.out.trans (HH.out hk))
        clear HH HM HF
        subst hk
        go_wp2_with (first
          | (refine wpList_named 61 (by rfl) ?_)
          | (go_at_call 61; refine (st_idOf ⟨a, b, A, ln, cp, ch, hd, tg⟩ _).mono ?_; rintro e w1 ⟨rfl, yw1⟩))
        go_ret
        exact ⟨by rw [H1.out] <;> rfl, (hx.trans xa).trans yw1⟩
      · have H1 := Lib.hid (HF.out.trans (HM.out hk))
        have hk' := beq_f hk
        clear HH HM HF hk
        go_wp2_with (first
          | (refine wpList_named 61 (by rfl) ?_)
          | (go_at_call 61; refine (st_idOf ⟨a, b, A, ln, cp, ch, hd, tg⟩ _).mono ?_; rintro e w1 ⟨rfl, yw1⟩))
        go_roundw
        case rel => exact ⟨j + 1, val_int (by omega), by omega, H1.out, (hx.trans xa).trans yw1⟩
        case measure => simp [intOf]; omega
    · obtain rfl : n = j := by omega
      have H1 := Lib.hid (HF.out.trans (findAt_end (by omega)))
      clear HF
      go_wp2
      go_ret
      exact ⟨by rw [H1.out] <;> rfl, hx⟩

set_option maxRecDepth 100000 in
set_option maxHeartbeats 800000 in
theorem st_risingSnap (A : Option Addr) (n c : Nat) (l : List NV) (most : Int) (w : World) (h : Ts w A n l) (hn : n ≤ 1000000) (hm : most ≤ 1048576) :
    Calls Try.prog 89 #[.slice A n c, .int .i64 most, .func (.func 61) #[] #[]] w fun e w' => e = .returned (.bool (risB NV.id most 0 l)) ∧ Ext w w' := by
  have hlen := h.len
  go_enter Try.func89, Try.ntmps89
  go_wp2_with fail
  go_loopw [7, 12] (fun q i wr => ∃ (j : Nat) (ah : Int), i = .int .i64 j ∧ q = .int .i64 ah ∧ 0 ≤ ah ∧ ah ≤ 1048576 ∧ j ≤ n ∧ risB NV.id most 0 l = risB NV.id most ah (l.drop j) ∧ Ext w wr) (fun _ i _ => n - (intOf i).toNat)
  case atStart => exact ⟨0, 0, rfl, rfl, by omega, by omega, by omega, rfl, Ext.refl w⟩
  case round =>
    obtain ⟨j, ah, rfl, rfl, ha0, ha1, hj, hf, hx⟩ := hrel
    by_cases hjn : j < n
    · obtain ⟨bb, off, rfl, hlt, hc⟩ := (h.ext hx).at_ hjn
      rw [List.drop_eq_getElem_cons (show j < l.length by omega)] at hf
      generalize l[j]'(by omega) = f at *
      have c0 : wr.cell? ⟨bb, off + j * 5, none⟩ = some (.int .i64 f.id) := hc 0 (by omega)
      have c1 : wr.cell? ⟨bb, off + j * 5 + 1, none⟩ = some (.int .i64 f.set) := hc 1 (by omega)
      have c2 : wr.cell? ⟨bb, off + j * 5 + 2, none⟩ = some (.slice f.A f.len f.cap) := hc 2 (by omega)
      have c3 : wr.cell? ⟨bb, off + j * 5 + 3, none⟩ = some (.bool f.held) := hc 3 (by omega)
      have c4 : wr.cell? ⟨bb, off + j * 5 + 4, none⟩ = some (.string f.tag) := hc 4 (by omega)
      clear hc
      obtain ⟨a, b, A, ln, cp, ch, hd, tg⟩ := f
      rw [risB_cons] at hf
      dsimp only at hf c0 c1 c2 c3 c4
      have xa : Ext wr (wr.alloc (.cells #[.int .i64 a, .int .i64 b, .slice A ln cp, .bool hd, .string tg] 33)) := (Ext.refl wr).alloc _
      have hB := Blk.new wr 33 [.int .i64 a, .int .i64 b, .slice A ln cp, .bool hd, .string tg]
      have hI := fun h1 h2 => (inI_t (n := a) (lo := ah + 1) (hi := most) h1 h2)
      rcases hb : inI a (ah + 1) most with _ | _
      · rw [hb, Bool.false_and] at hf
        have HF := Lib.hid hf
        have HW := Lib.hid (fun w => st_within a (ah + 1) most false hb w)
        clear hf hb hI hB
        go_wp2_with (first
          | (refine wpList_named 61 (by rfl) ?_)
          | (go_at_call 61; refine (st_idOf ⟨a, b, A, ln, cp, ch, hd, tg⟩ _).mono ?_; rintro e w1 ⟨rfl, yw1⟩)
          | (go_at_call 42; refine (HW.out _).mono ?_; rintro e w2 ⟨rfl, rfl⟩))
        go_ret
        exact ⟨by rw [HF.out] <;> rfl, (hx.trans xa).trans yw1⟩
      · rw [hb, Bool.true_and] at hf
        have HF := Lib.hid hf
        have HW := Lib.hid (fun w => st_within a (ah + 1) most true hb w)
        obtain ⟨hl, hh⟩ := inI_iff.1 hb
        have K1 : Hid (Calls Try.prog 61 #[.agg #[.int .i64 a, .int .i64 b, .slice A ln cp, .bool hd, .string tg]] (wr.alloc (.cells #[.int .i64 a, .int .i64 b, .slice A ln cp, .bool hd, .string tg] 33)) fun e w' => e = .returned (.int .i64 a) ∧ Ext (wr.alloc (.cells #[.int .i64 a, .int .i64 b, .slice A ln cp, .bool hd, .string tg] 33)) w') := Lib.hid (st_idOf ⟨a, b, A, ln, cp, ch, hd, tg⟩ _)
        clear hf hb hI
        go_wp2_with (first
          | (refine wpList_named 61 (by rfl) ?_)
          | (go_at_call 61; ((with_reducible refine K1.out.mono ?_); rintro e w1 ⟨rfl, yw1⟩; have hB1 := hB.ext yw1; have d0 := hB1.cell 0; have d1 := hB1.cell 1; have d2 := hB1.cell 2; have d3 := hB1.cell 3; have d4 := hB1.cell 4; simp only [List.getElem?_cons_zero, List.getElem?_cons_succ] at d0 d1 d2 d3 d4))
          | (go_at_call 61; refine (st_idOf ⟨a, b, A, ln, cp, ch, hd, tg⟩ _).mono ?_; rintro e w3 ⟨rfl, yw3⟩)
          | (go_at_call 42; refine (HW.out _).mono ?_; rintro e w2 ⟨rfl, rfl⟩))
        go_roundw
        case rel => exact ⟨j + 1, a, val_int (by omega), rfl, by omega, by omega, by omega, HF.out, ((hx.trans xa).trans yw1).trans yw3⟩
        case measure => simp [intOf]; omega
    · obtain rfl : n = j := by omega
      rw [List.drop_of_length_le (by omega), risB_nil] at hf
      have H1 := Lib.hid hf
      clear hf
      go_wp2
      go_ret
      exact ⟨by rw [H1.out] <;> rfl, hx⟩

end Go.Proofs.Ytiildgoaiookhaa
