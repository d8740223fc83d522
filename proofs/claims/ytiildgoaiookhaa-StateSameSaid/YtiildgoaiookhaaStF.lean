/- The walks of Client, Opened, Snap and Kept of a catalogue. (Printed by wip/tools/stfind.py.) -/
import Derived.Test.YtiildgoaiookhaaStL
namespace Go.Proofs.Ytiildgoaiookhaa
open Go.RowKit

set_option maxRecDepth 100000 in
set_option maxHeartbeats 800000 in
theorem st_Client (s : KV) (x : Int) (w : World) (hs : s.Ok w) (hn : s.n1 ≤ 1000000) :
    Calls Try.prog 23 #[s.val, .int .i64 x] w fun e w' => e = .returned (.int .i64 (findAt CV.client s.ses x 0)) ∧ Ext w w' := by
  have ht := hs.t1
  obtain ⟨ver, next, keep, quota, A1, n1, c1, ses, A2, n2, c2, ops, A3, n3, c3, sns⟩ := s
  unfold KV.val
  dsimp only at hn ht ⊢
  have HP := Lib.hid (fun (w' : World) (h : Ext w w') => st_placeSess A1 n1 c1 ses x w' (ht.ext h) hn)
  clear hs ht
  go_enter Try.func23, Try.ntmps23
  go_wp2_with (go_at_call 58; refine (HP.out _ ((Ext.refl w).alloc _)).mono ?_; rintro e w1 ⟨rfl, y1⟩)
  go_ret
  exact ⟨rfl, ((Ext.refl w).alloc _).trans y1⟩

set_option maxRecDepth 100000 in
set_option maxHeartbeats 800000 in
theorem ref07_Client (s : KV) (x : Int) (w : World) (hs : s.Ok w) (hn : s.n1 ≤ 1000000) :
    Calls Try.prog 24 #[s.val, .int .i64 x] w fun e w' => e = .returned (.int .i64 (findAt CV.client s.ses x 0)) ∧ Ext w w' := by
  have ht := hs.t1
  obtain ⟨ver, next, keep, quota, A1, n1, c1, ses, A2, n2, c2, ops, A3, n3, c3, sns⟩ := s
  unfold KV.val
  dsimp only at hn ht ⊢
  have hlen := ht.len
  have hB0 := Blk.new w 26 [.int .i64 ver, .int .i64 next, .int .i64 keep, .int .i64 quota, .slice A1 n1 c1, .slice A2 n2 c2, .slice A3 n3 c3]
  go_enter Try.func24, Try.ntmps24
  go_wp2_with fail
  go_loopw [5] (fun i wr => ∃ j : Nat, i = .int .i64 j ∧ j ≤ n1 ∧ findAt CV.client ses x 0 = findAt CV.client ses x j ∧ Blk wr w.heap.size 26 [.int .i64 ver, .int .i64 next, .int .i64 keep, .int .i64 quota, .slice A1 n1 c1, .slice A2 n2 c2, .slice A3 n3 c3] ∧ Ext w wr) (fun i _ => n1 - (intOf i).toNat)
  case atStart => exact ⟨0, rfl, by omega, rfl, hB0, (Ext.refl w).alloc _⟩
  case round =>
    clear hB0
    obtain ⟨j, rfl, hj, hf, hB, hx⟩ := hrel
    have HF := Lib.hid hf; clear hf
    have d := hB.cell 4
    simp only [List.getElem?_cons_zero, List.getElem?_cons_succ] at d
    have HB := Lib.hid hB
    clear hB hs
    by_cases hjn : j < n1
    · obtain ⟨bb, off, rfl, hlt, hc⟩ := (ht.ext hx).at_ hjn
      have hjl : j < ses.length := by omega
      have HH : Hid (ses[j].client = x → findAt CV.client ses x j = j) := Lib.hid (fun hk => findAt_hit hjl hk)
      have HM : Hid (ses[j].client ≠ x → findAt CV.client ses x j = findAt CV.client ses x (j + 1)) := Lib.hid (fun hk => findAt_miss hjl hk)
      generalize ses[j] = f at *
      have c0 : wr.cell? ⟨bb, off + j * 4, none⟩ = some (.int .i64 f.client) := hc 0 (by omega)
      clear hc
      generalize f.client = kk at *
      have hj0 : (0 : Int) ≤ j := by omega
      have hj1 : (j : Int) < n1 := by omega
      by_cases hk : kk = x
      · have H1 := Lib.hid (HF.out.trans (HH.out hk))
        clear HH HM HF
        subst hk
        go_wp2
        go_ret
        exact ⟨by rw [H1.out] <;> rfl, hx⟩
      · have H1 := Lib.hid (HF.out.trans (HM.out hk))
        have hk' := beq_f hk
        clear HH HM HF hk
        go_wp2
        go_roundw
        case rel => exact ⟨j + 1, val_int (by omega), by omega, H1.out, HB.out, hx⟩
        case measure => simp [intOf]; omega
    · obtain rfl : n1 = j := by omega
      have H1 := Lib.hid (HF.out.trans (findAt_end (by omega)))
      clear HF
      go_wp2
      go_ret
      exact ⟨by rw [H1.out] <;> rfl, hx⟩

set_option maxRecDepth 100000 in
set_option maxHeartbeats 800000 in
theorem st_Opened (s : KV) (x : Int) (w : World) (hs : s.Ok w) (hn : s.n2 ≤ 1000000) :
    Calls Try.prog 25 #[s.val, .int .i64 x] w fun e w' => e = .returned (.int .i64 (findAt OV.set s.ops x 0)) ∧ Ext w w' := by
  have ht := hs.t2
  obtain ⟨ver, next, keep, quota, A1, n1, c1, ses, A2, n2, c2, ops, A3, n3, c3, sns⟩ := s
  unfold KV.val
  dsimp only at hn ht ⊢
  have HP := Lib.hid (fun (w' : World) (h : Ext w w') => st_placeOpen A2 n2 c2 ops x w' (ht.ext h) hn)
  clear hs ht
  go_enter Try.func25, Try.ntmps25
  go_wp2_with (go_at_call 59; refine (HP.out _ ((Ext.refl w).alloc _)).mono ?_; rintro e w1 ⟨rfl, y1⟩)
  go_ret
  exact ⟨rfl, ((Ext.refl w).alloc _).trans y1⟩

set_option maxRecDepth 100000 in
set_option maxHeartbeats 800000 in
theorem ref07_Opened (s : KV) (x : Int) (w : World) (hs : s.Ok w) (hn : s.n2 ≤ 1000000) :
    Calls Try.prog 26 #[s.val, .int .i64 x] w fun e w' => e = .returned (.int .i64 (findAt OV.set s.ops x 0)) ∧ Ext w w' := by
  have ht := hs.t2
  obtain ⟨ver, next, keep, quota, A1, n1, c1, ses, A2, n2, c2, ops, A3, n3, c3, sns⟩ := s
  unfold KV.val
  dsimp only at hn ht ⊢
  have hlen := ht.len
  have hB0 := Blk.new w 26 [.int .i64 ver, .int .i64 next, .int .i64 keep, .int .i64 quota, .slice A1 n1 c1, .slice A2 n2 c2, .slice A3 n3 c3]
  go_enter Try.func26, Try.ntmps26
  go_wp2_with fail
  go_loopw [5] (fun i wr => ∃ j : Nat, i = .int .i64 j ∧ j ≤ n2 ∧ findAt OV.set ops x 0 = findAt OV.set ops x j ∧ Blk wr w.heap.size 26 [.int .i64 ver, .int .i64 next, .int .i64 keep, .int .i64 quota, .slice A1 n1 c1, .slice A2 n2 c2, .slice A3 n3 c3] ∧ Ext w wr) (fun i _ => n2 - (intOf i).toNat)
  case atStart => exact ⟨0, rfl, by omega, rfl, hB0, (Ext.refl w).alloc _⟩
  case round =>
    clear hB0
    obtain ⟨j, rfl, hj, hf, hB, hx⟩ := hrel
    have HF := Lib.hid hf; clear hf
    have d := hB.cell 5
    simp only [List.getElem?_cons_zero, List.getElem?_cons_succ] at d
    have HB := Lib.hid hB
    clear hB hs
    by_cases hjn : j < n2
    · obtain ⟨bb, off, rfl, hlt, hc⟩ := (ht.ext hx).at_ hjn
      have hjl : j < ops.length := by omega
      have HH : Hid (ops[j].set = x → findAt OV.set ops x j = j) := Lib.hid (fun hk => findAt_hit hjl hk)
      have HM : Hid (ops[j].set ≠ x → findAt OV.set ops x j = findAt OV.set ops x (j + 1)) := Lib.hid (fun hk => findAt_miss hjl hk)
      generalize ops[j] = f at *
      have c0 : wr.cell? ⟨bb, off + j * 2, none⟩ = some (.int .i64 f.set) := hc 0 (by omega)
      clear hc
      generalize f.set = kk at *
      have hj0 : (0 : Int) ≤ j := by omega
      have hj1 : (j : Int) < n2 := by omega
      by_cases hk : kk = x
      · have H1 := Lib.hid (HF.out.trans (HH.out hk))
        clear HH HM HF
        subst hk
        go_wp2
        go_ret
        exact ⟨by rw [H1.out] <;> rfl, hx⟩
      · have H1 := Lib.hid (HF.out.trans (HM.out hk))
        have hk' := beq_f hk
        clear HH HM HF hk
        go_wp2
        go_roundw
        case rel => exact ⟨j + 1, val_int (by omega), by omega, H1.out, HB.out, hx⟩
        case measure => simp [intOf]; omega
    · obtain rfl : n2 = j := by omega
      have H1 := Lib.hid (HF.out.trans (findAt_end (by omega)))
      clear HF
      go_wp2
      go_ret
      exact ⟨by rw [H1.out] <;> rfl, hx⟩

set_option maxRecDepth 100000 in
set_option maxHeartbeats 800000 in
theorem st_Snap (s : KV) (x : Int) (w : World) (hs : s.Ok w) (hn : s.n3 ≤ 1000000) :
    Calls Try.prog 27 #[s.val, .int .i64 x] w fun e w' => e = .returned (.int .i64 (findAt NV.id s.sns x 0)) ∧ Ext w w' := by
  have ht := hs.t3
  obtain ⟨ver, next, keep, quota, A1, n1, c1, ses, A2, n2, c2, ops, A3, n3, c3, sns⟩ := s
  unfold KV.val
  dsimp only at hn ht ⊢
  have HP := Lib.hid (fun (w' : World) (h : Ext w w') => st_placeSnap A3 n3 c3 sns x w' (ht.ext h) hn)
  clear hs ht
  go_enter Try.func27, Try.ntmps27
  go_wp2_with (go_at_call 60; refine (HP.out _ ((Ext.refl w).alloc _)).mono ?_; rintro e w1 ⟨rfl, y1⟩)
  go_ret
  exact ⟨rfl, ((Ext.refl w).alloc _).trans y1⟩

set_option maxRecDepth 100000 in
set_option maxHeartbeats 800000 in
theorem ref07_Snap (s : KV) (x : Int) (w : World) (hs : s.Ok w) (hn : s.n3 ≤ 1000000) :
    Calls Try.prog 28 #[s.val, .int .i64 x] w fun e w' => e = .returned (.int .i64 (findAt NV.id s.sns x 0)) ∧ Ext w w' := by
  have ht := hs.t3
  obtain ⟨ver, next, keep, quota, A1, n1, c1, ses, A2, n2, c2, ops, A3, n3, c3, sns⟩ := s
  unfold KV.val
  dsimp only at hn ht ⊢
  have hlen := ht.len
  have hB0 := Blk.new w 26 [.int .i64 ver, .int .i64 next, .int .i64 keep, .int .i64 quota, .slice A1 n1 c1, .slice A2 n2 c2, .slice A3 n3 c3]
  go_enter Try.func28, Try.ntmps28
  go_wp2_with fail
  go_loopw [5] (fun i wr => ∃ j : Nat, i = .int .i64 j ∧ j ≤ n3 ∧ findAt NV.id sns x 0 = findAt NV.id sns x j ∧ Blk wr w.heap.size 26 [.int .i64 ver, .int .i64 next, .int .i64 keep, .int .i64 quota, .slice A1 n1 c1, .slice A2 n2 c2, .slice A3 n3 c3] ∧ Ext w wr) (fun i _ => n3 - (intOf i).toNat)
  case atStart => exact ⟨0, rfl, by omega, rfl, hB0, (Ext.refl w).alloc _⟩
  case round =>
    clear hB0
    obtain ⟨j, rfl, hj, hf, hB, hx⟩ := hrel
    have HF := Lib.hid hf; clear hf
    have d := hB.cell 6
    simp only [List.getElem?_cons_zero, List.getElem?_cons_succ] at d
    have HB := Lib.hid hB
    clear hB hs
    by_cases hjn : j < n3
    · obtain ⟨bb, off, rfl, hlt, hc⟩ := (ht.ext hx).at_ hjn
      have hjl : j < sns.length := by omega
      have HH : Hid (sns[j].id = x → findAt NV.id sns x j = j) := Lib.hid (fun hk => findAt_hit hjl hk)
      have HM : Hid (sns[j].id ≠ x → findAt NV.id sns x j = findAt NV.id sns x (j + 1)) := Lib.hid (fun hk => findAt_miss hjl hk)
      generalize sns[j] = f at *
      have c0 : wr.cell? ⟨bb, off + j * 5, none⟩ = some (.int .i64 f.id) := hc 0 (by omega)
      clear hc
      generalize f.id = kk at *
      have hj0 : (0 : Int) ≤ j := by omega
      have hj1 : (j : Int) < n3 := by omega
      by_cases hk : kk = x
      · have H1 := Lib.hid (HF.out.trans (HH.out hk))
        clear HH HM HF
        subst hk
        go_wp2
        go_ret
        exact ⟨by rw [H1.out] <;> rfl, hx⟩
      · have H1 := Lib.hid (HF.out.trans (HM.out hk))
        have hk' := beq_f hk
        clear HH HM HF hk
        go_wp2
        go_roundw
        case rel => exact ⟨j + 1, val_int (by omega), by omega, H1.out, HB.out, hx⟩
        case measure => simp [intOf]; omega
    · obtain rfl : n3 = j := by omega
      have H1 := Lib.hid (HF.out.trans (findAt_end (by omega)))
      clear HF
      go_wp2
      go_ret
      exact ⟨by rw [H1.out] <;> rfl, hx⟩

end Go.Proofs.Ytiildgoaiookhaa
