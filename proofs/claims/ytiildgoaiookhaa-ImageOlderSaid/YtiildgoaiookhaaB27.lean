/- Words and walks that the last text of this claim stands on: StCo, StCr. No condition. -/
import Derived.Test.YtiildgoaiookhaaB13
/- state.Copy. -/
namespace Go.Proofs.Ytiildgoaiookhaa
open Go.RowKit

theorem cv_any {f : CV} {w : World} (h : f.Ok w) (w' : World) : f.Ok w' := ⟨h.u0, h.u1, h.u2, h.u3⟩
theorem ov_any {f : OV} {w : World} (h : f.Ok w) (w' : World) : f.Ok w' := ⟨h.u0, h.u1⟩
/-- the next snapshot of a copy -/
def likeN (f : NV) (A : Option Addr) (c : Nat) : NV := ⟨f.id, f.set, A, f.len, c, f.ch, f.held, f.tag⟩
theorem mid_get {d sns : List NV} {j : Nat} (hdl : d.length = j) (hjl : j < sns.length) : ∃ h : j < (d ++ sns.drop j).length, (d ++ sns.drop j)[j] = sns[j] := by
  refine ⟨by simp; omega, ?_⟩
  rw [List.getElem_append_right (by omega)]
  simp [hdl]
theorem copy_get {d sns : List NV} {j : Nat} (hdl : d.length = j) (hjl : j < sns.length) : (thingsOf (d ++ sns.drop j))[j * 5 + 2]? = some (.slice sns[j].A sns[j].len sns[j].cap) := by
  obtain ⟨h, he⟩ := mid_get hdl hjl
  rw [thingsOf_get _ j 2 h (by omega), he]; rfl
theorem apart_of {w : World} {b b' : Nat} {e e' : TypeId} {s s' n n' g c : Nat} {v : Value} {xs xs' : List Value} (h : w.ownsRow b e s v n xs) (h' : w.ownsRow b' e' s' (.slice (some ⟨g, 0, none⟩) n' c) n' xs') (hne : e ≠ e') : v.ownBlock ≠ some g := by
  rcases own_apart h h' hne with h1 | h1
  · rw [h1]; simp
  · simpa [Value.ownBlock] using h1
theorem copy_step {wr w4 : World} {B n3 c3 g j c4 : Nat} {A4 : Option Addr} {d sns : List NV} (hdl : d.length = j) (hjl : j < sns.length) (hds : d.map NV.s = (sns.take j).map NV.s) (hdo : ∀ f ∈ d, OwnN wr B f)
    (hrow : wr.ownsRow B 33 5 (.slice (some ⟨g, 0, none⟩) n3 c3) n3 (thingsOf (d ++ sns.drop j))) (hz : B ≤ wr.heap.size) (hok : NV.Ok sns[j] wr) (x4 : Ext wr w4)
    (own4 : w4.ownsRow wr.heap.size 3 1 (.slice A4 sns[j].len c4) sns[j].len (sns[j].ch.map (Value.int .i64))) :
    (d ++ [likeN sns[j] A4 c4]).length = j + 1 ∧ (d ++ [likeN sns[j] A4 c4]).map NV.s = (sns.take (j + 1)).map NV.s ∧
      (∀ f ∈ d ++ [likeN sns[j] A4 c4], OwnN (w4.setCell ⟨g, j * 5 + 2, none⟩ (.slice A4 sns[j].len c4)) B f) ∧
      (w4.setCell ⟨g, j * 5 + 2, none⟩ (.slice A4 sns[j].len c4)).ownsRow B 33 5 (.slice (some ⟨g, 0, none⟩) n3 c3) n3 (thingsOf ((d ++ [likeN sns[j] A4 c4]) ++ sns.drop (j + 1))) := by
  obtain ⟨hm, he⟩ := mid_get hdl hjl
  have hr4 := own_ext hrow x4
  have hn3 : j < n3 := by
    have := hrow.1
    rw [thingsOf_len] at this
    simp at this
    omega
  have hset : (d ++ sns.drop j).set j (likeN sns[j] A4 c4) = (d ++ [likeN sns[j] A4 c4]) ++ sns.drop (j + 1) := by
    rw [List.set_append_right _ _ (by omega), hdl, Nat.sub_self, List.drop_eq_getElem_cons hjl, List.set_cons_zero, List.append_assoc]
    rfl
  refine ⟨by simp [hdl], ?_, ?_, ?_⟩
  · rw [List.take_succ_eq_append_getElem hjl, List.map_append, List.map_append, hds]; rfl
  · have far : ∀ {v : Value} {n : Nat} {xs : List Value}, w4.ownsRow B 3 1 v n xs → (w4.setCell ⟨g, j * 5 + 2, none⟩ (.slice A4 sns[j].len c4)).ownsRow B 3 1 v n xs := by
      intro v n xs h
      refine own_far h ?_ _
      rcases own_apart h hr4 (by decide) with h1 | h1
      · rw [h1]; simp
      · simpa [Value.ownBlock] using h1
    intro f hf
    rcases List.mem_append.1 hf with hf | hf
    · have := (hdo f hf).ext x4
      exact ⟨this.u0, this.u1, far this.own, this.uc, this.ut⟩
    · simp only [List.mem_singleton] at hf
      subst hf
      exact ⟨hok.u0, hok.u1, far (own_base own4 hz), hok.uc, hok.ut⟩
  · rw [← hset, ← thingsOf_set _ j 2 hm (by omega) (likeN sns[j] A4 c4) (.slice A4 sns[j].len c4) (by rw [he]; rfl)]
    exact own_store hr4 _ (by omega) _
set_option maxRecDepth 100000 in
set_option maxHeartbeats 3200000 in
theorem st_Copy (s : KV) (w : World) (hs : s.Ok w) (f1 : s.n1 ≤ 100000) (f2 : s.n2 ≤ 100000) (f3 : s.n3 ≤ 100000) (f4 : ∀ f ∈ s.sns, f.len ≤ 100000) :
    Calls Try.prog 30 #[s.val] w fun e w' => ∃ t : KV, e = .returned t.val ∧ OwnK w' w.heap.size t ∧ AsK s t ∧ Ext w w' := by
  obtain ⟨ver, next, keep, quota, A1, n1, c1, ses, A2, n2, c2, ops, A3, n3, c3, sns⟩ := s
  obtain ⟨q0, q1, q2, q3, t1, le1, cap1, t2, le2, cap2, t3, le3, cap3⟩ := hs
  dsimp only at q0 q1 q2 q3 t1 le1 cap1 t2 le2 cap2 t3 le3 cap3 f1 f2 f3 f4
  unfold KV.val
  dsimp only
  have hn1 : n1 ≤ 9223372036854775807 := by omega
  have hn2 : n2 ≤ 9223372036854775807 := by omega
  have hn3 : n3 ≤ 9223372036854775807 := by omega
  have hl3 := t3.len
  have hB0 := (Blk.new w 26 [.int .i64 ver, .int .i64 next, .int .i64 keep, .int .i64 quota, .slice A1 n1 c1, .slice A2 n2 c2, .slice A3 n3 c3]).alloc (.cells #[.int .i64 0, .int .i64 0, .int .i64 0, .int .i64 0, .slice none 0 0, .slice none 0 0, .slice none 0 0] 26)
  have hZ0 := Blk.new (w.alloc (.cells #[.int .i64 ver, .int .i64 next, .int .i64 keep, .int .i64 quota, .slice A1 n1 c1, .slice A2 n2 c2, .slice A3 n3 c3] 26)) 26 [.int .i64 0, .int .i64 0, .int .i64 0, .int .i64 0, .slice none 0 0, .slice none 0 0, .slice none 0 0]
  have hx0 : Ext w ((w.alloc (.cells #[.int .i64 ver, .int .i64 next, .int .i64 keep, .int .i64 quota, .slice A1 n1 c1, .slice A2 n2 c2, .slice A3 n3 c3] 26)).alloc (.cells #[.int .i64 0, .int .i64 0, .int .i64 0, .int .i64 0, .slice none 0 0, .slice none 0 0, .slice none 0 0] 26)) := ((Ext.refl w).alloc _).alloc _
  have hz0 : w.heap.size + 2 ≤ ((w.alloc (.cells #[.int .i64 ver, .int .i64 next, .int .i64 keep, .int .i64 quota, .slice A1 n1 c1, .slice A2 n2 c2, .slice A3 n3 c3] 26)).alloc (.cells #[.int .i64 0, .int .i64 0, .int .i64 0, .int .i64 0, .slice none 0 0, .slice none 0 0, .slice none 0 0] 26)).heap.size := by simp
  rw [show (w.alloc (.cells #[.int .i64 ver, .int .i64 next, .int .i64 keep, .int .i64 quota, .slice A1 n1 c1, .slice A2 n2 c2, .slice A3 n3 c3] 26)).heap.size = w.heap.size + 1 by simp] at hZ0
  go_enter Try.func30, Try.ntmps30
  go_wp2_with fail
  refine (sess_Clone _ _ _ _ _ (t1.ext hx0) f1).mono ?_
  rintro e w1 ⟨v1, rfl, own1, x1⟩
  replace own1 := own_base own1 hz0
  have hB := hB0.ext x1
  have hZ := hZ0.ext x1
  have xw := hx0.trans x1
  have hz : w.heap.size + 2 ≤ w1.heap.size := Nat.le_trans hz0 x1.size
  obtain ⟨A1', c1', rfl, _⟩ := own_form own1
  clear hB0 hZ0 hx0 hz0 x1
  have d5 := hB.cell 5
  have d4 := hB.cell 4
  have g4 := hB.frozen 4
  simp only [List.getElem?_cons_zero, List.getElem?_cons_succ] at d4 d5
  go_upto_region 2 with fail
  clear d4 d5 g4
  replace own1 := own_set own1 (p := ⟨w.heap.size, 4, none⟩) (show w.heap.size < w.heap.size + 2 by omega) (.slice A1' n1 c1')
  replace hZ := hZ.far (p := ⟨w.heap.size, 4, none⟩) (by show w.heap.size + 1 ≠ w.heap.size; omega) (.slice A1' n1 c1')
  replace hB := hB.set_ 4 (.slice A1' n1 c1')
  replace xw := xw.setCell (p := ⟨w.heap.size, 4, none⟩) (Nat.le_refl _) (.slice A1' n1 c1')
  replace hz : w.heap.size + 2 ≤ (w1.setCell ⟨w.heap.size, 4, none⟩ (.slice A1' n1 c1')).heap.size := by simpa using hz
  simp only [List.set_cons_succ, List.set_cons_zero] at hB
  generalize w1.setCell ⟨w.heap.size, 4, none⟩ (.slice A1' n1 c1') = W1 at *
  have d5 := hB.cell 5
  have g5 := hB.frozen 5
  simp only [List.getElem?_cons_zero, List.getElem?_cons_succ] at d5
  go_wp2_with fail
  refine (opens_Clone _ _ _ _ _ (t2.ext xw) f2).mono ?_
  rintro e w2 ⟨v2, rfl, own2, x2⟩
  clear d5 g5
  replace own2 := own_base own2 hz
  replace own1 := own_ext own1 x2
  replace hB := hB.ext x2
  replace hZ := hZ.ext x2
  replace xw := xw.trans x2
  replace hz := Nat.le_trans hz x2.size
  obtain ⟨A2', c2', rfl, _⟩ := own_form own2
  clear x2
  have d5 := hB.cell 5
  have g5 := hB.frozen 5
  simp only [List.getElem?_cons_zero, List.getElem?_cons_succ] at d5
  go_upto_region 3 with fail
  clear d5 g5
  replace own1 := own_set own1 (p := ⟨w.heap.size, 5, none⟩) (show w.heap.size < w.heap.size + 2 by omega) (.slice A2' n2 c2')
  replace own2 := own_set own2 (p := ⟨w.heap.size, 5, none⟩) (show w.heap.size < w.heap.size + 2 by omega) (.slice A2' n2 c2')
  replace hZ := hZ.far (p := ⟨w.heap.size, 5, none⟩) (by show w.heap.size + 1 ≠ w.heap.size; omega) (.slice A2' n2 c2')
  replace hB := hB.set_ 5 (.slice A2' n2 c2')
  replace xw := xw.setCell (p := ⟨w.heap.size, 5, none⟩) (Nat.le_refl _) (.slice A2' n2 c2')
  replace hz : w.heap.size + 2 ≤ (w2.setCell ⟨w.heap.size, 5, none⟩ (.slice A2' n2 c2')).heap.size := by simpa using hz
  simp only [List.set_cons_succ, List.set_cons_zero] at hB
  generalize w2.setCell ⟨w.heap.size, 5, none⟩ (.slice A2' n2 c2') = W2 at *
  have d6 := hB.cell 6
  have g6 := hB.frozen 6
  simp only [List.getElem?_cons_zero, List.getElem?_cons_succ] at d6
  go_wp2_with fail
  refine (snaps_Clone _ _ _ _ _ (t3.ext xw) f3).mono ?_
  rintro e w3 ⟨v3, rfl, own3, x3⟩
  clear d6 g6
  replace own3 := own_base own3 hz
  replace own1 := own_ext own1 x3
  replace own2 := own_ext own2 x3
  replace hB := hB.ext x3
  replace hZ := hZ.ext x3
  replace xw := xw.trans x3
  replace hz := Nat.le_trans hz x3.size
  obtain ⟨A3', c3', rfl, _⟩ := own_form own3
  clear x3
  have d6 := hB.cell 6
  have g6 := hB.frozen 6
  simp only [List.getElem?_cons_zero, List.getElem?_cons_succ] at d6
  go_upto_region 4 with fail
  clear d6 g6
  replace own1 := own_set own1 (p := ⟨w.heap.size, 6, none⟩) (show w.heap.size < w.heap.size + 2 by omega) (.slice A3' n3 c3')
  replace own2 := own_set own2 (p := ⟨w.heap.size, 6, none⟩) (show w.heap.size < w.heap.size + 2 by omega) (.slice A3' n3 c3')
  replace own3 := own_set own3 (p := ⟨w.heap.size, 6, none⟩) (show w.heap.size < w.heap.size + 2 by omega) (.slice A3' n3 c3')
  replace hZ := hZ.far (p := ⟨w.heap.size, 6, none⟩) (by show w.heap.size + 1 ≠ w.heap.size; omega) (.slice A3' n3 c3')
  replace hB := hB.set_ 6 (.slice A3' n3 c3')
  replace xw := xw.setCell (p := ⟨w.heap.size, 6, none⟩) (Nat.le_refl _) (.slice A3' n3 c3')
  replace hz : w.heap.size + 2 ≤ (w3.setCell ⟨w.heap.size, 6, none⟩ (.slice A3' n3 c3')).heap.size := by simpa using hz
  simp only [List.set_cons_succ, List.set_cons_zero] at hB
  generalize w3.setCell ⟨w.heap.size, 6, none⟩ (.slice A3' n3 c3') = W3 at *
  have d6 := hB.cell 6
  simp only [List.getElem?_cons_zero, List.getElem?_cons_succ] at d6
  have HO1 := Lib.hid own1
  have HO2 := Lib.hid own2
  clear own1 own2 le1 le2 cap1 cap2 f1 f2
  go_wp2_with fail
  go_loopw [19] (fun i wr => ∃ j : Nat, i = .int .i64 j ∧ j ≤ n3 ∧ (∃ d : List NV, d.length = j ∧ d.map NV.s = (sns.take j).map NV.s ∧ (∀ f ∈ d, OwnN wr (w.heap.size + 2) f) ∧
      wr.ownsRow (w.heap.size + 2) 33 5 (.slice A3' n3 c3') n3 (thingsOf (d ++ sns.drop j))) ∧
      Blk wr w.heap.size 26 [.int .i64 ver, .int .i64 next, .int .i64 keep, .int .i64 quota, .slice A1' n1 c1', .slice A2' n2 c2', .slice A3' n3 c3'] ∧ Blk wr (w.heap.size + 1) 26 [.int .i64 0, .int .i64 0, .int .i64 0, .int .i64 0, .slice none 0 0, .slice none 0 0, .slice none 0 0] ∧
      wr.ownsRow (w.heap.size + 2) 45 4 (.slice A1' n1 c1') n1 (thingsOf ses) ∧ wr.ownsRow (w.heap.size + 2) 47 2 (.slice A2' n2 c2') n2 (thingsOf ops) ∧ Ext w wr ∧ w.heap.size + 2 ≤ wr.heap.size) (fun i _ => n3 - (intOf i).toNat)
  case atStart => exact ⟨0, rfl, by omega, ⟨[], rfl, rfl, by simp, by simpa using own3⟩, hB, hZ, HO1.out, HO2.out, xw, hz⟩
  case round =>
    clear d6 hB hZ HO1 HO2 own3 hz
    obtain ⟨j, rfl, hj, ⟨d, hdl, hds, hdo, hrow⟩, hB, hZ, ho1, ho2, hx, hz⟩ := hrel
    by_cases hjn : j < n3
    · have hjl : j < sns.length := by omega
      obtain ⟨g, rfl, hgb, hgl⟩ := own_at hrow (by omega)
      have hok : NV.Ok sns[j] wr := (t3.ext hx).ok _ (List.getElem_mem _)
      have hfl := f4 sns[j] (List.getElem_mem _)
      have hcell := own_cell hrow (i := j * 5 + 2) (copy_get hdl hjl)
      have HST := Lib.hid (fun (w4 : World) (A4 : Option Addr) (c4 : Nat) => copy_step (w4 := w4) (A4 := A4) (c4 := c4) hdl hjl hds hdo hrow hz hok)
      have HB := Lib.hid hB
      have HR := Lib.hid hrow
      have d6 := hB.cell 6
      simp only [List.getElem?_cons_zero, List.getElem?_cons_succ] at d6
      have hIs := hok.cs.ext ((Ext.refl wr).drew)
      generalize sns[j] = f at *
      obtain ⟨a, b, A, ln, cp, ch, hd, tg⟩ := f
      dsimp only at hIs hfl hcell
      have hne1 : w.heap.size + 1 ≠ g := by omega
      have HR1 := Lib.hid (fun (w4 : World) (x4 : Ext wr w4) => apart_of (own_ext ho1 x4) (own_ext hrow x4) (by decide))
      have HR2 := Lib.hid (fun (w4 : World) (x4 : Ext wr w4) => apart_of (own_ext ho2 x4) (own_ext hrow x4) (by decide))
      have hj0 : (0 : Int) ≤ j := by omega
      have hj1 : (j : Int) < n3 := by omega
      have hfz := own_frozen hrow (j * 5 + 2)
      have hne : w.heap.size ≠ g := by omega
      clear hrow hB hds hdo hdl hok d6
      go_wp2_with fail
      have hb6 := HB.out.cell 6
      simp only [List.getElem?_cons_zero, List.getElem?_cons_succ] at hb6
      go_region_with (go_at_call 65; refine (ints_Clone _ _ _ _ _ hIs hfl).mono ?_; rintro e w4 ⟨v4, rfl, own4, x4'⟩; have x4 := ((Ext.refl wr).drew).trans x4'; clear x4'; obtain ⟨A4, c4, rfl, _⟩ := own_form own4; have hc4 := x4.cell hcell; have hf4 := own_frozen (own_ext HR.out x4) (j * 5 + 2); have hb4 := x4.cell hb6)
      all_goals
        have hs4 := HST.out w4 A4 c4 x4 own4
        obtain ⟨r1, r2, r3, r4⟩ := hs4
        have R1 := Lib.hid r1
        have R2 := Lib.hid r2
        clear r1 r2
        go_wp2
        go_roundw
        case rel => exact ⟨j + 1, val_int (by omega), by omega, ⟨_, R1.out, R2.out, r3, r4⟩, (HB.out.ext x4).far hne _, (hZ.ext x4).far hne1 _, own_far (own_ext ho1 x4) (HR1.out w4 x4) _, own_far (own_ext ho2 x4) (HR2.out w4 x4) _, (hx.trans x4).setCell (by show w.heap.size ≤ g; omega) _, by simpa using Nat.le_trans hz x4.size⟩
        case measure => simp [intOf]; omega
    · obtain rfl : n3 = j := by omega
      have hrow' := own_to (base' := w.heap.size + 2) (ys := thingsOf d) hrow (by omega) rfl (by rw [List.drop_of_length_le (by omega), List.append_nil])
      rw [List.take_of_length_le (by omega)] at hds
      have d0 := hB.cell 0
      have d1 := hB.cell 1
      have d2 := hB.cell 2
      have d3 := hB.cell 3
      have d4 := hB.cell 4
      have d5 := hB.cell 5
      have d6 := hB.cell 6
      simp only [List.getElem?_cons_zero, List.getElem?_cons_succ] at d0 d1 d2 d3 d4 d5 d6
      have g0 := hZ.cell 0
      have g1 := hZ.cell 1
      have g2 := hZ.cell 2
      have g3 := hZ.cell 3
      have g4 := hZ.cell 4
      have g5 := hZ.cell 5
      have g6 := hZ.cell 6
      simp only [List.getElem?_cons_zero, List.getElem?_cons_succ] at g0 g1 g2 g3 g4 g5 g6
      have r0 := hZ.frozen 0
      have r1 := hZ.frozen 1
      have r2 := hZ.frozen 2
      have r3 := hZ.frozen 3
      have r4 := hZ.frozen 4
      have r5 := hZ.frozen 5
      have r6 := hZ.frozen 6
      have HDL := Lib.hid hdl
      have HDS := Lib.hid hds
      have hk := t3.ok
      have hk1 := t1.ok
      have hk2 := t2.ok
      have HD := Lib.hid hdo
      have HO1 := Lib.hid ho1
      have HO2 := Lib.hid ho2
      have HO3 := Lib.hid hrow'
      clear hB hZ hrow hdl hds hdo ho1 ho2 hrow'
      go_wp2
      refine bodyPost_ret (v := .agg #[.int .i64 ver, .int .i64 next, .int .i64 keep, .int .i64 quota, .slice A1' n1 c1', .slice A2' n2 c2', .slice A3' n3 c3']) (by simp [results, Try.results30, go_sem, g0, g1, g2, g3, g4, g5, g6]) rfl
        ⟨⟨ver, next, keep, quota, A1', n1, c1', ses, A2', n2, c2', ops, A3', n3, c3', d⟩, rfl, ?_, ⟨rfl, rfl, rfl, rfl, rfl, rfl, rfl, rfl, rfl, HDS.out⟩, ?_⟩
      · refine ⟨q0, q1, q2, q3, ?_, ?_, ?_, fun f hf => cv_any (hk1 f hf) _, fun f hf => ov_any (hk2 f hf) _, fun f hf => ?_⟩
        · refine own_base (base := w.heap.size + 2) ?_ (by omega)
          repeat (refine own_set ?_ (by simp) _)
          exact HO1.out
        · refine own_base (base := w.heap.size + 2) ?_ (by omega)
          repeat (refine own_set ?_ (by simp) _)
          exact HO2.out
        · refine own_base (base := w.heap.size + 2) ?_ (by omega)
          repeat (refine own_set ?_ (by simp) _)
          exact HO3.out
        · have := HD.out f hf
          refine ⟨this.u0, this.u1, own_base (base := w.heap.size + 2) ?_ (by omega), this.uc, this.ut⟩
          repeat (refine own_set ?_ (by simp) _)
          exact this.own
      · repeat (refine Ext.setCell ?_ (by simp) _)
        exact hx
end Go.Proofs.Ytiildgoaiookhaa

/- coracleref07.Copy. (Printed by wip/tools/stcopyr.py.) -/
namespace Go.Proofs.Ytiildgoaiookhaa
open Go.RowKit

theorem snap_one (f : NV) : ∀ u ∈ [Value.int .i64 f.id, .int .i64 f.set, .slice f.A f.len f.cap, .bool f.held, .string f.tag], u.oneCell' = true := Thing.one f
theorem copyr_step {d sns : List NV} {j c4 : Nat} {A4 : Option Addr} (hjl : j < sns.length) (hds : d.map NV.s = (sns.take j).map NV.s) :
    (d ++ [likeN sns[j] A4 c4]).map NV.s = (sns.take (j + 1)).map NV.s := by
  rw [List.take_succ_eq_append_getElem hjl, List.map_append, List.map_append, hds]; rfl
theorem own_grown {w w' : World} {base : Nat} {e : TypeId} {size n : Nat} {v : Value} {xs : List Value} {row : Option Nat} (h : w.ownsRow base e size v n xs) (hg : w.grownBy w' row) (hr : v.ownBlock = none ∨ v.ownBlock ≠ row) : w'.ownsRow base e size v n xs := by
  refine ⟨h.1, ?_⟩
  rcases h.2 with hn | ⟨g, cap, cur, rfl, hb, hgg, rest⟩
  · exact .inl hn
  · refine .inr ⟨g, cap, cur, rfl, hb, ?_, rest⟩
    rw [hg.block g (Array.getElem?_eq_some_iff.1 hgg).1 (by rcases hr with hr | hr <;> simp [Value.ownBlock] at hr ⊢; exact hr)]
    exact hgg
theorem copyr_end {w W w6 : World} {S Z : List Value} {a b c q V1 V2 u v6 : Value} {n1 n2 j : Nat} {xs1 xs2 : List Value} {d : List NV} {f : NV} {cs : Array Value}
    (hrow : W.ownsRow (w.heap.size + 3) 33 5 u j (thingsOf d)) (hf : OwnN W (w.heap.size + 3) f) (hdo : ∀ g ∈ d, OwnN W (w.heap.size + 3) g)
    (h1 : W.ownsRow (w.heap.size + 3) 45 4 V1 n1 xs1) (h2 : W.ownsRow (w.heap.size + 3) 47 2 V2 n2 xs2)
    (hO : Blk W (w.heap.size + 1 + 1) 26 [a, b, c, q, V1, V2, u]) (hS : Blk W w.heap.size 26 S) (hZ : Blk W (w.heap.size + 1) 26 Z) (hx : Ext w W) (hz : w.heap.size + 3 ≤ W.heap.size)
    (hown6 : w6.ownsRow (w.heap.size + 3) 33 5 v6 (j + 1) (thingsOf d ++ f.cells)) (hg6 : (W.alloc (.cells cs 33)).grownBy w6 u.ownBlock) :
    ((∀ g ∈ d ++ [f], OwnN (w6.setCell ⟨w.heap.size + 1 + 1, 6, none⟩ v6) (w.heap.size + 3) g) ∧ (w6.setCell ⟨w.heap.size + 1 + 1, 6, none⟩ v6).ownsRow (w.heap.size + 3) 33 5 v6 (j + 1) (thingsOf (d ++ [f])) ∧
      Blk (w6.setCell ⟨w.heap.size + 1 + 1, 6, none⟩ v6) (w.heap.size + 1 + 1) 26 [a, b, c, q, V1, V2, v6]) ∧ Blk (w6.setCell ⟨w.heap.size + 1 + 1, 6, none⟩ v6) w.heap.size 26 S ∧ Blk (w6.setCell ⟨w.heap.size + 1 + 1, 6, none⟩ v6) (w.heap.size + 1) 26 Z ∧
      (w6.setCell ⟨w.heap.size + 1 + 1, 6, none⟩ v6).ownsRow (w.heap.size + 3) 45 4 V1 n1 xs1 ∧ (w6.setCell ⟨w.heap.size + 1 + 1, 6, none⟩ v6).ownsRow (w.heap.size + 3) 47 2 V2 n2 xs2 ∧
      Ext w (w6.setCell ⟨w.heap.size + 1 + 1, 6, none⟩ v6) ∧ w.heap.size + 3 ≤ (w6.setCell ⟨w.heap.size + 1 + 1, 6, none⟩ v6).heap.size := by
  have x1 : Ext W (W.alloc (.cells cs 33)) := (Ext.refl W).alloc _
  have hlt : ∀ k, u.ownBlock = some k → w.heap.size + 3 ≤ k := fun k hk => (hrow.lt k hk).1
  have nb : ∀ k, k < w.heap.size + 3 → some k ≠ u.ownBlock := fun k hk e => by have := hlt k e.symm; omega
  have hr1 := own_ext hrow x1
  have far : ∀ {e : TypeId} {s n : Nat} {v : Value} {xs : List Value}, W.ownsRow (w.heap.size + 3) e s v n xs → e ≠ 33 → (w6.setCell ⟨w.heap.size + 1 + 1, 6, none⟩ v6).ownsRow (w.heap.size + 3) e s v n xs := by
    intro e s n v xs h hne
    refine own_set (own_grown (own_ext h x1) hg6 (own_apart (own_ext h x1) hr1 hne)) ?_ _
    show w.heap.size + 1 + 1 < w.heap.size + 3
    omega
  have fn : ∀ g, OwnN W (w.heap.size + 3) g → OwnN (w6.setCell ⟨w.heap.size + 1 + 1, 6, none⟩ v6) (w.heap.size + 3) g := fun g h => ⟨h.u0, h.u1, far h.own (by decide), h.uc, h.ut⟩
  have xe : Ext w w6 := Below.app (hx.trans x1) hg6 (by simp; omega) hr1 (by omega)
  refine ⟨⟨fun g hg => ?_, ?_, ?_⟩, ?_, ?_, far h1 (by decide), far h2 (by decide), xe.setCell (by show w.heap.size ≤ w.heap.size + 1 + 1; omega) _, ?_⟩
  · rcases List.mem_append.1 hg with hg | hg
    · exact fn g (hdo g hg)
    · simp only [List.mem_singleton] at hg
      subst hg; exact fn g hf
  · rw [thingsOf_append, thingsOf_one]
    exact own_set hown6 (by show w.heap.size + 1 + 1 < w.heap.size + 3; omega) _
  · have := (((hO.ext x1).grown hg6 (nb _ (by omega))).set_ 6 v6)
    simpa using this
  · exact ((hS.ext x1).grown hg6 (nb _ (by omega))).far (by show w.heap.size ≠ w.heap.size + 1 + 1; omega) _
  · exact ((hZ.ext x1).grown hg6 (nb _ (by omega))).far (by show w.heap.size + 1 ≠ w.heap.size + 1 + 1; omega) _
  · have := hg6.size
    simp only [World.size_setCell]
    have h2 : W.heap.size ≤ (W.alloc (.cells cs 33)).heap.size := x1.size
    omega
set_option maxRecDepth 100000 in
set_option maxHeartbeats 3200000 in
theorem ref07_Copy (s : KV) (w : World) (hs : s.Ok w) (f1 : s.n1 ≤ 100000) (f2 : s.n2 ≤ 100000) (f3 : s.n3 ≤ 100000) (f4 : ∀ f ∈ s.sns, f.len ≤ 100000) :
    Calls Try.prog 32 #[s.val] w fun e w' => ∃ t : KV, e = .returned t.val ∧ OwnK w' w.heap.size t ∧ AsK s t ∧ Ext w w' := by
  obtain ⟨ver, next, keep, quota, A1, n1, c1, ses, A2, n2, c2, ops, A3, n3, c3, sns⟩ := s
  obtain ⟨q0, q1, q2, q3, t1, le1, cap1, t2, le2, cap2, t3, le3, cap3⟩ := hs
  dsimp only at q0 q1 q2 q3 t1 le1 cap1 t2 le2 cap2 t3 le3 cap3 f1 f2 f3 f4
  unfold KV.val
  dsimp only
  have hl3 := t3.len
  have hS : Blk (((w.alloc (.cells #[.int .i64 ver, .int .i64 next, .int .i64 keep, .int .i64 quota, .slice A1 n1 c1, .slice A2 n2 c2, .slice A3 n3 c3] 26)).alloc (.cells #[.int .i64 0, .int .i64 0, .int .i64 0, .int .i64 0, .slice none 0 0, .slice none 0 0, .slice none 0 0] 26)).alloc (.cells #[.int .i64 ver, .int .i64 next, .int .i64 keep, .int .i64 quota, .slice A1 n1 c1, .slice A2 n2 c2, .slice A3 n3 c3] 26)) w.heap.size 26 [.int .i64 ver, .int .i64 next, .int .i64 keep, .int .i64 quota, .slice A1 n1 c1, .slice A2 n2 c2, .slice A3 n3 c3] := ((Blk.new w 26 [.int .i64 ver, .int .i64 next, .int .i64 keep, .int .i64 quota, .slice A1 n1 c1, .slice A2 n2 c2, .slice A3 n3 c3]).alloc _).alloc _
  have hZ := (Blk.new (w.alloc (.cells #[.int .i64 ver, .int .i64 next, .int .i64 keep, .int .i64 quota, .slice A1 n1 c1, .slice A2 n2 c2, .slice A3 n3 c3] 26)) 26 [.int .i64 0, .int .i64 0, .int .i64 0, .int .i64 0, .slice none 0 0, .slice none 0 0, .slice none 0 0]).alloc (.cells #[.int .i64 ver, .int .i64 next, .int .i64 keep, .int .i64 quota, .slice A1 n1 c1, .slice A2 n2 c2, .slice A3 n3 c3] 26)
  have hO := Blk.new ((w.alloc (.cells #[.int .i64 ver, .int .i64 next, .int .i64 keep, .int .i64 quota, .slice A1 n1 c1, .slice A2 n2 c2, .slice A3 n3 c3] 26)).alloc (.cells #[.int .i64 0, .int .i64 0, .int .i64 0, .int .i64 0, .slice none 0 0, .slice none 0 0, .slice none 0 0] 26)) 26 [.int .i64 ver, .int .i64 next, .int .i64 keep, .int .i64 quota, .slice A1 n1 c1, .slice A2 n2 c2, .slice A3 n3 c3]
  have xw : Ext w (((w.alloc (.cells #[.int .i64 ver, .int .i64 next, .int .i64 keep, .int .i64 quota, .slice A1 n1 c1, .slice A2 n2 c2, .slice A3 n3 c3] 26)).alloc (.cells #[.int .i64 0, .int .i64 0, .int .i64 0, .int .i64 0, .slice none 0 0, .slice none 0 0, .slice none 0 0] 26)).alloc (.cells #[.int .i64 ver, .int .i64 next, .int .i64 keep, .int .i64 quota, .slice A1 n1 c1, .slice A2 n2 c2, .slice A3 n3 c3] 26)) := (((Ext.refl w).alloc _).alloc _).alloc _
  have hz : w.heap.size + 3 ≤ (((w.alloc (.cells #[.int .i64 ver, .int .i64 next, .int .i64 keep, .int .i64 quota, .slice A1 n1 c1, .slice A2 n2 c2, .slice A3 n3 c3] 26)).alloc (.cells #[.int .i64 0, .int .i64 0, .int .i64 0, .int .i64 0, .slice none 0 0, .slice none 0 0, .slice none 0 0] 26)).alloc (.cells #[.int .i64 ver, .int .i64 next, .int .i64 keep, .int .i64 quota, .slice A1 n1 c1, .slice A2 n2 c2, .slice A3 n3 c3] 26)).heap.size := by simp
  rw [show (w.alloc (.cells #[.int .i64 ver, .int .i64 next, .int .i64 keep, .int .i64 quota, .slice A1 n1 c1, .slice A2 n2 c2, .slice A3 n3 c3] 26)).heap.size = w.heap.size + 1 by simp] at hZ
  rw [show ((w.alloc (.cells #[.int .i64 ver, .int .i64 next, .int .i64 keep, .int .i64 quota, .slice A1 n1 c1, .slice A2 n2 c2, .slice A3 n3 c3] 26)).alloc (.cells #[.int .i64 0, .int .i64 0, .int .i64 0, .int .i64 0, .slice none 0 0, .slice none 0 0, .slice none 0 0] 26)).heap.size = w.heap.size + 1 + 1 by simp] at hO
  go_enter Try.func32, Try.ntmps32
  go_upto_region 2 with fail
  generalize (((w.alloc (.cells #[.int .i64 ver, .int .i64 next, .int .i64 keep, .int .i64 quota, .slice A1 n1 c1, .slice A2 n2 c2, .slice A3 n3 c3] 26)).alloc (.cells #[.int .i64 0, .int .i64 0, .int .i64 0, .int .i64 0, .slice none 0 0, .slice none 0 0, .slice none 0 0] 26)).alloc (.cells #[.int .i64 ver, .int .i64 next, .int .i64 keep, .int .i64 quota, .slice A1 n1 c1, .slice A2 n2 c2, .slice A3 n3 c3] 26)) = W0 at *
  have hemp1 := own_empty W0 45 4
  have hb1 := t1.ext xw
  have d4 := (hS.alloc (.cells #[] 45)).cell 4
  simp only [List.getElem?_cons_zero, List.getElem?_cons_succ] at d4
  have gz := (hO.alloc (.cells #[] 45)).frozen 4
  go_upto_region 3 with (at_builtin; refine wpList_app sessT (by omega) _ rfl rfl rfl hemp1 rfl (hb1.rd.alloc _) (thingsOf_cells _) (by unfold maxLen; omega) (by omega) (by simp) ?_; intro v1 w1 hown1 hg1 hat1; simp only [Nat.zero_add, List.nil_append] at hown1; obtain ⟨A1', c1', rfl, _⟩ := own_form hown1; have x1 := Below.app ((Ext.refl W0).alloc _) hg1 (by simp) hemp1 (Nat.le_refl _); have hp1 := hO.ext x1; have hc1 := hp1.cell 4; have hf1 := hp1.frozen 4; simp only [List.getElem?_cons_zero, List.getElem?_cons_succ] at hc1)
  have own1 := own_to (base' := w.heap.size + 3) (n' := n1) (ys := thingsOf ses) hown1 hz rfl rfl
  clear hown1 hg1 hat1 hemp1 d4 gz hc1 hf1 hp1 hb1
  replace own1 := own_set own1 (p := ⟨w.heap.size + 1 + 1, 4, none⟩) (show w.heap.size + 1 + 1 < w.heap.size + 3 by omega) (.slice A1' n1 c1')
  replace hS := (hS.ext x1).far (p := ⟨w.heap.size + 1 + 1, 4, none⟩) (by show w.heap.size ≠ w.heap.size + 1 + 1; omega) (.slice A1' n1 c1')
  replace hZ := (hZ.ext x1).far (p := ⟨w.heap.size + 1 + 1, 4, none⟩) (by show w.heap.size + 1 ≠ w.heap.size + 1 + 1; omega) (.slice A1' n1 c1')
  replace hO := (hO.ext x1).set_ 4 (.slice A1' n1 c1')
  simp only [List.set_cons_succ, List.set_cons_zero] at hO
  replace xw := (xw.trans x1).setCell (p := ⟨w.heap.size + 1 + 1, 4, none⟩) (by show w.heap.size ≤ w.heap.size + 1 + 1; omega) (.slice A1' n1 c1')
  replace hz : w.heap.size + 3 ≤ (w1.setCell ⟨w.heap.size + 1 + 1, 4, none⟩ (.slice A1' n1 c1')).heap.size := by simpa using Nat.le_trans hz x1.size
  clear x1
  generalize w1.setCell ⟨w.heap.size + 1 + 1, 4, none⟩ (.slice A1' n1 c1') = W1 at *
  have hemp2 := own_empty W1 47 2
  have hb2 := t2.ext xw
  have d5 := (hS.alloc (.cells #[] 47)).cell 5
  simp only [List.getElem?_cons_zero, List.getElem?_cons_succ] at d5
  have gz := (hO.alloc (.cells #[] 47)).frozen 5
  go_upto_region 4 with (at_builtin; refine wpList_app opensT (by omega) _ rfl rfl rfl hemp2 rfl (hb2.rd.alloc _) (thingsOf_cells _) (by unfold maxLen; omega) (by omega) (by simp) ?_; intro v2 w2 hown2 hg2 hat2; simp only [Nat.zero_add, List.nil_append] at hown2; obtain ⟨A2', c2', rfl, _⟩ := own_form hown2; have x2 := Below.app ((Ext.refl W1).alloc _) hg2 (by simp) hemp2 (Nat.le_refl _); have hp2 := hO.ext x2; have hc2 := hp2.cell 5; have hf2 := hp2.frozen 5; simp only [List.getElem?_cons_zero, List.getElem?_cons_succ] at hc2)
  have own2 := own_to (base' := w.heap.size + 3) (n' := n2) (ys := thingsOf ops) hown2 hz rfl rfl
  clear hown2 hg2 hat2 hemp2 d5 gz hc2 hf2 hp2 hb2
  replace own1 := own_ext own1 x2
  replace own1 := own_set own1 (p := ⟨w.heap.size + 1 + 1, 5, none⟩) (show w.heap.size + 1 + 1 < w.heap.size + 3 by omega) (.slice A2' n2 c2')
  replace own2 := own_set own2 (p := ⟨w.heap.size + 1 + 1, 5, none⟩) (show w.heap.size + 1 + 1 < w.heap.size + 3 by omega) (.slice A2' n2 c2')
  replace hS := (hS.ext x2).far (p := ⟨w.heap.size + 1 + 1, 5, none⟩) (by show w.heap.size ≠ w.heap.size + 1 + 1; omega) (.slice A2' n2 c2')
  replace hZ := (hZ.ext x2).far (p := ⟨w.heap.size + 1 + 1, 5, none⟩) (by show w.heap.size + 1 ≠ w.heap.size + 1 + 1; omega) (.slice A2' n2 c2')
  replace hO := (hO.ext x2).set_ 5 (.slice A2' n2 c2')
  simp only [List.set_cons_succ, List.set_cons_zero] at hO
  replace xw := (xw.trans x2).setCell (p := ⟨w.heap.size + 1 + 1, 5, none⟩) (by show w.heap.size ≤ w.heap.size + 1 + 1; omega) (.slice A2' n2 c2')
  replace hz : w.heap.size + 3 ≤ (w2.setCell ⟨w.heap.size + 1 + 1, 5, none⟩ (.slice A2' n2 c2')).heap.size := by simpa using Nat.le_trans hz x2.size
  clear x2
  generalize w2.setCell ⟨w.heap.size + 1 + 1, 5, none⟩ (.slice A2' n2 c2') = W2 at *
  have d6 := hO.cell 6
  simp only [List.getElem?_cons_zero, List.getElem?_cons_succ] at d6
  have g6 := hO.frozen 6
  go_upto_region 5 with fail
  clear d6 g6
  replace own1 := own_set own1 (p := ⟨w.heap.size + 1 + 1, 6, none⟩) (show w.heap.size + 1 + 1 < w.heap.size + 3 by omega) (.slice none 0 0)
  replace own2 := own_set own2 (p := ⟨w.heap.size + 1 + 1, 6, none⟩) (show w.heap.size + 1 + 1 < w.heap.size + 3 by omega) (.slice none 0 0)
  replace hS := hS.far (p := ⟨w.heap.size + 1 + 1, 6, none⟩) (by show w.heap.size ≠ w.heap.size + 1 + 1; omega) (.slice none 0 0)
  replace hZ := hZ.far (p := ⟨w.heap.size + 1 + 1, 6, none⟩) (by show w.heap.size + 1 ≠ w.heap.size + 1 + 1; omega) (.slice none 0 0)
  replace hO := hO.set_ 6 (.slice none 0 0)
  simp only [List.set_cons_succ, List.set_cons_zero] at hO
  replace xw := xw.setCell (p := ⟨w.heap.size + 1 + 1, 6, none⟩) (by show w.heap.size ≤ w.heap.size + 1 + 1; omega) (.slice none 0 0)
  replace hz : w.heap.size + 3 ≤ (W2.setCell ⟨w.heap.size + 1 + 1, 6, none⟩ (.slice none 0 0)).heap.size := by simpa using hz
  generalize W2.setCell ⟨w.heap.size + 1 + 1, 6, none⟩ (.slice none 0 0) = W3 at *
  have HO1 := Lib.hid own1
  have HO2 := Lib.hid own2
  clear own1 own2
  go_wp2_with fail
  go_loopw [4] (fun i wr => ∃ j : Nat, i = .int .i64 j ∧ j ≤ n3 ∧ (∃ (d : List NV) (v3 : Value), d.length = j ∧ d.map NV.s = (sns.take j).map NV.s ∧ (∀ f ∈ d, OwnN wr (w.heap.size + 3) f) ∧
      wr.ownsRow (w.heap.size + 3) 33 5 v3 j (thingsOf d) ∧ Blk wr (w.heap.size + 1 + 1) 26 [.int .i64 ver, .int .i64 next, .int .i64 keep, .int .i64 quota, (.slice A1' n1 c1'), (.slice A2' n2 c2'), v3]) ∧
      Blk wr w.heap.size 26 [.int .i64 ver, .int .i64 next, .int .i64 keep, .int .i64 quota, .slice A1 n1 c1, .slice A2 n2 c2, .slice A3 n3 c3] ∧ Blk wr (w.heap.size + 1) 26 [.int .i64 0, .int .i64 0, .int .i64 0, .int .i64 0, .slice none 0 0, .slice none 0 0, .slice none 0 0] ∧
      wr.ownsRow (w.heap.size + 3) 45 4 (.slice A1' n1 c1') n1 (thingsOf ses) ∧ wr.ownsRow (w.heap.size + 3) 47 2 (.slice A2' n2 c2') n2 (thingsOf ops) ∧ Ext w wr ∧ w.heap.size + 3 ≤ wr.heap.size) (fun i _ => n3 - (intOf i).toNat)
  case atStart => exact ⟨0, rfl, by omega, ⟨[], .slice none 0 0, rfl, rfl, by simp, World.ownsRow_nil _ _ _ _, hO⟩, hS, hZ, HO1.out, HO2.out, xw, hz⟩
  case round =>
    clear hS hZ hO HO1 HO2 hz xw
    obtain ⟨j, rfl, hj, ⟨d, v3, hdl, hds, hdo, hrow, hO⟩, hS, hZ, ho1, ho2, hx, hz⟩ := hrel
    have hk := t3.ok
    by_cases hjn : j < n3
    · have hjl : j < sns.length := by omega
      obtain ⟨bb, off, rfl, hlt, hc⟩ := (t3.ext hx).at_ hjn
      have hok : NV.Ok sns[j] wr := (t3.ext hx).ok _ (List.getElem_mem _)
      have hfl := f4 sns[j] (List.getElem_mem _)
      have HSN := Lib.hid (fun (A4 : Option Addr) (c4 : Nat) => copyr_step (A4 := A4) (c4 := c4) hjl hds)
      generalize sns[j] = f at *
      have c0 : wr.cell? ⟨bb, off + j * 5, none⟩ = some (.int .i64 f.id) := hc 0 (by omega)
      have c1 : wr.cell? ⟨bb, off + j * 5 + 1, none⟩ = some (.int .i64 f.set) := hc 1 (by omega)
      have c2_ : wr.cell? ⟨bb, off + j * 5 + 2, none⟩ = some (.slice f.A f.len f.cap) := hc 2 (by omega)
      have c3_ : wr.cell? ⟨bb, off + j * 5 + 3, none⟩ = some (.bool f.held) := hc 3 (by omega)
      have c4_ : wr.cell? ⟨bb, off + j * 5 + 4, none⟩ = some (.string f.tag) := hc 4 (by omega)
      have d6 := hS.cell 6
      simp only [List.getElem?_cons_zero, List.getElem?_cons_succ] at d6
      have hj0 : (0 : Int) ≤ j := by omega
      have hj1 : (j : Int) < n3 := by omega
      have HDS := Lib.hid hds
      have HDL := Lib.hid hdl
      clear hc hds hdl
      go_upto_region 9 with fail
      have hX := Blk.new wr 33 [.int .i64 f.id, .int .i64 f.set, .slice f.A f.len f.cap, .bool f.held, .string f.tag]
      have xX : Ext wr (wr.alloc (.cells #[.int .i64 f.id, .int .i64 f.set, .slice f.A f.len f.cap, .bool f.held, .string f.tag] 33)) := (Ext.refl wr).alloc _
      clear c0 c1 c2_ c3_ c4_ d6
      have hemp := own_empty (wr.alloc (.cells #[.int .i64 f.id, .int .i64 f.set, .slice f.A f.len f.cap, .bool f.held, .string f.tag] 33)) 3 1
      have hIs := hok.cs.ext xX
      generalize wr.alloc (.cells #[.int .i64 f.id, .int .i64 f.set, .slice f.A f.len f.cap, .bool f.held, .string f.tag] 33) = W4 at *
      have d2 := (hX.alloc (.cells #[] 3)).cell 2
      simp only [List.getElem?_cons_zero, List.getElem?_cons_succ] at d2
      go_upto_region 10 with (at_builtin; refine wpList_app intsT (by omega) _ rfl rfl rfl hemp rfl (Rd.alloc hIs _) (ints_one _) (by unfold maxLen; omega) (by omega) (by simp) ?_; intro v5 w5 hown5 hg5 hat5; simp only [Nat.zero_add, List.nil_append] at hown5; obtain ⟨A5, c5, rfl, _⟩ := own_form hown5; have x5 := Below.app ((Ext.refl W4).alloc _) hg5 (by simp) hemp (Nat.le_refl _); have hp5 := hX.ext x5; have hc5 := hp5.cell 2; have hf5 := hp5.frozen 2; simp only [List.getElem?_cons_zero, List.getElem?_cons_succ] at hc5)
      have hlt4 : wr.heap.size < W4.heap.size := hX.lt
      have own5 := own_to (base' := w.heap.size + 3) (n' := f.len) (ys := f.ch.map (Value.int .i64)) (own_set hown5 (p := ⟨wr.heap.size, 2, none⟩) hlt4 (.slice A5 f.len c5)) (by omega) rfl rfl
      have xW := (xX.trans x5).setCell (p := ⟨wr.heap.size, 2, none⟩) (Nat.le_refl _) (.slice A5 f.len c5)
      replace hX := (hX.ext x5).set_ 2 (.slice A5 f.len c5)
      simp only [List.set_cons_succ, List.set_cons_zero] at hX
      clear hown5 hg5 hat5 hemp d2 hc5 hf5 hp5 hlt4 xX x5 hIs
      generalize w5.setCell ⟨wr.heap.size, 2, none⟩ (.slice A5 f.len c5) = W5 at *
      replace hO := hO.ext xW
      replace hS := hS.ext xW
      replace hZ := hZ.ext xW
      replace ho1 := own_ext ho1 xW
      replace ho2 := own_ext ho2 xW
      replace hrow := own_ext hrow xW
      replace hdo : ∀ g ∈ d, OwnN W5 (w.heap.size + 3) g := fun g hg => (hdo g hg).ext xW
      have hx5 := hx.trans xW
      have hz5 := Nat.le_trans hz xW.size
      have d0 := hX.cell 0
      have d1 := hX.cell 1
      have d2 := hX.cell 2
      have d3 := hX.cell 3
      have d4 := hX.cell 4
      simp only [List.getElem?_cons_zero, List.getElem?_cons_succ] at d0 d1 d2 d3 d4
      have e6 := hO.cell 6
      simp only [List.getElem?_cons_zero, List.getElem?_cons_succ] at e6
      have HOK : Hid (OwnN W5 (w.heap.size + 3) (likeN f A5 c5)) := Lib.hid ⟨hok.u0, hok.u1, own5, hok.uc, hok.ut⟩
      have HDO := Lib.hid hdo
      have H1 := Lib.hid ho1
      have H2 := Lib.hid ho2
      have HS := Lib.hid hS
      have HZ := Lib.hid hZ
      have HX := Lib.hid hx5
      have HOO := Lib.hid hO
      obtain ⟨Av, cv, rfl, _⟩ := own_form hrow
      clear hok own5 hdo ho1 ho2 hS hZ hx5 hX hO
      go_wp2_with (at_builtin; refine wpList_app snapsT (by omega) _ rfl rfl rfl (hrow.alloc _) rfl (rd_at5 _ (.int .i64 f.id) (.int .i64 f.set) (.slice A5 f.len c5) (.bool f.held) (.string f.tag) _ _ (by simp)) (snap_one (likeN f A5 c5)) (by unfold maxLen; omega) (by omega) (by simp; omega) ?_; intro v6 w6 hown6 hg6 hat6; obtain ⟨A6, c6, rfl, _⟩ := own_form hown6; have hp6 := (HOO.out.alloc _).grown hg6 (fun e => by have := (hrow.lt _ e.symm).1; omega); have hc6 := hp6.cell 6; have hf6 := hp6.frozen 6; simp only [List.getElem?_cons_zero, List.getElem?_cons_succ] at hc6)
      have hend := copyr_end hrow HOK.out HDO.out H1.out H2.out HOO.out HS.out HZ.out HX.out hz5 hown6 hg6
      clear hc6 hf6 hp6 hg6 hat6 hown6 hrow e6 d0 d1 d2 d3 d4
      go_roundw
      case rel => exact ⟨j + 1, val_int (by omega), by omega, ⟨d ++ [likeN f A5 c5], _, by rw [List.length_append, HDL.out]; rfl, HSN.out A5 c5, hend.1⟩, hend.2⟩
      case measure => simp [intOf]; omega
    · obtain rfl : n3 = j := by omega
      rw [List.take_of_length_le (by omega)] at hds
      obtain ⟨A3', c3', rfl, _⟩ := own_form hrow
      have d0 := hO.cell 0
      have d1 := hO.cell 1
      have d2 := hO.cell 2
      have d3 := hO.cell 3
      have d4 := hO.cell 4
      have d5 := hO.cell 5
      have d6 := hO.cell 6
      simp only [List.getElem?_cons_zero, List.getElem?_cons_succ] at d0 d1 d2 d3 d4 d5 d6
      have e6 := hS.cell 6
      simp only [List.getElem?_cons_zero, List.getElem?_cons_succ] at e6
      have g0 := hZ.cell 0
      have g1 := hZ.cell 1
      have g2 := hZ.cell 2
      have g3 := hZ.cell 3
      have g4 := hZ.cell 4
      have g5 := hZ.cell 5
      have g6 := hZ.cell 6
      simp only [List.getElem?_cons_zero, List.getElem?_cons_succ] at g0 g1 g2 g3 g4 g5 g6
      have r0 := hZ.frozen 0
      have r1 := hZ.frozen 1
      have r2 := hZ.frozen 2
      have r3 := hZ.frozen 3
      have r4 := hZ.frozen 4
      have r5 := hZ.frozen 5
      have r6 := hZ.frozen 6
      have HDL := Lib.hid hdl
      have HDS := Lib.hid hds
      have hk1 := t1.ok
      have hk2 := t2.ok
      have HD := Lib.hid hdo
      have HO1 := Lib.hid ho1
      have HO2 := Lib.hid ho2
      have HO3 := Lib.hid hrow
      clear hO hZ hS hrow hdl hds hdo ho1 ho2
      go_wp2
      refine bodyPost_ret (v := .agg #[.int .i64 ver, .int .i64 next, .int .i64 keep, .int .i64 quota, .slice A1' n1 c1', .slice A2' n2 c2', .slice A3' n3 c3']) (by simp [results, Try.results32, go_sem, g0, g1, g2, g3, g4, g5, g6]) rfl
        ⟨⟨ver, next, keep, quota, A1', n1, c1', ses, A2', n2, c2', ops, A3', n3, c3', d⟩, rfl, ?_, ⟨rfl, rfl, rfl, rfl, rfl, rfl, rfl, rfl, rfl, HDS.out⟩, ?_⟩
      · refine ⟨q0, q1, q2, q3, ?_, ?_, ?_, fun f hf => cv_any (hk1 f hf) _, fun f hf => ov_any (hk2 f hf) _, fun f hf => ?_⟩
        · refine own_base (base := w.heap.size + 3) ?_ (by omega)
          repeat (refine own_set ?_ (by simp) _)
          exact HO1.out
        · refine own_base (base := w.heap.size + 3) ?_ (by omega)
          repeat (refine own_set ?_ (by simp) _)
          exact HO2.out
        · refine own_base (base := w.heap.size + 3) ?_ (by omega)
          repeat (refine own_set ?_ (by simp) _)
          exact HO3.out
        · have := HD.out f hf
          refine ⟨this.u0, this.u1, own_base (base := w.heap.size + 3) ?_ (by omega), this.uc, this.ut⟩
          repeat (refine own_set ?_ (by simp) _)
          exact this.own
      · repeat (refine Ext.setCell ?_ (by simp) _)
        exact hx
end Go.Proofs.Ytiildgoaiookhaa
