/- Words and walks that the last text of this claim stands on: Im5. No condition. -/
import Derived.Test.YtiildgoaiookhaaB34
import Derived.Test.YtiildgoaiookhaaB35
import Derived.Test.YtiildgoaiookhaaB24
import Derived.Test.YtiildgoaiookhaaB25
/- The walk of the law ImageBack. (Printed by wip/tools/imback.py.) -/
namespace Go.Proofs.Ytiildgoaiookhaa
open Go.RowKit

theorem and1023 (x : Int) : 0 ≤ bits .and .i64 x 1023 ∧ bits .and .i64 x 1023 ≤ 1023 := by
  have h : ∀ n : Nat, n ≤ 1023 → 0 ≤ IntKind.i64.wrap (n : Int) ∧ IntKind.i64.wrap (n : Int) ≤ 1023 := by
    intro n hn
    have e := wrap_nat (n := (n : Int)) (by omega) (by omega)
    rw [Int.toNat_natCast] at e
    rw [e]
    omega
  unfold bits
  dsimp only
  apply h
  rw [BitVec.toNat_and]
  exact Nat.le_trans Nat.and_le_right (by decide)
theorem KTaken.yes {v : Int} {b : List UInt8} {s t : KV} {m n : List (List FV)} {a c : List FV} {e : Nat} (h : KTaken v b s m a e) (k : IsKat v b t n c) : e = 0 ∧ IsKat v b s m a ∧ m.length = s.sns.length := by
  rcases h with h | h
  · exact h
  · exact absurd k (h.2.2.2.2.2.2.2.2.2.2.2 _ _ _)
theorem KTaken.zero {v : Int} {b : List UInt8} {s : KV} {m : List (List FV)} {a : List FV} (h : KTaken v b s m a 0) : IsKat v b s m a := by
  rcases h with h | h
  · exact h.2.1
  · exact absurd rfl h.1
set_option maxRecDepth 100000 in
set_option maxHeartbeats 6400000 in
theorem law_ImageBack (s : KV) (x : XV) (p0 p1 : Int) (w : World) (hs : s.Ok w) (hx : x.Ok w) :
    Calls Try.prog 12 #[s.val, x.val, .agg #[.int .i64 p0, .int .i64 p1]] w fun e w' => e = .returned (.bool true) ∧ Ext w w' := by
  have hB_s := Blk.new w 26 [.int .i64 s.ver, .int .i64 s.next, .int .i64 s.keep, .int .i64 s.quota, .slice s.A1 s.n1 s.c1, .slice s.A2 s.n2 s.c2, .slice s.A3 s.n3 s.c3]
  replace hB_s := hB_s.alloc (.cells #[.slice x.A1 x.n1 x.c1, .slice x.A2 x.n2 x.c2] 51)
  replace hB_s := hB_s.alloc (.cells #[.int .i64 p0, .int .i64 p1] 60)
  have hB_x := Blk.new (w.alloc (.cells #[.int .i64 s.ver, .int .i64 s.next, .int .i64 s.keep, .int .i64 s.quota, .slice s.A1 s.n1 s.c1, .slice s.A2 s.n2 s.c2, .slice s.A3 s.n3 s.c3] 26)) 51 [.slice x.A1 x.n1 x.c1, .slice x.A2 x.n2 x.c2]
  rw [show (w.alloc (.cells #[.int .i64 s.ver, .int .i64 s.next, .int .i64 s.keep, .int .i64 s.quota, .slice s.A1 s.n1 s.c1, .slice s.A2 s.n2 s.c2, .slice s.A3 s.n3 s.c3] 26)).heap.size = w.heap.size + 1 by simp] at hB_x
  replace hB_x := hB_x.alloc (.cells #[.int .i64 p0, .int .i64 p1] 60)
  have hB_p := Blk.new ((w.alloc (.cells #[.int .i64 s.ver, .int .i64 s.next, .int .i64 s.keep, .int .i64 s.quota, .slice s.A1 s.n1 s.c1, .slice s.A2 s.n2 s.c2, .slice s.A3 s.n3 s.c3] 26)).alloc (.cells #[.slice x.A1 x.n1 x.c1, .slice x.A2 x.n2 x.c2] 51)) 60 [.int .i64 p0, .int .i64 p1]
  rw [show ((w.alloc (.cells #[.int .i64 s.ver, .int .i64 s.next, .int .i64 s.keep, .int .i64 s.quota, .slice s.A1 s.n1 s.c1, .slice s.A2 s.n2 s.c2, .slice s.A3 s.n3 s.c3] 26)).alloc (.cells #[.slice x.A1 x.n1 x.c1, .slice x.A2 x.n2 x.c2] 51)).heap.size = w.heap.size + 1 + 1 by simp] at hB_p
  have xw : Ext w (((w.alloc (.cells #[.int .i64 s.ver, .int .i64 s.next, .int .i64 s.keep, .int .i64 s.quota, .slice s.A1 s.n1 s.c1, .slice s.A2 s.n2 s.c2, .slice s.A3 s.n3 s.c3] 26)).alloc (.cells #[.slice x.A1 x.n1 x.c1, .slice x.A2 x.n2 x.c2] 51)).alloc (.cells #[.int .i64 p0, .int .i64 p1] 60)) := ((((Ext.refl w).alloc _).alloc _).alloc _)
  have hzw : w.heap.size + 3 ≤ (((w.alloc (.cells #[.int .i64 s.ver, .int .i64 s.next, .int .i64 s.keep, .int .i64 s.quota, .slice s.A1 s.n1 s.c1, .slice s.A2 s.n2 s.c2, .slice s.A3 s.n3 s.c3] 26)).alloc (.cells #[.slice x.A1 x.n1 x.c1, .slice x.A2 x.n2 x.c2] 51)).alloc (.cells #[.int .i64 p0, .int .i64 p1] 60)).heap.size := by simp
  unfold KV.val XV.val
  go_enter Try.func12, Try.ntmps12
  go_upto_region 1 with fail
  generalize (((w.alloc (.cells #[.int .i64 s.ver, .int .i64 s.next, .int .i64 s.keep, .int .i64 s.quota, .slice s.A1 s.n1 s.c1, .slice s.A2 s.n2 s.c2, .slice s.A3 s.n3 s.c3] 26)).alloc (.cells #[.slice x.A1 x.n1 x.c1, .slice x.A2 x.n2 x.c2] 51)).alloc (.cells #[.int .i64 p0, .int .i64 p1] 60)) = W0 at *
  go_wp2_with fail
  refine (law10_shown _).mono ?_
  rintro e w1 ⟨rfl, x1⟩
  replace hB_s := hB_s.ext x1
  replace hB_x := hB_x.ext x1
  replace hB_p := hB_p.ext x1
  replace xw := xw.trans x1
  have hz1 : w.heap.size + 3 ≤ w1.heap.size := Nat.le_trans hzw x1.size
  have hzW : w1.heap.size ≤ w1.heap.size := Nat.le_refl _
  clear x1 hzw
  have d0 := hB_s.cell 0
  have d1 := hB_s.cell 1
  have d2 := hB_s.cell 2
  have d3 := hB_s.cell 3
  have d4 := hB_s.cell 4
  have d5 := hB_s.cell 5
  have d6 := hB_s.cell 6
  simp only [List.getElem?_cons_zero, List.getElem?_cons_succ] at d0 d1 d2 d3 d4 d5 d6
  have HL := Lib.hid (law10_less s w1 (hs.ext xw))
  unfold KV.val at HL
  go_wp2_with fail
  refine HL.out.mono ?_
  clear HL
  rintro e v1 ⟨A1_, c1_, rfl, hown, y1⟩
  clear d0 d1 d2 d3 d4 d5 d6
  replace hown := own_base hown hzW
  replace hB_s := hB_s.ext y1
  replace hB_x := hB_x.ext y1
  replace hB_p := hB_p.ext y1
  replace xw := xw.trans y1
  replace hzW := Nat.le_trans hzW y1.size
  have d0 := hB_s.cell 0
  have d1 := hB_s.cell 1
  have d2 := hB_s.cell 2
  have d3 := hB_s.cell 3
  have d4 := hB_s.cell 4
  have d5 := hB_s.cell 5
  have d6 := hB_s.cell 6
  simp only [List.getElem?_cons_zero, List.getElem?_cons_succ] at d0 d1 d2 d3 d4 d5 d6
  have f0 := hB_s.frozen 0
  have f1 := hB_s.frozen 1
  have f2 := hB_s.frozen 2
  have f3 := hB_s.frozen 3
  have f4 := hB_s.frozen 4
  have f5 := hB_s.frozen 5
  have f6 := hB_s.frozen 6
  have hL_s := LK.start (s := s) hB_s hown (show w.heap.size < w1.heap.size by omega)
  replace hB_x := hB_x.far7 (show w.heap.size + 1 ≠ w.heap.size by omega) (.int .i64 (lessK s A1_ c1_).ver) (.int .i64 (lessK s A1_ c1_).next) (.int .i64 (lessK s A1_ c1_).keep) (.int .i64 (lessK s A1_ c1_).quota) (.slice (lessK s A1_ c1_).A1 (lessK s A1_ c1_).n1 (lessK s A1_ c1_).c1) (.slice (lessK s A1_ c1_).A2 (lessK s A1_ c1_).n2 (lessK s A1_ c1_).c2) (.slice (lessK s A1_ c1_).A3 (lessK s A1_ c1_).n3 (lessK s A1_ c1_).c3)
  replace hB_p := hB_p.far7 (show w.heap.size + 1 + 1 ≠ w.heap.size by omega) (.int .i64 (lessK s A1_ c1_).ver) (.int .i64 (lessK s A1_ c1_).next) (.int .i64 (lessK s A1_ c1_).keep) (.int .i64 (lessK s A1_ c1_).quota) (.slice (lessK s A1_ c1_).A1 (lessK s A1_ c1_).n1 (lessK s A1_ c1_).c1) (.slice (lessK s A1_ c1_).A2 (lessK s A1_ c1_).n2 (lessK s A1_ c1_).c2) (.slice (lessK s A1_ c1_).A3 (lessK s A1_ c1_).n3 (lessK s A1_ c1_).c3)
  replace xw := xw.st7 (g := w.heap.size) (by omega) (.int .i64 (lessK s A1_ c1_).ver) (.int .i64 (lessK s A1_ c1_).next) (.int .i64 (lessK s A1_ c1_).keep) (.int .i64 (lessK s A1_ c1_).quota) (.slice (lessK s A1_ c1_).A1 (lessK s A1_ c1_).n1 (lessK s A1_ c1_).c1) (.slice (lessK s A1_ c1_).A2 (lessK s A1_ c1_).n2 (lessK s A1_ c1_).c2) (.slice (lessK s A1_ c1_).A3 (lessK s A1_ c1_).n3 (lessK s A1_ c1_).c3)
  replace hzW : w1.heap.size ≤ (put7 v1 (w.heap.size) (.int .i64 (lessK s A1_ c1_).ver) (.int .i64 (lessK s A1_ c1_).next) (.int .i64 (lessK s A1_ c1_).keep) (.int .i64 (lessK s A1_ c1_).quota) (.slice (lessK s A1_ c1_).A1 (lessK s A1_ c1_).n1 (lessK s A1_ c1_).c1) (.slice (lessK s A1_ c1_).A2 (lessK s A1_ c1_).n2 (lessK s A1_ c1_).c2) (.slice (lessK s A1_ c1_).A3 (lessK s A1_ c1_).n3 (lessK s A1_ c1_).c3)).heap.size := by rw [put7_size]; exact hzW
  generalize lessK s A1_ c1_ = t at *
  clear hown y1 hB_s
  go_upto_region 3 with fail
  rw [st7_def]
  clear d0 d1 d2 d3 d4 d5 d6 f0 f1 f2 f3 f4 f5 f6
  generalize put7 v1 (w.heap.size) (.int .i64 t.ver) (.int .i64 t.next) (.int .i64 t.keep) (.int .i64 t.quota) (.slice t.A1 t.n1 t.c1) (.slice t.A2 t.n2 t.c2) (.slice t.A3 t.n3 t.c3) = W1 at *
  have d0 := hB_x.cell 0
  have d1 := hB_x.cell 1
  simp only [List.getElem?_cons_zero, List.getElem?_cons_succ] at d0 d1
  have HL := Lib.hid (law10_own x W1 (hx.ext xw))
  unfold XV.val at HL
  go_wp2_with fail
  refine HL.out.mono ?_
  clear HL
  rintro e v2 ⟨y, rfl, hown, e1_x, e2_x, hfw_x, y2⟩
  clear d0 d1
  replace hown := (hown.to hzW).rebase e1_x e2_x hx
  replace hL_s := hL_s.ext y2
  replace hB_x := hB_x.ext y2
  replace hB_p := hB_p.ext y2
  replace xw := xw.trans y2
  replace hzW := Nat.le_trans hzW y2.size
  have d0 := hB_x.cell 0
  have d1 := hB_x.cell 1
  simp only [List.getElem?_cons_zero, List.getElem?_cons_succ] at d0 d1
  have f0 := hB_x.frozen 0
  have f1 := hB_x.frozen 1
  have hX_x := LX.start (x := x) hB_x hown hfw_x (show w.heap.size + 1 < w1.heap.size by omega)
  replace hL_s := hL_s.far2 (show w.heap.size ≠ w.heap.size + 1 by omega) (show w.heap.size + 1 < w1.heap.size by omega) (.slice y.A1 y.n1 y.c1) (.slice y.A2 y.n2 y.c2)
  replace hB_p := hB_p.far2 (show w.heap.size + 1 + 1 ≠ w.heap.size + 1 by omega) (.slice y.A1 y.n1 y.c1) (.slice y.A2 y.n2 y.c2)
  replace xw := xw.st2 (g := w.heap.size + 1) (by omega) (.slice y.A1 y.n1 y.c1) (.slice y.A2 y.n2 y.c2)
  replace hzW : w1.heap.size ≤ (put2 v2 (w.heap.size + 1) (.slice y.A1 y.n1 y.c1) (.slice y.A2 y.n2 y.c2)).heap.size := by rw [put2_size]; exact hzW
  clear hown y2 hB_x hfw_x
  go_upto_region 4 with fail
  rw [st2_def]
  clear d0 d1 f0 f1
  generalize put2 v2 (w.heap.size + 1) (.slice y.A1 y.n1 y.c1) (.slice y.A2 y.n2 y.c2) = W2 at *
  have d0 := hB_p.cell 0
  have d1 := hB_p.cell 1
  simp only [List.getElem?_cons_zero, List.getElem?_cons_succ] at d0 d1
  have hq := and1023 p0
  have hq0 := hq.1
  have hq1 := hq.2
  clear hq
  go_upto_region 5 with fail
  have hv1 : 1 ≤ 1 + bits .and .i64 p0 1023 % 3 := by omega
  have hv3 : 1 + bits .and .i64 p0 1023 % 3 ≤ 3 := by omega
  generalize 1 + bits .and .i64 p0 1023 % 3 = v at *
  clear hq0 hq1 d0 d1 hzW hz1
  have hok := hL_s.ok hs xw
  have hyk := hX_x.ok xw
  have hfew := hL_s.few
  have hfy := hX_x.few
  have HP := Lib.hid (image_Put t y v W2 hok hyk hfew hfy)
  have HS1 := Lib.hid (fun (t2 : KV) (V : World) (h : Ext W2 V) (hk : t2.Ok V) (f : t2.Few) (hb : kSame t t2 = true) => ref07_Same t t2 true hb V (hok.ext h) hk hfew f)
  have HS2 := Lib.hid (fun (t2 : KV) (b : Bool) (V : World) (h : Ext W2 V) (hk : t2.Ok V) (f : t2.Few) (hb : kSame t2 t = b) => ref07_Same t2 t b hb V hk (hok.ext h) f hfew)
  have HR1 := Lib.hid (fun (y2 : XV) (V : World) (h : Ext W2 V) (hk : y2.Ok V) (f : y2.Few) (hb : restEq y.more y2.more y.top y2.top = true) => ref10_SameRest y y2 true hb V (hyk.ext h) hk hfy f)
  have HR2 := Lib.hid (fun (y2 : XV) (b : Bool) (V : World) (h : Ext W2 V) (hk : y2.Ok V) (f : y2.Few) (hb : restEq y2.more y.more y2.top y.top = b) => ref10_SameRest y2 y b hb V hk (hyk.ext h) f hfy)
  have HIS : Hid (∀ b, kput v t y.more y.top = (b, 0) → IsKat v b t y.more y.top) := Lib.hid (fun b h => kput_is h hyk.kt hyk.km)
  have HNO : Hid ((kput v t y.more y.top).2 ≠ 0 → (kput v t y.more y.top).1 = []) := Lib.hid kput_no
  unfold PutPost KV.val XV.val at HP
  unfold KV.val at HS1 HS2
  unfold XV.val at HR1 HR2
  generalize kput v t y.more y.top = PA at *
  obtain ⟨b, ec⟩ := PA
  dsimp only at HP HNO
  have HC1 := Lib.hid (fun (V : World) (h : Ext W2 V) (i : Nat) => (hL_s.blk.ext h).cell i)
  have HC2 := Lib.hid (fun (V : World) (h : Ext W2 V) (i : Nat) => (hX_x.blk.ext h).cell i)
  have HC3 := Lib.hid (fun (V : World) (h : Ext W2 V) (i : Nat) => (hB_p.ext h).cell i)
  have HLT : Hid (t.sns.length = t.n3) := Lib.hid hok.t3.len
  have HXW := Lib.hid xw
  clear hok hyk hfew hfy hL_s hX_x hB_p xw
  have d0 := HC1.out _ (Ext.refl W2) 0
  have d1 := HC1.out _ (Ext.refl W2) 1
  have d2 := HC1.out _ (Ext.refl W2) 2
  have d3 := HC1.out _ (Ext.refl W2) 3
  have d4 := HC1.out _ (Ext.refl W2) 4
  have d5 := HC1.out _ (Ext.refl W2) 5
  have d6 := HC1.out _ (Ext.refl W2) 6
  simp only [List.getElem?_cons_zero, List.getElem?_cons_succ] at d0 d1 d2 d3 d4 d5 d6
  have f0 := HC2.out _ (Ext.refl W2) 0
  have f1 := HC2.out _ (Ext.refl W2) 1
  simp only [List.getElem?_cons_zero, List.getElem?_cons_succ] at f0 f1
  go_wp2_with fail
  refine HP.out.mono ?_
  rintro e w3 ⟨v3, rfl, ho3, x3⟩
  obtain ⟨A3, c3, rfl, hc3⟩ := own_form ho3
  have hcm3 := (own_bounds ho3).2
  have hb3 : Bs w3 A3 b.length b := Bs.of_own ho3
  clear HP ho3 d0 d1 d2 d3 d4 d5 d6 f0 f1
  by_cases he : ec = 0
  case neg =>
    have hbn : b = [] := HNO.out he
    subst hbn
    have z := bne_t (show ((ec : Nat) : Int) ≠ 0 by omega)
    have HX := Lib.hid (HXW.out.trans x3)
    clear he HNO HIS HS1 HS2 HR1 HR2 HC1 HC2 HC3 HXW hb3 HLT x3
    go_wp2_with fail
    go_ret
    exact ⟨rfl, HX.out⟩
  subst he
  have HIK := Lib.hid (HIS.out b rfl)
  have hbl : b.length ≤ 16384 := by have := (fmay_ok HIK.out.row).2; rw [← rput_len, HIK.out.put] at this; exact this
  clear HNO HIS
  have hemp := own_empty w3 5 1
  have HB3 := Lib.hid hb3
  go_wp2_with (at_builtin; refine wpList_app bytesT (by omega) _ rfl rfl rfl hemp rfl (Rd.alloc hb3 _) (bvs_one _) (by unfold maxLen; omega) (by omega) (by simp) ?_; intro v6 w6 hown6 hg6 hat6; simp only [Nat.zero_add, List.nil_append] at hown6; obtain ⟨A6, c6, rfl, hc6⟩ := own_form hown6)
  have x6 := Below.app ((Ext.refl w3).alloc _) hg6 (by simp) hemp (Nat.le_refl _)
  have HTK := Lib.hid (image_Take v A6 b.length c6 b w6 (Bs.of_own hown6) (by omega) hc6)
  unfold KTakePost KV.val XV.val at HTK
  have y6 := Ext.trans x3 x6
  have HB6 := Lib.hid (hb3.ext x6)
  clear hown6 hg6 hat6 hemp x6 x3 hb3 HB3
  refine HTK.out.mono ?_
  rintro e w7 ⟨s2, x2, code, rfl, hsok, hxok, hsf, hxf, hkt, x7⟩
  obtain ⟨rfl, hk2, hl2⟩ := hkt.yes HIK.out
  obtain ⟨q1, q2⟩ := HIK.out.two hk2
  have hn2 : x2.n2 = s2.n3 := by rw [← hxok.t2.len, ← hsok.t3.len, ← hl2, XV.more, List.length_map]
  have hn3 : s2.n3 = t.n3 := by
    have := (kSame_iff.1 q1).2.2.2.2.2.2
    have h2 := congrArg List.length this
    rw [List.length_map, List.length_map, HLT.out, hsok.t3.len] at h2
    exact h2.symm
  have HN2 := Lib.hid hn2
  have HN3 := Lib.hid hn3
  clear hn2 hn3 hk2 hl2 HTK hkt
  go_upto_region 9 with fail
  have hO1 := (Blk.new w7 26 [.int .i64 s2.ver, .int .i64 s2.next, .int .i64 s2.keep, .int .i64 s2.quota, .slice s2.A1 s2.n1 s2.c1, .slice s2.A2 s2.n2 s2.c2, .slice s2.A3 s2.n3 s2.c3]).alloc (.cells #[.slice x2.A1 x2.n1 x2.c1, .slice x2.A2 x2.n2 x2.c2] 51)
  have hO2 := Blk.new (w7.alloc (.cells #[.int .i64 s2.ver, .int .i64 s2.next, .int .i64 s2.keep, .int .i64 s2.quota, .slice s2.A1 s2.n1 s2.c1, .slice s2.A2 s2.n2 s2.c2, .slice s2.A3 s2.n3 s2.c3] 26)) 51 [.slice x2.A1 x2.n1 x2.c1, .slice x2.A2 x2.n2 x2.c2]
  rw [show (w7.alloc (.cells #[.int .i64 s2.ver, .int .i64 s2.next, .int .i64 s2.keep, .int .i64 s2.quota, .slice s2.A1 s2.n1 s2.c1, .slice s2.A2 s2.n2 s2.c2, .slice s2.A3 s2.n3 s2.c3] 26)).heap.size = w7.heap.size + 1 by simp] at hO2
  have xb : Ext w7 ((w7.alloc (.cells #[.int .i64 s2.ver, .int .i64 s2.next, .int .i64 s2.keep, .int .i64 s2.quota, .slice s2.A1 s2.n1 s2.c1, .slice s2.A2 s2.n2 s2.c2, .slice s2.A3 s2.n3 s2.c3] 26)).alloc (.cells #[.slice x2.A1 x2.n1 x2.c1, .slice x2.A2 x2.n2 x2.c2] 51)) := ((Ext.refl w7).alloc _).alloc _
  generalize (w7.alloc (.cells #[.int .i64 s2.ver, .int .i64 s2.next, .int .i64 s2.keep, .int .i64 s2.quota, .slice s2.A1 s2.n1 s2.c1, .slice s2.A2 s2.n2 s2.c2, .slice s2.A3 s2.n3 s2.c3] 26)).alloc (.cells #[.slice x2.A1 x2.n1 x2.c1, .slice x2.A2 x2.n2 x2.c2] 51) = w8 at *
  have y8 := (y6.trans x7).trans xb
  have hs8 := hsok.ext xb
  have hx8 := hxok.ext xb
  have HB8 := Lib.hid ((HB6.out.ext x7).ext xb)
  generalize w7.heap.size = g7 at *
  have HO1 := Lib.hid (fun (V : World) (h : Ext w8 V) (i : Nat) => (hO1.ext h).cell i)
  have HO2 := Lib.hid (fun (V : World) (h : Ext w8 V) (i : Nat) => (hO2.ext h).cell i)
  have HT1 := Lib.hid (HS1.out s2 w8 y8 hs8 hsf q1)
  have HT2 := Lib.hid (fun (V : World) (h : Ext w8 V) => HR1.out x2 V (y8.trans h) (hx8.ext h) hxf q2)
  have HY8 := Lib.hid y8
  clear hO1 hO2 hsok hxok hsf hxf hs8 hx8 q1 q2 x7 xb y6 HB6 y8 HS1 HR1 HLT
  have d0 := HC1.out _ HY8.out 0
  have d1 := HC1.out _ HY8.out 1
  have d2 := HC1.out _ HY8.out 2
  have d3 := HC1.out _ HY8.out 3
  have d4 := HC1.out _ HY8.out 4
  have d5 := HC1.out _ HY8.out 5
  have d6 := HC1.out _ HY8.out 6
  simp only [List.getElem?_cons_zero, List.getElem?_cons_succ] at d0 d1 d2 d3 d4 d5 d6
  have f0 := HO1.out _ (Ext.refl w8) 0
  have f1 := HO1.out _ (Ext.refl w8) 1
  have f2 := HO1.out _ (Ext.refl w8) 2
  have f3 := HO1.out _ (Ext.refl w8) 3
  have f4 := HO1.out _ (Ext.refl w8) 4
  have f5 := HO1.out _ (Ext.refl w8) 5
  have f6 := HO1.out _ (Ext.refl w8) 6
  simp only [List.getElem?_cons_zero, List.getElem?_cons_succ] at f0 f1 f2 f3 f4 f5 f6
  go_wp2_with fail
  refine HT1.out.mono ?_
  rintro e w9 ⟨rfl, x9⟩
  clear HT1 d0 d1 d2 d3 d4 d5 d6 f0 f1 f2 f3 f4 f5 f6
  have y9 := HY8.out.trans x9
  have d0 := HC2.out _ y9 0
  have d1 := HC2.out _ y9 1
  simp only [List.getElem?_cons_zero, List.getElem?_cons_succ] at d0 d1
  have f0 := HO2.out _ x9 0
  have f1 := HO2.out _ x9 1
  simp only [List.getElem?_cons_zero, List.getElem?_cons_succ] at f0 f1
  go_wp2_with fail
  refine (HT2.out _ x9).mono ?_
  rintro e w10 ⟨rfl, x10⟩
  have xx10 := x9.trans x10
  have y10 := y9.trans x10
  have HB10 := Lib.hid (HB8.out.ext xx10)
  clear HT2 d0 d1 f0 f1 x9 x10 HB8 y9 HY8
  have d0 := HC1.out _ y10 0
  have d1 := HC1.out _ y10 1
  have d2 := HC1.out _ y10 2
  have d3 := HC1.out _ y10 3
  have d4 := HC1.out _ y10 4
  have d5 := HC1.out _ y10 5
  have d6 := HC1.out _ y10 6
  simp only [List.getElem?_cons_zero, List.getElem?_cons_succ] at d0 d1 d2 d3 d4 d5 d6
  have e0 := HO1.out _ xx10 0
  have e1 := HO1.out _ xx10 1
  have e2 := HO1.out _ xx10 2
  have e3 := HO1.out _ xx10 3
  have e4 := HO1.out _ xx10 4
  have e5 := HO1.out _ xx10 5
  have e6 := HO1.out _ xx10 6
  simp only [List.getElem?_cons_zero, List.getElem?_cons_succ] at e0 e1 e2 e3 e4 e5 e6
  have f0 := HO2.out _ xx10 0
  have f1 := HO2.out _ xx10 1
  simp only [List.getElem?_cons_zero, List.getElem?_cons_succ] at f0 f1
  have e2 := HN2.out
  have e3 := HN3.out
  rw [e2, e3] at f1
  rw [e3] at e6
  clear e2 e3
  go_upto_region 13 with fail
  clear d0 d1 d2 d3 d4 d5 d6 e0 e1 e2 e3 e4 e5 e6 f0 f1 xx10 HO1 HO2 HN2 HN3
  have HX := Lib.hid (HXW.out.trans y10)
  have d0 := HC3.out _ y10 0
  have d1 := HC3.out _ y10 1
  simp only [List.getElem?_cons_zero, List.getElem?_cons_succ] at d0 d1
  by_cases h0 : 0 ≤ p1
  case neg =>
    have j0 := dec_f h0
    clear HC1 HC2 HC3 HS2 HR2 HIK HB10 y10 h0
    go_wp2_with fail
    go_ret
    exact ⟨rfl, HX.out⟩
  obtain ⟨k, rfl⟩ := Int.eq_ofNat_of_zero_le h0
  by_cases h1 : k < b.length
  case neg =>
    have j0 := dec_f (show ¬ ((k : Int) < b.length) by omega)
    have j1 := dec_f h1
    clear HC1 HC2 HC3 HS2 HR2 HIK HB10 y10 h1
    go_wp2_with fail
    go_ret
    exact ⟨rfl, HX.out⟩
  have i1 : (k : Int) < b.length := by omega
  have i2 : (k : Int) ≤ b.length := by omega
  have i3 : (k : Int) ≤ c3 := by omega
  have HTK := Lib.hid (image_Take v A3 k c3 (b.take k) w10 (HB10.out.upto (hi := k) (by omega)) (by omega) (by omega))
  unfold KTakePost KV.val XV.val at HTK
  clear HC3 HB10
  go_wp2_with fail
  refine HTK.out.mono ?_
  rintro e w11 ⟨s3, x3, code3, rfl, hsok, hxok, hsf, hxf, hkt, x11⟩
  have HZ : Hid (code3 = 0 → ¬ (kSame s3 t = true ∧ restEq x3.more y.more x3.top y.top = true)) := Lib.hid (fun e => by subst e; exact HIK.out.cut hkt.zero h1)
  clear HTK hkt HIK d0 d1 i1 i2 i3 h1
  go_upto_region 15 with fail
  have hO1 := (Blk.new w11 26 [.int .i64 s3.ver, .int .i64 s3.next, .int .i64 s3.keep, .int .i64 s3.quota, .slice s3.A1 s3.n1 s3.c1, .slice s3.A2 s3.n2 s3.c2, .slice s3.A3 s3.n3 s3.c3]).alloc (.cells #[.slice x3.A1 x3.n1 x3.c1, .slice x3.A2 x3.n2 x3.c2] 51)
  have hO2 := Blk.new (w11.alloc (.cells #[.int .i64 s3.ver, .int .i64 s3.next, .int .i64 s3.keep, .int .i64 s3.quota, .slice s3.A1 s3.n1 s3.c1, .slice s3.A2 s3.n2 s3.c2, .slice s3.A3 s3.n3 s3.c3] 26)) 51 [.slice x3.A1 x3.n1 x3.c1, .slice x3.A2 x3.n2 x3.c2]
  rw [show (w11.alloc (.cells #[.int .i64 s3.ver, .int .i64 s3.next, .int .i64 s3.keep, .int .i64 s3.quota, .slice s3.A1 s3.n1 s3.c1, .slice s3.A2 s3.n2 s3.c2, .slice s3.A3 s3.n3 s3.c3] 26)).heap.size = w11.heap.size + 1 by simp] at hO2
  have xb : Ext w11 ((w11.alloc (.cells #[.int .i64 s3.ver, .int .i64 s3.next, .int .i64 s3.keep, .int .i64 s3.quota, .slice s3.A1 s3.n1 s3.c1, .slice s3.A2 s3.n2 s3.c2, .slice s3.A3 s3.n3 s3.c3] 26)).alloc (.cells #[.slice x3.A1 x3.n1 x3.c1, .slice x3.A2 x3.n2 x3.c2] 51)) := ((Ext.refl w11).alloc _).alloc _
  generalize (w11.alloc (.cells #[.int .i64 s3.ver, .int .i64 s3.next, .int .i64 s3.keep, .int .i64 s3.quota, .slice s3.A1 s3.n1 s3.c1, .slice s3.A2 s3.n2 s3.c2, .slice s3.A3 s3.n3 s3.c3] 26)).alloc (.cells #[.slice x3.A1 x3.n1 x3.c1, .slice x3.A2 x3.n2 x3.c2] 51) = w12 at *
  have y12 := (y10.trans x11).trans xb
  have hs12 := hsok.ext xb
  have hx12 := hxok.ext xb
  generalize w11.heap.size = g11 at *
  have HO1 := Lib.hid (fun (V : World) (h : Ext w12 V) (i : Nat) => (hO1.ext h).cell i)
  have HO2 := Lib.hid (fun (V : World) (h : Ext w12 V) (i : Nat) => (hO2.ext h).cell i)
  have HT1 := Lib.hid (HS2.out s3 _ w12 y12 hs12 hsf rfl)
  have HT2 := Lib.hid (fun (V : World) (h : Ext w12 V) => HR2.out x3 _ V (y12.trans h) (hx12.ext h) hxf rfl)
  generalize kSame s3 t = B1 at *
  generalize restEq x3.more y.more x3.top y.top = B2 at *
  have HY := Lib.hid y12
  clear HX hO1 hO2 hsok hxok hsf hxf hs12 hx12 x11 xb y10 y12 HS2 HR2
  have d0 := HC1.out _ HY.out 0
  have d1 := HC1.out _ HY.out 1
  have d2 := HC1.out _ HY.out 2
  have d3 := HC1.out _ HY.out 3
  have d4 := HC1.out _ HY.out 4
  have d5 := HC1.out _ HY.out 5
  have d6 := HC1.out _ HY.out 6
  simp only [List.getElem?_cons_zero, List.getElem?_cons_succ] at d0 d1 d2 d3 d4 d5 d6
  have f0 := HO1.out _ (Ext.refl w12) 0
  have f1 := HO1.out _ (Ext.refl w12) 1
  have f2 := HO1.out _ (Ext.refl w12) 2
  have f3 := HO1.out _ (Ext.refl w12) 3
  have f4 := HO1.out _ (Ext.refl w12) 4
  have f5 := HO1.out _ (Ext.refl w12) 5
  have f6 := HO1.out _ (Ext.refl w12) 6
  simp only [List.getElem?_cons_zero, List.getElem?_cons_succ] at f0 f1 f2 f3 f4 f5 f6
  go_wp2_with fail
  refine HT1.out.mono ?_
  rintro e w13 ⟨rfl, x13⟩
  clear HT1 d0 d1 d2 d3 d4 d5 d6 f0 f1 f2 f3 f4 f5 f6
  have y13 := HY.out.trans x13
  have d0 := HC2.out _ y13 0
  have d1 := HC2.out _ y13 1
  simp only [List.getElem?_cons_zero, List.getElem?_cons_succ] at d0 d1
  have f0 := HO2.out _ x13 0
  have f1 := HO2.out _ x13 1
  simp only [List.getElem?_cons_zero, List.getElem?_cons_succ] at f0 f1
  go_wp2_with fail
  refine (HT2.out _ x13).mono ?_
  rintro e w14 ⟨rfl, x14⟩
  have HX := Lib.hid (HXW.out.trans (y13.trans x14))
  clear HT2 d0 d1 f0 f1 x13 x14 y13 HY HXW HC1 HC2 HO1 HO2
  go_upto_region 17 with fail
  by_cases hc : code3 = 0
  · subst hc
    have hz := HZ.out rfl
    clear HZ
    rcases B1 with _ | _
    · clear hz
      go_wp2_with fail
      go_ret
      exact ⟨rfl, HX.out⟩
    · rcases B2 with _ | _
      · clear hz
        go_wp2_with fail
        go_ret
        exact ⟨rfl, HX.out⟩
      · exact absurd ⟨rfl, rfl⟩ hz
  · have z := beq_f (show ((code3 : Nat) : Int) ≠ 0 by omega)
    clear hc HZ
    go_wp2_with fail
    go_ret
    exact ⟨rfl, HX.out⟩
end Go.Proofs.Ytiildgoaiookhaa
