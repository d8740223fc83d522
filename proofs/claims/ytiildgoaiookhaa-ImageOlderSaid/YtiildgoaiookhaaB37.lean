/- Words and walks that the last text of this claim stands on: Im6. No condition. -/
import Derived.Test.YtiildgoaiookhaaB36
import Derived.Test.YtiildgoaiookhaaB28
/- The walk of the law ImageOlder. (Printed by wip/tools/imolder.py.) -/
namespace Go.Proofs.Ytiildgoaiookhaa
open Go.RowKit

theorem kSame_trans {a b c : KV} (h : kSame a b = true) (k : kSame b c = true) : kSame a c = true := by
  obtain ⟨h1, h2, h3, h4, h5, h6, h7⟩ := kSame_iff.1 h
  obtain ⟨k1, k2, k3, k4, k5, k6, k7⟩ := kSame_iff.1 k
  exact kSame_iff.2 ⟨h1.trans k1, h2.trans k2, h3.trans k3, h4.trans k4, h5.trans k5, h6.trans k6, h7.trans k7⟩
theorem kSame_symm {a b : KV} (h : kSame a b = true) : kSame b a = true := by
  obtain ⟨h1, h2, h3, h4, h5, h6, h7⟩ := kSame_iff.1 h
  exact kSame_iff.2 ⟨h1.symm, h2.symm, h3.symm, h4.symm, h5.symm, h6.symm, h7.symm⟩
set_option maxRecDepth 100000 in
set_option maxHeartbeats 6400000 in
theorem law_ImageOlder (s : KV) (x : XV) (p0 p1 : Int) (w : World) (hs : s.Ok w) (hx : x.Ok w) (hp0 : 0 ≤ p0 ∧ p0 < 256) (hp1 : 0 ≤ p1 ∧ p1 < 256) :
    Calls Try.prog 14 #[s.val, x.val, .agg #[.int .u8 p0, .int .u8 p1]] w fun e w' => e = .returned (.bool true) ∧ Ext w w' := by
  have HQ0 := Lib.hid hp0
  have HQ1 := Lib.hid hp1
  clear hp0 hp1
  have hB_s := Blk.new w 26 [.int .i64 s.ver, .int .i64 s.next, .int .i64 s.keep, .int .i64 s.quota, .slice s.A1 s.n1 s.c1, .slice s.A2 s.n2 s.c2, .slice s.A3 s.n3 s.c3]
  replace hB_s := hB_s.alloc (.cells #[.slice x.A1 x.n1 x.c1, .slice x.A2 x.n2 x.c2] 51)
  replace hB_s := hB_s.alloc (.cells #[.int .u8 p0, .int .u8 p1] 67)
  have hB_x := Blk.new (w.alloc (.cells #[.int .i64 s.ver, .int .i64 s.next, .int .i64 s.keep, .int .i64 s.quota, .slice s.A1 s.n1 s.c1, .slice s.A2 s.n2 s.c2, .slice s.A3 s.n3 s.c3] 26)) 51 [.slice x.A1 x.n1 x.c1, .slice x.A2 x.n2 x.c2]
  rw [show (w.alloc (.cells #[.int .i64 s.ver, .int .i64 s.next, .int .i64 s.keep, .int .i64 s.quota, .slice s.A1 s.n1 s.c1, .slice s.A2 s.n2 s.c2, .slice s.A3 s.n3 s.c3] 26)).heap.size = w.heap.size + 1 by simp] at hB_x
  replace hB_x := hB_x.alloc (.cells #[.int .u8 p0, .int .u8 p1] 67)
  have hB_p := Blk.new ((w.alloc (.cells #[.int .i64 s.ver, .int .i64 s.next, .int .i64 s.keep, .int .i64 s.quota, .slice s.A1 s.n1 s.c1, .slice s.A2 s.n2 s.c2, .slice s.A3 s.n3 s.c3] 26)).alloc (.cells #[.slice x.A1 x.n1 x.c1, .slice x.A2 x.n2 x.c2] 51)) 67 [.int .u8 p0, .int .u8 p1]
  rw [show ((w.alloc (.cells #[.int .i64 s.ver, .int .i64 s.next, .int .i64 s.keep, .int .i64 s.quota, .slice s.A1 s.n1 s.c1, .slice s.A2 s.n2 s.c2, .slice s.A3 s.n3 s.c3] 26)).alloc (.cells #[.slice x.A1 x.n1 x.c1, .slice x.A2 x.n2 x.c2] 51)).heap.size = w.heap.size + 1 + 1 by simp] at hB_p
  have xw : Ext w (((w.alloc (.cells #[.int .i64 s.ver, .int .i64 s.next, .int .i64 s.keep, .int .i64 s.quota, .slice s.A1 s.n1 s.c1, .slice s.A2 s.n2 s.c2, .slice s.A3 s.n3 s.c3] 26)).alloc (.cells #[.slice x.A1 x.n1 x.c1, .slice x.A2 x.n2 x.c2] 51)).alloc (.cells #[.int .u8 p0, .int .u8 p1] 67)) := ((((Ext.refl w).alloc _).alloc _).alloc _)
  have hzw : w.heap.size + 3 ≤ (((w.alloc (.cells #[.int .i64 s.ver, .int .i64 s.next, .int .i64 s.keep, .int .i64 s.quota, .slice s.A1 s.n1 s.c1, .slice s.A2 s.n2 s.c2, .slice s.A3 s.n3 s.c3] 26)).alloc (.cells #[.slice x.A1 x.n1 x.c1, .slice x.A2 x.n2 x.c2] 51)).alloc (.cells #[.int .u8 p0, .int .u8 p1] 67)).heap.size := by simp
  unfold KV.val XV.val
  go_enter Try.func14, Try.ntmps14
  go_upto_region 1 with fail
  generalize (((w.alloc (.cells #[.int .i64 s.ver, .int .i64 s.next, .int .i64 s.keep, .int .i64 s.quota, .slice s.A1 s.n1 s.c1, .slice s.A2 s.n2 s.c2, .slice s.A3 s.n3 s.c3] 26)).alloc (.cells #[.slice x.A1 x.n1 x.c1, .slice x.A2 x.n2 x.c2] 51)).alloc (.cells #[.int .u8 p0, .int .u8 p1] 67)) = W0 at *
  go_wp2_with fail
  refine (law10_shown _).mono ?_
  rintro e w1 ⟨rfl, x1⟩
  replace hB_s := hB_s.ext x1
  replace hB_x := hB_x.ext x1
  replace hB_p := hB_p.ext x1
  replace xw := xw.trans x1
  have hz1 : w.heap.size + 3 ≤ w1.heap.size := Nat.le_trans hzw x1.size
  have hzW : w1.heap.size ≤ w1.heap.size := Nat.le_refl _
  clear x1 hzw
  have d0 := hB_s.cell 0
  have d1 := hB_s.cell 1
  have d2 := hB_s.cell 2
  have d3 := hB_s.cell 3
  have d4 := hB_s.cell 4
  have d5 := hB_s.cell 5
  have d6 := hB_s.cell 6
  simp only [List.getElem?_cons_zero, List.getElem?_cons_succ] at d0 d1 d2 d3 d4 d5 d6
  have HL := Lib.hid (law10_less s w1 (hs.ext xw))
  unfold KV.val at HL
  go_wp2_with fail
  refine HL.out.mono ?_
  clear HL
  rintro e v1 ⟨A1_, c1_, rfl, hown, y1⟩
  clear d0 d1 d2 d3 d4 d5 d6
  replace hown := own_base hown hzW
  replace hB_s := hB_s.ext y1
  replace hB_x := hB_x.ext y1
  replace hB_p := hB_p.ext y1
  replace xw := xw.trans y1
  replace hzW := Nat.le_trans hzW y1.size
  have d0 := hB_s.cell 0
  have d1 := hB_s.cell 1
  have d2 := hB_s.cell 2
  have d3 := hB_s.cell 3
  have d4 := hB_s.cell 4
  have d5 := hB_s.cell 5
  have d6 := hB_s.cell 6
  simp only [List.getElem?_cons_zero, List.getElem?_cons_succ] at d0 d1 d2 d3 d4 d5 d6
  have f0 := hB_s.frozen 0
  have f1 := hB_s.frozen 1
  have f2 := hB_s.frozen 2
  have f3 := hB_s.frozen 3
  have f4 := hB_s.frozen 4
  have f5 := hB_s.frozen 5
  have f6 := hB_s.frozen 6
  have hL_s := LK.start (s := s) hB_s hown (show w.heap.size < w1.heap.size by omega)
  replace hB_x := hB_x.far7 (show w.heap.size + 1 ≠ w.heap.size by omega) (.int .i64 (lessK s A1_ c1_).ver) (.int .i64 (lessK s A1_ c1_).next) (.int .i64 (lessK s A1_ c1_).keep) (.int .i64 (lessK s A1_ c1_).quota) (.slice (lessK s A1_ c1_).A1 (lessK s A1_ c1_).n1 (lessK s A1_ c1_).c1) (.slice (lessK s A1_ c1_).A2 (lessK s A1_ c1_).n2 (lessK s A1_ c1_).c2) (.slice (lessK s A1_ c1_).A3 (lessK s A1_ c1_).n3 (lessK s A1_ c1_).c3)
  replace hB_p := hB_p.far7 (show w.heap.size + 1 + 1 ≠ w.heap.size by omega) (.int .i64 (lessK s A1_ c1_).ver) (.int .i64 (lessK s A1_ c1_).next) (.int .i64 (lessK s A1_ c1_).keep) (.int .i64 (lessK s A1_ c1_).quota) (.slice (lessK s A1_ c1_).A1 (lessK s A1_ c1_).n1 (lessK s A1_ c1_).c1) (.slice (lessK s A1_ c1_).A2 (lessK s A1_ c1_).n2 (lessK s A1_ c1_).c2) (.slice (lessK s A1_ c1_).A3 (lessK s A1_ c1_).n3 (lessK s A1_ c1_).c3)
  replace xw := xw.st7 (g := w.heap.size) (by omega) (.int .i64 (lessK s A1_ c1_).ver) (.int .i64 (lessK s A1_ c1_).next) (.int .i64 (lessK s A1_ c1_).keep) (.int .i64 (lessK s A1_ c1_).quota) (.slice (lessK s A1_ c1_).A1 (lessK s A1_ c1_).n1 (lessK s A1_ c1_).c1) (.slice (lessK s A1_ c1_).A2 (lessK s A1_ c1_).n2 (lessK s A1_ c1_).c2) (.slice (lessK s A1_ c1_).A3 (lessK s A1_ c1_).n3 (lessK s A1_ c1_).c3)
  replace hzW : w1.heap.size ≤ (put7 v1 (w.heap.size) (.int .i64 (lessK s A1_ c1_).ver) (.int .i64 (lessK s A1_ c1_).next) (.int .i64 (lessK s A1_ c1_).keep) (.int .i64 (lessK s A1_ c1_).quota) (.slice (lessK s A1_ c1_).A1 (lessK s A1_ c1_).n1 (lessK s A1_ c1_).c1) (.slice (lessK s A1_ c1_).A2 (lessK s A1_ c1_).n2 (lessK s A1_ c1_).c2) (.slice (lessK s A1_ c1_).A3 (lessK s A1_ c1_).n3 (lessK s A1_ c1_).c3)).heap.size := by rw [put7_size]; exact hzW
  generalize lessK s A1_ c1_ = t at *
  clear hown y1 hB_s
  go_upto_region 3 with fail
  rw [st7_def]
  clear d0 d1 d2 d3 d4 d5 d6 f0 f1 f2 f3 f4 f5 f6
  generalize put7 v1 (w.heap.size) (.int .i64 t.ver) (.int .i64 t.next) (.int .i64 t.keep) (.int .i64 t.quota) (.slice t.A1 t.n1 t.c1) (.slice t.A2 t.n2 t.c2) (.slice t.A3 t.n3 t.c3) = W1 at *
  have d0 := hB_x.cell 0
  have d1 := hB_x.cell 1
  simp only [List.getElem?_cons_zero, List.getElem?_cons_succ] at d0 d1
  have HL := Lib.hid (law10_own x W1 (hx.ext xw))
  unfold XV.val at HL
  go_wp2_with fail
  refine HL.out.mono ?_
  clear HL
  rintro e v2 ⟨y, rfl, hown, e1_x, e2_x, hfw_x, y2⟩
  clear d0 d1
  replace hown := (hown.to hzW).rebase e1_x e2_x hx
  replace hL_s := hL_s.ext y2
  replace hB_x := hB_x.ext y2
  replace hB_p := hB_p.ext y2
  replace xw := xw.trans y2
  replace hzW := Nat.le_trans hzW y2.size
  have d0 := hB_x.cell 0
  have d1 := hB_x.cell 1
  simp only [List.getElem?_cons_zero, List.getElem?_cons_succ] at d0 d1
  have f0 := hB_x.frozen 0
  have f1 := hB_x.frozen 1
  have hX_x := LX.start (x := x) hB_x hown hfw_x (show w.heap.size + 1 < w1.heap.size by omega)
  replace hL_s := hL_s.far2 (show w.heap.size ≠ w.heap.size + 1 by omega) (show w.heap.size + 1 < w1.heap.size by omega) (.slice y.A1 y.n1 y.c1) (.slice y.A2 y.n2 y.c2)
  replace hB_p := hB_p.far2 (show w.heap.size + 1 + 1 ≠ w.heap.size + 1 by omega) (.slice y.A1 y.n1 y.c1) (.slice y.A2 y.n2 y.c2)
  replace xw := xw.st2 (g := w.heap.size + 1) (by omega) (.slice y.A1 y.n1 y.c1) (.slice y.A2 y.n2 y.c2)
  replace hzW : w1.heap.size ≤ (put2 v2 (w.heap.size + 1) (.slice y.A1 y.n1 y.c1) (.slice y.A2 y.n2 y.c2)).heap.size := by rw [put2_size]; exact hzW
  clear hown y2 hB_x hfw_x
  go_upto_region 4 with fail
  rw [st2_def]
  clear d0 d1 f0 f1
  generalize put2 v2 (w.heap.size + 1) (.slice y.A1 y.n1 y.c1) (.slice y.A2 y.n2 y.c2) = W2 at *
  have d0 := hB_p.cell 0
  have d1 := hB_p.cell 1
  simp only [List.getElem?_cons_zero, List.getElem?_cons_succ] at d0 d1
  have hq0 := HQ0.out.1
  have hq1 := HQ0.out.2
  have hq2 := HQ1.out.1
  have hq3 := HQ1.out.2
  go_upto_region 6 with fail
  have hu1 : 1 ≤ 1 + p0 % 3 := by omega
  have hu3 : 1 + p0 % 3 ≤ 3 := by omega
  have hv1 : 1 ≤ 1 + p1 % 3 := by omega
  have hv3 : 1 + p1 % 3 ≤ 3 := by omega
  generalize 1 + p0 % 3 = u at *
  generalize 1 + p1 % 3 = v at *
  clear hq0 hq1 hq2 hq3 HQ0 HQ1 d0 d1 hzW hz1
  have hok := hL_s.ok hs xw
  have hyk := hX_x.ok xw
  have hfew := hL_s.few
  have hfy := hX_x.few
  obtain ⟨q1, q2, q3⟩ := hL_s.n20
  have q4 := hL_s.ch
  have HP := Lib.hid (image_Put t y u W2 hok hyk hfew hfy)
  have HVW := Lib.hid (fun (V : World) (h : Ext W2 V) => ref09_View t v V (hok.ext h) hfew (by omega) (by omega) (by omega) (fun f hf => by have := q4 f hf; omega) hv1 hv3)
  have HS2 := Lib.hid (fun (t2 : KV) (V : World) (h : Ext W2 V) (hk : t2.Ok V) (f : t2.Few) (hb : kSame t2 t = true) => ref07_Same t2 t true hb V hk (hok.ext h) f hfew)
  have HR2 := Lib.hid (fun (y2 : XV) (V : World) (h : Ext W2 V) (hk : y2.Ok V) (f : y2.Few) (hb : restEq y2.more y.more y2.top y.top = true) => ref10_SameRest y2 y true hb V hk (hyk.ext h) f hfy)
  have HIS : Hid (∀ b, kput u t y.more y.top = (b, 0) → IsKat u b t y.more y.top) := Lib.hid (fun b h => kput_is h hyk.kt hyk.km)
  unfold PutPost KV.val XV.val at HP
  unfold ViewPost KV.val at HVW
  unfold KV.val at HS2
  unfold XV.val at HR2
  generalize kput u t y.more y.top = PA at *
  obtain ⟨b, ec⟩ := PA
  dsimp only at HP
  have HC1 := Lib.hid (fun (V : World) (h : Ext W2 V) (i : Nat) => (hL_s.blk.ext h).cell i)
  have HC2 := Lib.hid (fun (V : World) (h : Ext W2 V) (i : Nat) => (hX_x.blk.ext h).cell i)
  have HXW := Lib.hid xw
  clear hok hyk hfew hfy hL_s hX_x hB_p xw q1 q2 q3 q4
  have d0 := HC1.out _ (Ext.refl W2) 0
  have d1 := HC1.out _ (Ext.refl W2) 1
  have d2 := HC1.out _ (Ext.refl W2) 2
  have d3 := HC1.out _ (Ext.refl W2) 3
  have d4 := HC1.out _ (Ext.refl W2) 4
  have d5 := HC1.out _ (Ext.refl W2) 5
  have d6 := HC1.out _ (Ext.refl W2) 6
  simp only [List.getElem?_cons_zero, List.getElem?_cons_succ] at d0 d1 d2 d3 d4 d5 d6
  have f0 := HC2.out _ (Ext.refl W2) 0
  have f1 := HC2.out _ (Ext.refl W2) 1
  simp only [List.getElem?_cons_zero, List.getElem?_cons_succ] at f0 f1
  go_wp2_with fail
  refine HP.out.mono ?_
  rintro e w3 ⟨v3, rfl, ho3, x3⟩
  obtain ⟨A3, c3, rfl, hc3⟩ := own_form ho3
  have hcm3 := (own_bounds ho3).2
  have hb3 : Bs w3 A3 b.length b := Bs.of_own ho3
  clear HP ho3 d0 d1 d2 d3 d4 d5 d6 f0 f1
  have HX := Lib.hid (HXW.out.trans x3)
  by_cases he : ec = 0
  case neg =>
    have z := bne_t (show ((ec : Nat) : Int) ≠ 0 by omega)
    clear he HIS HS2 HR2 HC1 HC2 HXW hb3 HVW x3
    go_wp2_with fail
    go_ret
    exact ⟨rfl, HX.out⟩
  subst he
  by_cases huv : v ≤ u
  case neg =>
    have huv' : u < v := by omega
    clear HIS HS2 HR2 HC1 HC2 HXW hb3 HVW x3 huv
    go_wp2_with fail
    go_ret
    exact ⟨rfl, HX.out⟩
  have j0 := dec_f (show ¬ u < v by omega)
  have HIK := Lib.hid (HIS.out b rfl)
  have HIV := Lib.hid (HIK.out.view hv1 huv)
  have hm3 : kmay t 3 = 0 := kmay_grow HIK.out.may hu3 (by omega)
  rw [hm3] at HVW
  simp only [if_true, true_implies] at HVW
  have hbl : b.length ≤ 16384 := by have := (fmay_ok HIK.out.row).2; rw [← rput_len, HIK.out.put] at this; exact this
  clear HIS HX hm3
  generalize viewK v t = VT at *
  generalize viewM v u t y.more = VM at *
  generalize laterK v u t ++ y.top = VY at *
  have hemp := own_empty w3 5 1
  have HB3 := Lib.hid hb3
  go_wp2_with (at_builtin; refine wpList_app bytesT (by omega) _ rfl rfl rfl hemp rfl (Rd.alloc hb3 _) (bvs_one _) (by unfold maxLen; omega) (by omega) (by simp) ?_; intro v6 w6 hown6 hg6 hat6; simp only [Nat.zero_add, List.nil_append] at hown6; obtain ⟨A6, c6, rfl, hc6⟩ := own_form hown6)
  have x6 := Below.app ((Ext.refl w3).alloc _) hg6 (by simp) hemp (Nat.le_refl _)
  have HTK := Lib.hid (image_Take v A6 b.length c6 b w6 (Bs.of_own hown6) (by omega) hc6)
  unfold KTakePost KV.val XV.val at HTK
  have y6 := Ext.trans x3 x6
  have HB6 := Lib.hid (hb3.ext x6)
  clear hown6 hg6 hat6 hemp x6 x3 hb3 HB3
  refine HTK.out.mono ?_
  rintro e w7 ⟨s2, x2, code, rfl, hsok, hxok, hsf, hxf, hkt, x7⟩
  obtain ⟨rfl, hk2, _⟩ := hkt.yes HIV.out
  have HQ2 := Lib.hid (HIV.out.two hk2).1
  have HP2 := Lib.hid (hk2.back rfl rfl hk2.len)
  clear hk2 HTK hkt HIV
  go_upto_region 10 with fail
  have hO1 := (Blk.new w7 26 [.int .i64 s2.ver, .int .i64 s2.next, .int .i64 s2.keep, .int .i64 s2.quota, .slice s2.A1 s2.n1 s2.c1, .slice s2.A2 s2.n2 s2.c2, .slice s2.A3 s2.n3 s2.c3]).alloc (.cells #[.slice x2.A1 x2.n1 x2.c1, .slice x2.A2 x2.n2 x2.c2] 51)
  have hO2 := Blk.new (w7.alloc (.cells #[.int .i64 s2.ver, .int .i64 s2.next, .int .i64 s2.keep, .int .i64 s2.quota, .slice s2.A1 s2.n1 s2.c1, .slice s2.A2 s2.n2 s2.c2, .slice s2.A3 s2.n3 s2.c3] 26)) 51 [.slice x2.A1 x2.n1 x2.c1, .slice x2.A2 x2.n2 x2.c2]
  rw [show (w7.alloc (.cells #[.int .i64 s2.ver, .int .i64 s2.next, .int .i64 s2.keep, .int .i64 s2.quota, .slice s2.A1 s2.n1 s2.c1, .slice s2.A2 s2.n2 s2.c2, .slice s2.A3 s2.n3 s2.c3] 26)).heap.size = w7.heap.size + 1 by simp] at hO2
  have xb : Ext w7 ((w7.alloc (.cells #[.int .i64 s2.ver, .int .i64 s2.next, .int .i64 s2.keep, .int .i64 s2.quota, .slice s2.A1 s2.n1 s2.c1, .slice s2.A2 s2.n2 s2.c2, .slice s2.A3 s2.n3 s2.c3] 26)).alloc (.cells #[.slice x2.A1 x2.n1 x2.c1, .slice x2.A2 x2.n2 x2.c2] 51)) := ((Ext.refl w7).alloc _).alloc _
  generalize (w7.alloc (.cells #[.int .i64 s2.ver, .int .i64 s2.next, .int .i64 s2.keep, .int .i64 s2.quota, .slice s2.A1 s2.n1 s2.c1, .slice s2.A2 s2.n2 s2.c2, .slice s2.A3 s2.n3 s2.c3] 26)).alloc (.cells #[.slice x2.A1 x2.n1 x2.c1, .slice x2.A2 x2.n2 x2.c2] 51) = w8 at *
  have HY8 := Lib.hid ((y6.trans x7).trans xb)
  have hs8 := hsok.ext xb
  have hx8 := hxok.ext xb
  have HB8 := Lib.hid ((HB6.out.ext x7).ext xb)
  generalize w7.heap.size = g7 at *
  have HO1 := Lib.hid (fun (V : World) (h : Ext w8 V) (i : Nat) => (hO1.ext h).cell i)
  have HO2 := Lib.hid (fun (V : World) (h : Ext w8 V) (i : Nat) => (hO2.ext h).cell i)
  have HPP := Lib.hid (fun (V : World) (h : Ext w8 V) => image_Put s2 x2 v V (hs8.ext h) (hx8.ext h) hsf hxf)
  have HSS := Lib.hid (fun (t2 : KV) (V : World) (h : Ext w8 V) (hk : t2.Ok V) (f : t2.Few) (hb : kSame s2 t2 = true) => ref07_Same s2 t2 true hb V (hs8.ext h) hk hsf f)
  unfold PutPost KV.val XV.val at HPP
  rw [HP2.out] at HPP
  dsimp only at HPP
  unfold KV.val at HSS
  clear hO1 hO2 hsok hxok hsf hxf hs8 hx8 x7 xb y6 HB6 HP2
  have d0 := HC1.out _ HY8.out 0
  have d1 := HC1.out _ HY8.out 1
  have d2 := HC1.out _ HY8.out 2
  have d3 := HC1.out _ HY8.out 3
  have d4 := HC1.out _ HY8.out 4
  have d5 := HC1.out _ HY8.out 5
  have d6 := HC1.out _ HY8.out 6
  simp only [List.getElem?_cons_zero, List.getElem?_cons_succ] at d0 d1 d2 d3 d4 d5 d6
  go_wp2_with fail
  refine (HVW.out _ HY8.out).mono ?_
  rintro e w9 ⟨t2, rfl, hok2, hfew2, hsame, x9⟩
  have HQ3 := Lib.hid (kSame_trans (kSame_symm HQ2.out) (kSame_symm hsame))
  clear HVW hsame HQ2 d0 d1 d2 d3 d4 d5 d6
  go_upto_region 11 with fail
  have hO1 := Blk.new w9 26 [.int .i64 t2.ver, .int .i64 t2.next, .int .i64 t2.keep, .int .i64 t2.quota, .slice t2.A1 t2.n1 t2.c1, .slice t2.A2 t2.n2 t2.c2, .slice t2.A3 t2.n3 t2.c3]
  have xb : Ext w9 (w9.alloc (.cells #[.int .i64 t2.ver, .int .i64 t2.next, .int .i64 t2.keep, .int .i64 t2.quota, .slice t2.A1 t2.n1 t2.c1, .slice t2.A2 t2.n2 t2.c2, .slice t2.A3 t2.n3 t2.c3] 26)) := (Ext.refl w9).alloc _
  generalize w9.alloc (.cells #[.int .i64 t2.ver, .int .i64 t2.next, .int .i64 t2.keep, .int .i64 t2.quota, .slice t2.A1 t2.n1 t2.c1, .slice t2.A2 t2.n2 t2.c2, .slice t2.A3 t2.n3 t2.c3] 26) = w10 at *
  have xx10 := x9.trans xb
  have HT := Lib.hid (HSS.out t2 w10 xx10 (hok2.ext xb) hfew2 HQ3.out)
  have d0 := hO1.cell 0
  have d1 := hO1.cell 1
  have d2 := hO1.cell 2
  have d3 := hO1.cell 3
  have d4 := hO1.cell 4
  have d5 := hO1.cell 5
  have d6 := hO1.cell 6
  simp only [List.getElem?_cons_zero, List.getElem?_cons_succ] at d0 d1 d2 d3 d4 d5 d6
  clear HSS HQ3 hok2 hfew2 x9 xb hO1
  have f0 := HO1.out _ xx10 0
  have f1 := HO1.out _ xx10 1
  have f2 := HO1.out _ xx10 2
  have f3 := HO1.out _ xx10 3
  have f4 := HO1.out _ xx10 4
  have f5 := HO1.out _ xx10 5
  have f6 := HO1.out _ xx10 6
  simp only [List.getElem?_cons_zero, List.getElem?_cons_succ] at f0 f1 f2 f3 f4 f5 f6
  go_wp2_with fail
  refine HT.out.mono ?_
  rintro e w11 ⟨rfl, x11⟩
  have xx11 := xx10.trans x11
  clear HT d0 d1 d2 d3 d4 d5 d6 f0 f1 f2 f3 f4 f5 f6 xx10 x11
  have d0 := HO1.out _ xx11 0
  have d1 := HO1.out _ xx11 1
  have d2 := HO1.out _ xx11 2
  have d3 := HO1.out _ xx11 3
  have d4 := HO1.out _ xx11 4
  have d5 := HO1.out _ xx11 5
  have d6 := HO1.out _ xx11 6
  simp only [List.getElem?_cons_zero, List.getElem?_cons_succ] at d0 d1 d2 d3 d4 d5 d6
  have f0 := HO2.out _ xx11 0
  have f1 := HO2.out _ xx11 1
  simp only [List.getElem?_cons_zero, List.getElem?_cons_succ] at f0 f1
  go_wp2_with fail
  refine (HPP.out _ xx11).mono ?_
  rintro e w12 ⟨v12, rfl, ho12, x12⟩
  obtain ⟨A12, c12, rfl, hc12⟩ := own_form ho12
  have hb12 : Bs w12 A12 b.length b := Bs.of_own ho12
  have xx12 := xx11.trans x12
  have HTK := Lib.hid (image_Take u A12 b.length c12 b w12 hb12 (by omega) hc12)
  unfold KTakePost KV.val XV.val at HTK
  clear HPP HO1 HO2 ho12 x12 xx11 d0 d1 d2 d3 d4 d5 d6 f0 f1
  have HB12 := Lib.hid hb12
  clear hb12
  go_wp2_with fail
  refine HTK.out.mono ?_
  rintro e w13 ⟨s3, x3, code3, rfl, hsok, hxok, hsf, hxf, hkt, x13⟩
  obtain ⟨rfl, hk3, _⟩ := hkt.yes HIK.out
  obtain ⟨q1, q2⟩ := hk3.two HIK.out
  clear HTK hkt hk3 HIK
  go_upto_region 14 with fail
  have hO1 := (Blk.new w13 26 [.int .i64 s3.ver, .int .i64 s3.next, .int .i64 s3.keep, .int .i64 s3.quota, .slice s3.A1 s3.n1 s3.c1, .slice s3.A2 s3.n2 s3.c2, .slice s3.A3 s3.n3 s3.c3]).alloc (.cells #[.slice x3.A1 x3.n1 x3.c1, .slice x3.A2 x3.n2 x3.c2] 51)
  have hO2 := Blk.new (w13.alloc (.cells #[.int .i64 s3.ver, .int .i64 s3.next, .int .i64 s3.keep, .int .i64 s3.quota, .slice s3.A1 s3.n1 s3.c1, .slice s3.A2 s3.n2 s3.c2, .slice s3.A3 s3.n3 s3.c3] 26)) 51 [.slice x3.A1 x3.n1 x3.c1, .slice x3.A2 x3.n2 x3.c2]
  rw [show (w13.alloc (.cells #[.int .i64 s3.ver, .int .i64 s3.next, .int .i64 s3.keep, .int .i64 s3.quota, .slice s3.A1 s3.n1 s3.c1, .slice s3.A2 s3.n2 s3.c2, .slice s3.A3 s3.n3 s3.c3] 26)).heap.size = w13.heap.size + 1 by simp] at hO2
  have xb : Ext w13 ((w13.alloc (.cells #[.int .i64 s3.ver, .int .i64 s3.next, .int .i64 s3.keep, .int .i64 s3.quota, .slice s3.A1 s3.n1 s3.c1, .slice s3.A2 s3.n2 s3.c2, .slice s3.A3 s3.n3 s3.c3] 26)).alloc (.cells #[.slice x3.A1 x3.n1 x3.c1, .slice x3.A2 x3.n2 x3.c2] 51)) := ((Ext.refl w13).alloc _).alloc _
  generalize (w13.alloc (.cells #[.int .i64 s3.ver, .int .i64 s3.next, .int .i64 s3.keep, .int .i64 s3.quota, .slice s3.A1 s3.n1 s3.c1, .slice s3.A2 s3.n2 s3.c2, .slice s3.A3 s3.n3 s3.c3] 26)).alloc (.cells #[.slice x3.A1 x3.n1 x3.c1, .slice x3.A2 x3.n2 x3.c2] 51) = w14 at *
  have xx14 := (xx12.trans x13).trans xb
  have y14 := HY8.out.trans xx14
  have hs14 := hsok.ext xb
  have hx14 := hxok.ext xb
  have HB14 := Lib.hid ((HB12.out.ext x13).ext xb)
  have HC14 := Lib.hid (HB8.out.ext xx14)
  generalize w13.heap.size = g13 at *
  have HO1 := Lib.hid (fun (V : World) (h : Ext w14 V) (i : Nat) => (hO1.ext h).cell i)
  have HO2 := Lib.hid (fun (V : World) (h : Ext w14 V) (i : Nat) => (hO2.ext h).cell i)
  have HT1 := Lib.hid (HS2.out s3 w14 y14 hs14 hsf q1)
  have HT2 := Lib.hid (fun (V : World) (h : Ext w14 V) => HR2.out x3 V (y14.trans h) (hx14.ext h) hxf q2)
  have HY := Lib.hid y14
  clear hO1 hO2 hsok hxok hsf hxf hs14 hx14 x13 xb xx12 xx14 y14 HS2 HR2 HB8 HB12 HY8 q1 q2
  have d0 := HC1.out _ HY.out 0
  have d1 := HC1.out _ HY.out 1
  have d2 := HC1.out _ HY.out 2
  have d3 := HC1.out _ HY.out 3
  have d4 := HC1.out _ HY.out 4
  have d5 := HC1.out _ HY.out 5
  have d6 := HC1.out _ HY.out 6
  simp only [List.getElem?_cons_zero, List.getElem?_cons_succ] at d0 d1 d2 d3 d4 d5 d6
  have f0 := HO1.out _ (Ext.refl w14) 0
  have f1 := HO1.out _ (Ext.refl w14) 1
  have f2 := HO1.out _ (Ext.refl w14) 2
  have f3 := HO1.out _ (Ext.refl w14) 3
  have f4 := HO1.out _ (Ext.refl w14) 4
  have f5 := HO1.out _ (Ext.refl w14) 5
  have f6 := HO1.out _ (Ext.refl w14) 6
  simp only [List.getElem?_cons_zero, List.getElem?_cons_succ] at f0 f1 f2 f3 f4 f5 f6
  go_wp2_with fail
  refine HT1.out.mono ?_
  rintro e w15 ⟨rfl, x15⟩
  clear HT1 d0 d1 d2 d3 d4 d5 d6 f0 f1 f2 f3 f4 f5 f6
  have y15 := HY.out.trans x15
  have d0 := HC2.out _ y15 0
  have d1 := HC2.out _ y15 1
  simp only [List.getElem?_cons_zero, List.getElem?_cons_succ] at d0 d1
  have f0 := HO2.out _ x15 0
  have f1 := HO2.out _ x15 1
  simp only [List.getElem?_cons_zero, List.getElem?_cons_succ] at f0 f1
  go_wp2_with fail
  refine (HT2.out _ x15).mono ?_
  rintro e w16 ⟨rfl, x16⟩
  have HX := Lib.hid (HXW.out.trans (y15.trans x16))
  have hs1 := str_at ((HC14.out.ext x15).ext x16) c3
  have hs2 := str_at ((HB14.out.ext x15).ext x16) c12
  clear HT2 d0 d1 f0 f1 x15 x16 y15 HY HXW HC1 HC2 HO1 HO2 HB14 HC14
  go_upto_region 16 with fail
  go_wp2_with fail
  go_ret
  exact ⟨rfl, HX.out⟩
end Go.Proofs.Ytiildgoaiookhaa
