/- Words and walks that the last text of this claim stands on: ImR. No condition. -/
import Derived.Test.YtiildgoaiookhaaB24
import Derived.Test.YtiildgoaiookhaaB25
/- The walk of the law ImageSame. (Printed by wip/tools/imsame.py.) -/
namespace Go.Proofs.Ytiildgoaiookhaa
open Go.RowKit

theorem same_law (v : Int) (t t' : KV) (h1 : (kput v t [] []).2 = 0) (h2 : (kput v t' [] []).2 = 0) : decide ((kput v t [] []).1 = (kput v t' [] []).1) = kSame t t' := by
  have k1 := kput_is (v := v) (s := t) (more := []) (top := []) (b := (kput v t [] []).1) (Prod.ext rfl h1) (by simp) (by simp)
  have k2 := kput_is (v := v) (s := t') (more := []) (top := []) (b := (kput v t' [] []).1) (Prod.ext rfl h2) (by simp) (by simp)
  rw [Bool.eq_iff_iff, decide_eq_true_iff]
  constructor
  · intro e
    rw [e] at k1
    exact (k1.two k2).1
  · intro hs
    have := kput_rk (v := v) (rk_of (m := []) (n := []) hs (fun _ => rfl)) (show ([] : List FV).map FV.s = [].map FV.s from rfl) (Nat.zero_le _) (Nat.zero_le _)
    rw [this]
set_option maxRecDepth 100000 in
set_option maxHeartbeats 3200000 in
theorem law_ImageSame (s s' : KV) (n : Int) (w : World) (hs : s.Ok w) (hs' : s'.Ok w) (hn : 0 ≤ n ∧ n < 256) :
    Calls Try.prog 10 #[s.val, s'.val, .int .u8 n] w fun e w' => e = .returned (.bool true) ∧ Ext w w' := by
  have HN := Lib.hid hn
  clear hn
  have hB_s := Blk.new w 26 [.int .i64 s.ver, .int .i64 s.next, .int .i64 s.keep, .int .i64 s.quota, .slice s.A1 s.n1 s.c1, .slice s.A2 s.n2 s.c2, .slice s.A3 s.n3 s.c3]
  replace hB_s := hB_s.alloc (.cells #[.int .i64 s'.ver, .int .i64 s'.next, .int .i64 s'.keep, .int .i64 s'.quota, .slice s'.A1 s'.n1 s'.c1, .slice s'.A2 s'.n2 s'.c2, .slice s'.A3 s'.n3 s'.c3] 26)
  have hB_s' := Blk.new (w.alloc (.cells #[.int .i64 s.ver, .int .i64 s.next, .int .i64 s.keep, .int .i64 s.quota, .slice s.A1 s.n1 s.c1, .slice s.A2 s.n2 s.c2, .slice s.A3 s.n3 s.c3] 26)) 26 [.int .i64 s'.ver, .int .i64 s'.next, .int .i64 s'.keep, .int .i64 s'.quota, .slice s'.A1 s'.n1 s'.c1, .slice s'.A2 s'.n2 s'.c2, .slice s'.A3 s'.n3 s'.c3]
  rw [show (w.alloc (.cells #[.int .i64 s.ver, .int .i64 s.next, .int .i64 s.keep, .int .i64 s.quota, .slice s.A1 s.n1 s.c1, .slice s.A2 s.n2 s.c2, .slice s.A3 s.n3 s.c3] 26)).heap.size = w.heap.size + 1 by simp] at hB_s'
  have xw : Ext w ((w.alloc (.cells #[.int .i64 s.ver, .int .i64 s.next, .int .i64 s.keep, .int .i64 s.quota, .slice s.A1 s.n1 s.c1, .slice s.A2 s.n2 s.c2, .slice s.A3 s.n3 s.c3] 26)).alloc (.cells #[.int .i64 s'.ver, .int .i64 s'.next, .int .i64 s'.keep, .int .i64 s'.quota, .slice s'.A1 s'.n1 s'.c1, .slice s'.A2 s'.n2 s'.c2, .slice s'.A3 s'.n3 s'.c3] 26)) := (((Ext.refl w).alloc _).alloc _)
  have hzw : w.heap.size + 2 ≤ ((w.alloc (.cells #[.int .i64 s.ver, .int .i64 s.next, .int .i64 s.keep, .int .i64 s.quota, .slice s.A1 s.n1 s.c1, .slice s.A2 s.n2 s.c2, .slice s.A3 s.n3 s.c3] 26)).alloc (.cells #[.int .i64 s'.ver, .int .i64 s'.next, .int .i64 s'.keep, .int .i64 s'.quota, .slice s'.A1 s'.n1 s'.c1, .slice s'.A2 s'.n2 s'.c2, .slice s'.A3 s'.n3 s'.c3] 26)).heap.size := by simp
  unfold KV.val
  go_enter Try.func10, Try.ntmps10
  go_upto_region 1 with fail
  generalize ((w.alloc (.cells #[.int .i64 s.ver, .int .i64 s.next, .int .i64 s.keep, .int .i64 s.quota, .slice s.A1 s.n1 s.c1, .slice s.A2 s.n2 s.c2, .slice s.A3 s.n3 s.c3] 26)).alloc (.cells #[.int .i64 s'.ver, .int .i64 s'.next, .int .i64 s'.keep, .int .i64 s'.quota, .slice s'.A1 s'.n1 s'.c1, .slice s'.A2 s'.n2 s'.c2, .slice s'.A3 s'.n3 s'.c3] 26)) = W0 at *
  go_wp2_with fail
  refine (law10_shown _).mono ?_
  rintro e w1 ⟨rfl, x1⟩
  replace hB_s := hB_s.ext x1
  replace hB_s' := hB_s'.ext x1
  replace xw := xw.trans x1
  have hz1 : w.heap.size + 2 ≤ w1.heap.size := Nat.le_trans hzw x1.size
  have hzW : w1.heap.size ≤ w1.heap.size := Nat.le_refl _
  clear x1 hzw
  have d0 := hB_s.cell 0
  have d1 := hB_s.cell 1
  have d2 := hB_s.cell 2
  have d3 := hB_s.cell 3
  have d4 := hB_s.cell 4
  have d5 := hB_s.cell 5
  have d6 := hB_s.cell 6
  simp only [List.getElem?_cons_zero, List.getElem?_cons_succ] at d0 d1 d2 d3 d4 d5 d6
  have HL := Lib.hid (law10_less s w1 (hs.ext xw))
  unfold KV.val at HL
  go_wp2_with fail
  refine HL.out.mono ?_
  clear HL
  rintro e v1 ⟨A1_, c1_, rfl, hown, y1⟩
  clear d0 d1 d2 d3 d4 d5 d6
  replace hown := own_base hown hzW
  replace hB_s := hB_s.ext y1
  replace hB_s' := hB_s'.ext y1
  replace xw := xw.trans y1
  replace hzW := Nat.le_trans hzW y1.size
  have d0 := hB_s.cell 0
  have d1 := hB_s.cell 1
  have d2 := hB_s.cell 2
  have d3 := hB_s.cell 3
  have d4 := hB_s.cell 4
  have d5 := hB_s.cell 5
  have d6 := hB_s.cell 6
  simp only [List.getElem?_cons_zero, List.getElem?_cons_succ] at d0 d1 d2 d3 d4 d5 d6
  have f0 := hB_s.frozen 0
  have f1 := hB_s.frozen 1
  have f2 := hB_s.frozen 2
  have f3 := hB_s.frozen 3
  have f4 := hB_s.frozen 4
  have f5 := hB_s.frozen 5
  have f6 := hB_s.frozen 6
  have hL_s := LK.start (s := s) hB_s hown (show w.heap.size < w1.heap.size by omega)
  replace hB_s' := hB_s'.far7 (show w.heap.size + 1 ≠ w.heap.size by omega) (.int .i64 (lessK s A1_ c1_).ver) (.int .i64 (lessK s A1_ c1_).next) (.int .i64 (lessK s A1_ c1_).keep) (.int .i64 (lessK s A1_ c1_).quota) (.slice (lessK s A1_ c1_).A1 (lessK s A1_ c1_).n1 (lessK s A1_ c1_).c1) (.slice (lessK s A1_ c1_).A2 (lessK s A1_ c1_).n2 (lessK s A1_ c1_).c2) (.slice (lessK s A1_ c1_).A3 (lessK s A1_ c1_).n3 (lessK s A1_ c1_).c3)
  replace xw := xw.st7 (g := w.heap.size) (by omega) (.int .i64 (lessK s A1_ c1_).ver) (.int .i64 (lessK s A1_ c1_).next) (.int .i64 (lessK s A1_ c1_).keep) (.int .i64 (lessK s A1_ c1_).quota) (.slice (lessK s A1_ c1_).A1 (lessK s A1_ c1_).n1 (lessK s A1_ c1_).c1) (.slice (lessK s A1_ c1_).A2 (lessK s A1_ c1_).n2 (lessK s A1_ c1_).c2) (.slice (lessK s A1_ c1_).A3 (lessK s A1_ c1_).n3 (lessK s A1_ c1_).c3)
  replace hzW : w1.heap.size ≤ (put7 v1 (w.heap.size) (.int .i64 (lessK s A1_ c1_).ver) (.int .i64 (lessK s A1_ c1_).next) (.int .i64 (lessK s A1_ c1_).keep) (.int .i64 (lessK s A1_ c1_).quota) (.slice (lessK s A1_ c1_).A1 (lessK s A1_ c1_).n1 (lessK s A1_ c1_).c1) (.slice (lessK s A1_ c1_).A2 (lessK s A1_ c1_).n2 (lessK s A1_ c1_).c2) (.slice (lessK s A1_ c1_).A3 (lessK s A1_ c1_).n3 (lessK s A1_ c1_).c3)).heap.size := by rw [put7_size]; exact hzW
  generalize lessK s A1_ c1_ = t at *
  clear hown y1 hB_s
  go_upto_region 3 with fail
  rw [st7_def]
  clear d0 d1 d2 d3 d4 d5 d6 f0 f1 f2 f3 f4 f5 f6
  generalize put7 v1 (w.heap.size) (.int .i64 t.ver) (.int .i64 t.next) (.int .i64 t.keep) (.int .i64 t.quota) (.slice t.A1 t.n1 t.c1) (.slice t.A2 t.n2 t.c2) (.slice t.A3 t.n3 t.c3) = W1 at *
  have d0 := hB_s'.cell 0
  have d1 := hB_s'.cell 1
  have d2 := hB_s'.cell 2
  have d3 := hB_s'.cell 3
  have d4 := hB_s'.cell 4
  have d5 := hB_s'.cell 5
  have d6 := hB_s'.cell 6
  simp only [List.getElem?_cons_zero, List.getElem?_cons_succ] at d0 d1 d2 d3 d4 d5 d6
  have HL := Lib.hid (law10_less s' W1 (hs'.ext xw))
  unfold KV.val at HL
  go_wp2_with fail
  refine HL.out.mono ?_
  clear HL
  rintro e v2 ⟨A2_, c2_, rfl, hown, y2⟩
  clear d0 d1 d2 d3 d4 d5 d6
  replace hown := own_base hown hzW
  replace hL_s := hL_s.ext y2
  replace hB_s' := hB_s'.ext y2
  replace xw := xw.trans y2
  replace hzW := Nat.le_trans hzW y2.size
  have d0 := hB_s'.cell 0
  have d1 := hB_s'.cell 1
  have d2 := hB_s'.cell 2
  have d3 := hB_s'.cell 3
  have d4 := hB_s'.cell 4
  have d5 := hB_s'.cell 5
  have d6 := hB_s'.cell 6
  simp only [List.getElem?_cons_zero, List.getElem?_cons_succ] at d0 d1 d2 d3 d4 d5 d6
  have f0 := hB_s'.frozen 0
  have f1 := hB_s'.frozen 1
  have f2 := hB_s'.frozen 2
  have f3 := hB_s'.frozen 3
  have f4 := hB_s'.frozen 4
  have f5 := hB_s'.frozen 5
  have f6 := hB_s'.frozen 6
  have hL_s' := LK.start (s := s') hB_s' hown (show w.heap.size + 1 < w1.heap.size by omega)
  replace hL_s := hL_s.far7 (show w.heap.size ≠ w.heap.size + 1 by omega) (show w.heap.size + 1 < w1.heap.size by omega) (.int .i64 (lessK s' A2_ c2_).ver) (.int .i64 (lessK s' A2_ c2_).next) (.int .i64 (lessK s' A2_ c2_).keep) (.int .i64 (lessK s' A2_ c2_).quota) (.slice (lessK s' A2_ c2_).A1 (lessK s' A2_ c2_).n1 (lessK s' A2_ c2_).c1) (.slice (lessK s' A2_ c2_).A2 (lessK s' A2_ c2_).n2 (lessK s' A2_ c2_).c2) (.slice (lessK s' A2_ c2_).A3 (lessK s' A2_ c2_).n3 (lessK s' A2_ c2_).c3)
  replace xw := xw.st7 (g := w.heap.size + 1) (by omega) (.int .i64 (lessK s' A2_ c2_).ver) (.int .i64 (lessK s' A2_ c2_).next) (.int .i64 (lessK s' A2_ c2_).keep) (.int .i64 (lessK s' A2_ c2_).quota) (.slice (lessK s' A2_ c2_).A1 (lessK s' A2_ c2_).n1 (lessK s' A2_ c2_).c1) (.slice (lessK s' A2_ c2_).A2 (lessK s' A2_ c2_).n2 (lessK s' A2_ c2_).c2) (.slice (lessK s' A2_ c2_).A3 (lessK s' A2_ c2_).n3 (lessK s' A2_ c2_).c3)
  replace hzW : w1.heap.size ≤ (put7 v2 (w.heap.size + 1) (.int .i64 (lessK s' A2_ c2_).ver) (.int .i64 (lessK s' A2_ c2_).next) (.int .i64 (lessK s' A2_ c2_).keep) (.int .i64 (lessK s' A2_ c2_).quota) (.slice (lessK s' A2_ c2_).A1 (lessK s' A2_ c2_).n1 (lessK s' A2_ c2_).c1) (.slice (lessK s' A2_ c2_).A2 (lessK s' A2_ c2_).n2 (lessK s' A2_ c2_).c2) (.slice (lessK s' A2_ c2_).A3 (lessK s' A2_ c2_).n3 (lessK s' A2_ c2_).c3)).heap.size := by rw [put7_size]; exact hzW
  generalize lessK s' A2_ c2_ = t' at *
  clear hown y2 hB_s'
  go_upto_region 4 with fail
  rw [st7_def]
  clear d0 d1 d2 d3 d4 d5 d6 f0 f1 f2 f3 f4 f5 f6
  generalize put7 v2 (w.heap.size + 1) (.int .i64 t'.ver) (.int .i64 t'.next) (.int .i64 t'.keep) (.int .i64 t'.quota) (.slice t'.A1 t'.n1 t'.c1) (.slice t'.A2 t'.n2 t'.c2) (.slice t'.A3 t'.n3 t'.c3) = W2 at *
  have hn0 := HN.out.1
  have hn1 := HN.out.2
  go_upto_region 5 with fail
  have hv1 : 1 ≤ 1 + n % 3 := by omega
  have hv3 : 1 + n % 3 ≤ 3 := by omega
  generalize 1 + n % 3 = v at *
  clear hn0 hn1 HN hzW hz1
  have hoka := hL_s.ok hs xw
  have hokb := hL_s'.ok hs' xw
  have hfa := hL_s.few
  have hfb := hL_s'.few
  have HPA := Lib.hid (fun (V : World) (h : Ext W2 V) => image_Put t noneX v V (hoka.ext h) (noneX_ok V) hfa noneX_few)
  have HPB := Lib.hid (fun (V : World) (h : Ext W2 V) => image_Put t' noneX v V (hokb.ext h) (noneX_ok V) hfb noneX_few)
  have HSM := Lib.hid (fun (V : World) (h : Ext W2 V) => ref07_Same t t' _ rfl V (hoka.ext h) (hokb.ext h) hfa hfb)
  unfold PutPost at HPA HPB
  rw [show noneX.more = [] from rfl, show noneX.top = [] from rfl] at HPA HPB
  have HEQ : Hid ((kput v t [] []).2 = 0 → (kput v t' [] []).2 = 0 → decide ((kput v t [] []).1 = (kput v t' [] []).1) = kSame t t') := Lib.hid (same_law v t t')
  have HNA : Hid ((kput v t [] []).2 ≠ 0 → (kput v t [] []).1 = []) := Lib.hid kput_no
  have HNB : Hid ((kput v t' [] []).2 ≠ 0 → (kput v t' [] []).1 = []) := Lib.hid kput_no
  generalize kSame t t' = same at *
  generalize kput v t [] [] = PA at *
  generalize kput v t' [] [] = PB at *
  obtain ⟨pa, ea⟩ := PA
  obtain ⟨pb, eb⟩ := PB
  unfold KV.val XV.val noneX at HPA HPB
  unfold KV.val at HSM
  dsimp only at HPA HPB HEQ HNA HNB
  have HBA := Lib.hid (fun (V : World) (h : Ext W2 V) (i : Nat) => (hL_s.blk.ext h).cell i)
  have HBB := Lib.hid (fun (V : World) (h : Ext W2 V) (i : Nat) => (hL_s'.blk.ext h).cell i)
  have HXW := Lib.hid xw
  clear hoka hokb hfa hfb hL_s hL_s' xw
  have d0 := HBA.out _ (Ext.refl W2) 0
  have d1 := HBA.out _ (Ext.refl W2) 1
  have d2 := HBA.out _ (Ext.refl W2) 2
  have d3 := HBA.out _ (Ext.refl W2) 3
  have d4 := HBA.out _ (Ext.refl W2) 4
  have d5 := HBA.out _ (Ext.refl W2) 5
  have d6 := HBA.out _ (Ext.refl W2) 6
  simp only [List.getElem?_cons_zero, List.getElem?_cons_succ] at d0 d1 d2 d3 d4 d5 d6
  go_wp2_with fail
  refine (HPA.out _ (Ext.refl W2)).mono ?_
  rintro e w3 ⟨v3, rfl, ho3, x3⟩
  obtain ⟨A3, c3, rfl, _⟩ := own_form ho3
  clear d0 d1 d2 d3 d4 d5 d6 HPA
  have d0 := HBB.out _ x3 0
  have d1 := HBB.out _ x3 1
  have d2 := HBB.out _ x3 2
  have d3 := HBB.out _ x3 3
  have d4 := HBB.out _ x3 4
  have d5 := HBB.out _ x3 5
  have d6 := HBB.out _ x3 6
  simp only [List.getElem?_cons_zero, List.getElem?_cons_succ] at d0 d1 d2 d3 d4 d5 d6
  go_wp2_with fail
  refine (HPB.out _ x3).mono ?_
  rintro e w4 ⟨v4, rfl, ho4, x4⟩
  obtain ⟨A4, c4, rfl, _⟩ := own_form ho4
  have y4 := Ext.trans x3 x4
  clear d0 d1 d2 d3 d4 d5 d6 HPB
  have hb3 : Bs w4 A3 pa.length pa := (Bs.of_own ho3).ext x4
  have hb4 : Bs w4 A4 pb.length pb := Bs.of_own ho4
  clear ho3 ho4
  by_cases ha : ea = 0
  · by_cases hb : eb = 0
    · subst ha hb
      have HE := Lib.hid (HEQ.out rfl rfl)
      clear HEQ HNA HNB
      have d0 := HBA.out _ y4 0
      have d1 := HBA.out _ y4 1
      have d2 := HBA.out _ y4 2
      have d3 := HBA.out _ y4 3
      have d4 := HBA.out _ y4 4
      have d5 := HBA.out _ y4 5
      have d6 := HBA.out _ y4 6
      simp only [List.getElem?_cons_zero, List.getElem?_cons_succ] at d0 d1 d2 d3 d4 d5 d6
      have g0 := HBB.out _ y4 0
      have g1 := HBB.out _ y4 1
      have g2 := HBB.out _ y4 2
      have g3 := HBB.out _ y4 3
      have g4 := HBB.out _ y4 4
      have g5 := HBB.out _ y4 5
      have g6 := HBB.out _ y4 6
      simp only [List.getElem?_cons_zero, List.getElem?_cons_succ] at g0 g1 g2 g3 g4 g5 g6
      go_wp2_with fail
      refine (HSM.out _ y4).mono ?_
      rintro e w5 ⟨rfl, x5⟩
      clear d0 d1 d2 d3 d4 d5 d6 g0 g1 g2 g3 g4 g5 g6 HSM
      have hs1 := str_at (hb3.ext x5) c3
      have hs2 := str_at (hb4.ext x5) c4
      have HX := Lib.hid ((HXW.out.trans y4).trans x5)
      clear hb3 hb4 HBA HBB HXW x3 x4 y4 x5
      by_cases hp : pa = pb
      · have hsame : same = true := by rw [← HE.out, dec_t hp]
        subst hp hsame
        go_wp2
        go_ret
        exact ⟨rfl, HX.out⟩
      · have hsame : same = false := by rw [← HE.out, dec_f hp]
        subst hsame
        have z := bstr_ne hp
        generalize bstr pa = P at *
        generalize bstr pb = Q at *
        clear hp
        go_wp2
        go_ret
        exact ⟨rfl, HX.out⟩
    · have hpb : pb = [] := HNB.out hb
      have z1 := bne_t (show ((eb : Nat) : Int) ≠ 0 by omega)
      have z2 := beq_f (show ((eb : Nat) : Int) ≠ 0 by omega)
      have HX := Lib.hid (HXW.out.trans y4)
      subst ha hpb
      clear hb HEQ HNA HNB HSM HBA HBB hb3 hb4 x3 x4 y4 HXW
      go_wp2
      go_ret
      exact ⟨rfl, HX.out⟩
  · have hpa : pa = [] := HNA.out ha
    have z1 := bne_t (show ((ea : Nat) : Int) ≠ 0 by omega)
    have z2 := beq_f (show ((ea : Nat) : Int) ≠ 0 by omega)
    have HX := Lib.hid (HXW.out.trans y4)
    subst hpa
    by_cases hb : eb = 0
    · subst hb
      clear ha HEQ HNA HNB HSM HBA HBB hb3 hb4 x3 x4 y4 HXW
      go_wp2
      go_ret
      exact ⟨rfl, HX.out⟩
    · have hpb : pb = [] := HNB.out hb
      have z3 := bne_t (show ((eb : Nat) : Int) ≠ 0 by omega)
      have z4 := beq_f (show ((eb : Nat) : Int) ≠ 0 by omega)
      subst hpb
      clear ha hb HEQ HNA HNB HSM HBA HBB hb3 hb4 x3 x4 y4 HXW
      go_wp2
      go_ret
      exact ⟨rfl, HX.out⟩
end Go.Proofs.Ytiildgoaiookhaa
