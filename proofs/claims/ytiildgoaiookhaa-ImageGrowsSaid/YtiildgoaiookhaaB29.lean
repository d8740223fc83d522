/- Words and walks that the last text of this claim stands on: ImW. No condition. -/
import Derived.Test.YtiildgoaiookhaaB24
import Derived.Test.YtiildgoaiookhaaB28
/- The walk of the law ImageGrows. (Printed by wip/tools/imgrows.py.) -/
namespace Go.Proofs.Ytiildgoaiookhaa
open Go.RowKit

theorem grows_same {u v : Int} {t : KV} (h1 : (kput u t [] []).2 = 0) (h2 : (kput v t [] []).2 = 0) : (kput u t [] []).1 = (kput v t [] []).1 := by
  have k1 := (kput_is (v := u) (s := t) (more := []) (top := []) (b := (kput u t [] []).1) (Prod.ext rfl h1) (by simp) (by simp)).may
  have k2 := (kput_is (v := v) (s := t) (more := []) (top := []) (b := (kput v t [] []).1) (Prod.ext rfl h2) (by simp) (by simp)).may
  rw [kput_nil k1, kput_nil k2, stF_same k1 k2]
theorem grows_less {u v : Int} {t t2 : KV} (hu1 : 1 ≤ u) (hu3 : u ≤ 3) (hn : ¬ ((kput u t [] []).2 = 0 ∧ (kput v t [] []).2 = 0)) (h2 : (kput v t [] []).2 = 0) (hs : kSame t2 (viewK u t) = true) : (kput u t2 [] []).2 = 0 ∧ (kput u t2 [] []).1.length ≤ (kput v t [] []).1.length := by
  have k2 := kput_is (v := v) (s := t) (more := []) (top := []) (b := (kput v t [] []).1) (Prod.ext rfl h2) (by simp) (by simp)
  have hk := kmay_parts k2.may
  have hku : kmay t u ≠ 0 := fun e => hn ⟨by rw [kput_nil e], h2⟩
  have huv : u ≤ v := by
    by_cases h : u ≤ v
    · exact h
    · exact absurd (kmay_grow k2.may (by omega) hu3) hku
  have k3 := k2.view hu1 huv
  have e1 := kput_rk (v := u) (rk_of (m := []) (n := []) hs (fun _ => rfl)) (show ([] : List FV).map FV.s = [].map FV.s from rfl) (Nat.zero_le _) (Nat.zero_le _)
  rw [e1, kput_nil (view_may k2.may hu1 huv)]
  refine ⟨rfl, ?_⟩
  have h4 := view_short u (viewK u t) (viewM u v t []) (laterK u v t ++ [])
  rw [k3.put] at h4
  exact h4
set_option maxRecDepth 100000 in
set_option maxHeartbeats 3200000 in
theorem law_ImageGrows (s : KV) (n m : Int) (w : World) (hs : s.Ok w) (hn : 0 ≤ n ∧ n < 256) (hm : 0 ≤ m ∧ m < 256) :
    Calls Try.prog 11 #[s.val, .int .u8 n, .int .u8 m] w fun e w' => e = .returned (.bool true) ∧ Ext w w' := by
  have HN := Lib.hid hn
  have HM := Lib.hid hm
  clear hn hm
  have hB_s := Blk.new w 26 [.int .i64 s.ver, .int .i64 s.next, .int .i64 s.keep, .int .i64 s.quota, .slice s.A1 s.n1 s.c1, .slice s.A2 s.n2 s.c2, .slice s.A3 s.n3 s.c3]
  have xw : Ext w (w.alloc (.cells #[.int .i64 s.ver, .int .i64 s.next, .int .i64 s.keep, .int .i64 s.quota, .slice s.A1 s.n1 s.c1, .slice s.A2 s.n2 s.c2, .slice s.A3 s.n3 s.c3] 26)) := ((Ext.refl w).alloc _)
  have hzw : w.heap.size + 1 ≤ (w.alloc (.cells #[.int .i64 s.ver, .int .i64 s.next, .int .i64 s.keep, .int .i64 s.quota, .slice s.A1 s.n1 s.c1, .slice s.A2 s.n2 s.c2, .slice s.A3 s.n3 s.c3] 26)).heap.size := by simp
  unfold KV.val
  go_enter Try.func11, Try.ntmps11
  go_upto_region 1 with fail
  generalize (w.alloc (.cells #[.int .i64 s.ver, .int .i64 s.next, .int .i64 s.keep, .int .i64 s.quota, .slice s.A1 s.n1 s.c1, .slice s.A2 s.n2 s.c2, .slice s.A3 s.n3 s.c3] 26)) = W0 at *
  go_wp2_with fail
  refine (law10_shown _).mono ?_
  rintro e w1 ⟨rfl, x1⟩
  replace hB_s := hB_s.ext x1
  replace xw := xw.trans x1
  have hz1 : w.heap.size + 1 ≤ w1.heap.size := Nat.le_trans hzw x1.size
  have hzW : w1.heap.size ≤ w1.heap.size := Nat.le_refl _
  clear x1 hzw
  have d0 := hB_s.cell 0
  have d1 := hB_s.cell 1
  have d2 := hB_s.cell 2
  have d3 := hB_s.cell 3
  have d4 := hB_s.cell 4
  have d5 := hB_s.cell 5
  have d6 := hB_s.cell 6
  simp only [List.getElem?_cons_zero, List.getElem?_cons_succ] at d0 d1 d2 d3 d4 d5 d6
  have HL := Lib.hid (law10_less s w1 (hs.ext xw))
  unfold KV.val at HL
  go_wp2_with fail
  refine HL.out.mono ?_
  clear HL
  rintro e v1 ⟨A1_, c1_, rfl, hown, y1⟩
  clear d0 d1 d2 d3 d4 d5 d6
  replace hown := own_base hown hzW
  replace hB_s := hB_s.ext y1
  replace xw := xw.trans y1
  replace hzW := Nat.le_trans hzW y1.size
  have d0 := hB_s.cell 0
  have d1 := hB_s.cell 1
  have d2 := hB_s.cell 2
  have d3 := hB_s.cell 3
  have d4 := hB_s.cell 4
  have d5 := hB_s.cell 5
  have d6 := hB_s.cell 6
  simp only [List.getElem?_cons_zero, List.getElem?_cons_succ] at d0 d1 d2 d3 d4 d5 d6
  have f0 := hB_s.frozen 0
  have f1 := hB_s.frozen 1
  have f2 := hB_s.frozen 2
  have f3 := hB_s.frozen 3
  have f4 := hB_s.frozen 4
  have f5 := hB_s.frozen 5
  have f6 := hB_s.frozen 6
  have hL_s := LK.start (s := s) hB_s hown (show w.heap.size < w1.heap.size by omega)
  replace xw := xw.st7 (g := w.heap.size) (by omega) (.int .i64 (lessK s A1_ c1_).ver) (.int .i64 (lessK s A1_ c1_).next) (.int .i64 (lessK s A1_ c1_).keep) (.int .i64 (lessK s A1_ c1_).quota) (.slice (lessK s A1_ c1_).A1 (lessK s A1_ c1_).n1 (lessK s A1_ c1_).c1) (.slice (lessK s A1_ c1_).A2 (lessK s A1_ c1_).n2 (lessK s A1_ c1_).c2) (.slice (lessK s A1_ c1_).A3 (lessK s A1_ c1_).n3 (lessK s A1_ c1_).c3)
  replace hzW : w1.heap.size ≤ (put7 v1 (w.heap.size) (.int .i64 (lessK s A1_ c1_).ver) (.int .i64 (lessK s A1_ c1_).next) (.int .i64 (lessK s A1_ c1_).keep) (.int .i64 (lessK s A1_ c1_).quota) (.slice (lessK s A1_ c1_).A1 (lessK s A1_ c1_).n1 (lessK s A1_ c1_).c1) (.slice (lessK s A1_ c1_).A2 (lessK s A1_ c1_).n2 (lessK s A1_ c1_).c2) (.slice (lessK s A1_ c1_).A3 (lessK s A1_ c1_).n3 (lessK s A1_ c1_).c3)).heap.size := by rw [put7_size]; exact hzW
  generalize lessK s A1_ c1_ = t at *
  clear hown y1 hB_s
  go_upto_region 3 with fail
  rw [st7_def]
  clear d0 d1 d2 d3 d4 d5 d6 f0 f1 f2 f3 f4 f5 f6
  generalize put7 v1 (w.heap.size) (.int .i64 t.ver) (.int .i64 t.next) (.int .i64 t.keep) (.int .i64 t.quota) (.slice t.A1 t.n1 t.c1) (.slice t.A2 t.n2 t.c2) (.slice t.A3 t.n3 t.c3) = W1 at *
  have hn0 := HN.out.1
  have hn1 := HN.out.2
  have hm0 := HM.out.1
  have hm1 := HM.out.2
  go_upto_region 5 with fail
  have hu1 : 1 ≤ 1 + n % 3 := by omega
  have hu3 : 1 + n % 3 ≤ 3 := by omega
  have hv1 : 1 ≤ 1 + m % 3 := by omega
  have hv3 : 1 + m % 3 ≤ 3 := by omega
  generalize 1 + n % 3 = u at *
  generalize 1 + m % 3 = v at *
  clear hn0 hn1 hm0 hm1 HN HM hzW hz1
  have hok := hL_s.ok hs xw
  have hfew := hL_s.few
  obtain ⟨q1, q2, q3⟩ := hL_s.n20
  have q4 := hL_s.ch
  have HPA := Lib.hid (fun (V : World) (h : Ext W1 V) => image_Put t noneX u V (hok.ext h) (noneX_ok V) hfew noneX_few)
  have HPB := Lib.hid (fun (V : World) (h : Ext W1 V) => image_Put t noneX v V (hok.ext h) (noneX_ok V) hfew noneX_few)
  have HVW := Lib.hid (fun (V : World) (h : Ext W1 V) => ref09_View t u V (hok.ext h) hfew (by omega) (by omega) (by omega) (fun f hf => by have := q4 f hf; omega) hu1 hu3)
  have HPC := Lib.hid (fun (t2 : KV) (V : World) (h : t2.Ok V) (hf : t2.Few) => image_Put t2 noneX u V h (noneX_ok V) hf noneX_few)
  unfold PutPost at HPA HPB HPC
  unfold ViewPost at HVW
  simp only [show noneX.more = [] from rfl, show noneX.top = [] from rfl] at HPA HPB HPC
  have HSA : Hid ((kput u t [] []).2 = 0 → (kput v t [] []).2 = 0 → (kput u t [] []).1 = (kput v t [] []).1) := Lib.hid grows_same
  have HLE : Hid (∀ t2 : KV, ¬ ((kput u t [] []).2 = 0 ∧ (kput v t [] []).2 = 0) → (kput v t [] []).2 = 0 → kSame t2 (viewK u t) = true → (kput u t2 [] []).2 = 0 ∧ (kput u t2 [] []).1.length ≤ (kput v t [] []).1.length) := Lib.hid (fun t2 h1 h2 h3 => grows_less hu1 hu3 h1 h2 h3)
  generalize kput u t [] [] = PA at *
  generalize kput v t [] [] = PB at *
  generalize kmay t 3 = em at *
  generalize viewK u t = VK at *
  obtain ⟨pa, ea⟩ := PA
  obtain ⟨pb, eb⟩ := PB
  unfold KV.val XV.val noneX at HPA HPB HPC
  unfold KV.val at HVW
  dsimp only at HPA HPB HPC HSA HLE
  have HBA := Lib.hid (fun (V : World) (h : Ext W1 V) (i : Nat) => (hL_s.blk.ext h).cell i)
  have HXW := Lib.hid xw
  clear hok hfew hL_s xw q4
  have d0 := HBA.out _ (Ext.refl W1) 0
  have d1 := HBA.out _ (Ext.refl W1) 1
  have d2 := HBA.out _ (Ext.refl W1) 2
  have d3 := HBA.out _ (Ext.refl W1) 3
  have d4 := HBA.out _ (Ext.refl W1) 4
  have d5 := HBA.out _ (Ext.refl W1) 5
  have d6 := HBA.out _ (Ext.refl W1) 6
  simp only [List.getElem?_cons_zero, List.getElem?_cons_succ] at d0 d1 d2 d3 d4 d5 d6
  go_wp2_with fail
  refine (HPA.out _ (Ext.refl W1)).mono ?_
  rintro e w3 ⟨v3, rfl, ho3, x3⟩
  obtain ⟨A3, c3, rfl, _⟩ := own_form ho3
  clear d0 d1 d2 d3 d4 d5 d6 HPA
  have d0 := HBA.out _ x3 0
  have d1 := HBA.out _ x3 1
  have d2 := HBA.out _ x3 2
  have d3 := HBA.out _ x3 3
  have d4 := HBA.out _ x3 4
  have d5 := HBA.out _ x3 5
  have d6 := HBA.out _ x3 6
  simp only [List.getElem?_cons_zero, List.getElem?_cons_succ] at d0 d1 d2 d3 d4 d5 d6
  go_wp2_with fail
  refine (HPB.out _ x3).mono ?_
  rintro e w4 ⟨v4, rfl, ho4, x4⟩
  obtain ⟨A4, c4, rfl, _⟩ := own_form ho4
  have y4 := Ext.trans x3 x4
  clear d0 d1 d2 d3 d4 d5 d6 HPB
  have hb3 : Bs w4 A3 pa.length pa := (Bs.of_own ho3).ext x4
  have hb4 : Bs w4 A4 pb.length pb := Bs.of_own ho4
  clear ho3 ho4
  by_cases hab : ea = 0 ∧ eb = 0
  · obtain ⟨rfl, rfl⟩ := hab
    have hp := HSA.out rfl rfl
    subst hp
    have hs1 := str_at hb3 c3
    have hs2 := str_at hb4 c4
    have HX := Lib.hid (HXW.out.trans y4)
    clear hb3 hb4 HBA HXW x3 x4 y4 HPC HVW HLE HSA
    go_wp2
    go_ret
    exact ⟨rfl, HX.out⟩
  · clear hb3 hb4 HSA
    have HLE2 := Lib.hid (fun t2 h2 h3 => HLE.out t2 hab h2 h3)
    clear HLE
    go_upto_region 7 with fail
    go_cut [48] (fun s7 wx => s7 = .bool false ∧ w4 = wx)
    case first =>
      by_cases hea : ea = 0
      · have heb : eb ≠ 0 := fun h => hab ⟨hea, h⟩
        have z2 := beq_f (show ((eb : Nat) : Int) ≠ 0 by omega)
        subst hea
        clear hab heb HBA HXW x3 x4 y4 HPC HVW HLE2
        go_wp2_with fail
        go_meet
        exact ⟨rfl, rfl⟩
      · have z2 := beq_f (show ((ea : Nat) : Int) ≠ 0 by omega)
        clear hab hea HBA HXW x3 x4 y4 HPC HVW HLE2
        go_wp2_with fail
        go_meet
        exact ⟨rfl, rfl⟩
    case rest =>
      obtain ⟨rfl, rfl⟩ := hcut
      clear hab
      have d0 := HBA.out _ y4 0
      have d1 := HBA.out _ y4 1
      have d2 := HBA.out _ y4 2
      have d3 := HBA.out _ y4 3
      have d4 := HBA.out _ y4 4
      have d5 := HBA.out _ y4 5
      have d6 := HBA.out _ y4 6
      simp only [List.getElem?_cons_zero, List.getElem?_cons_succ] at d0 d1 d2 d3 d4 d5 d6
      go_wp2_with fail
      refine (HVW.out _ y4).mono ?_
      rintro e w5 ⟨t2, rfl, hok2, hfew2, hsame, x5⟩
      obtain ⟨cv, hcv⟩ : ∃ c : Int, c = (if em = 0 then 0 else 1) := ⟨_, rfl⟩
      rw [← hcv]
      have HCV := Lib.hid hcv
      clear hcv
      have HX5 := Lib.hid ((HXW.out.trans y4).trans x5)
      clear d0 d1 d2 d3 d4 d5 d6 HBA HVW x3 x4 y4 HXW x5
      go_upto_region 10 with fail
      have hO := Blk.new w5 26 [.int .i64 t2.ver, .int .i64 t2.next, .int .i64 t2.keep, .int .i64 t2.quota, .slice t2.A1 t2.n1 t2.c1, .slice t2.A2 t2.n2 t2.c2, .slice t2.A3 t2.n3 t2.c3]
      have xa := (Ext.refl w5).alloc (.cells #[.int .i64 t2.ver, .int .i64 t2.next, .int .i64 t2.keep, .int .i64 t2.quota, .slice t2.A1 t2.n1 t2.c1, .slice t2.A2 t2.n2 t2.c2, .slice t2.A3 t2.n3 t2.c3] 26)
      have HPC2 := Lib.hid (HPC.out t2 _ (hok2.ext xa) hfew2)
      have HX6 := Lib.hid (HX5.out.trans xa)
      clear xa HPC HX5 hok2 hfew2
      generalize w5.alloc (.cells #[.int .i64 t2.ver, .int .i64 t2.next, .int .i64 t2.keep, .int .i64 t2.quota, .slice t2.A1 t2.n1 t2.c1, .slice t2.A2 t2.n2 t2.c2, .slice t2.A3 t2.n3 t2.c3] 26) = w6 at *
      have HLE3 := Lib.hid (fun h2 h3 => HLE2.out t2 h2 (hsame h3))
      generalize kput u t2 [] [] = PC at *
      obtain ⟨pc, ec⟩ := PC
      dsimp only at HPC2 HLE3
      clear HLE2 hsame
      have d0 := hO.cell 0
      have d1 := hO.cell 1
      have d2 := hO.cell 2
      have d3 := hO.cell 3
      have d4 := hO.cell 4
      have d5 := hO.cell 5
      have d6 := hO.cell 6
      simp only [List.getElem?_cons_zero, List.getElem?_cons_succ] at d0 d1 d2 d3 d4 d5 d6
      clear hO
      go_wp2_with fail
      refine HPC2.out.mono ?_
      rintro e w7 ⟨v7, rfl, ho7, x7⟩
      obtain ⟨A7, c7, rfl, _⟩ := own_form ho7
      have HX7 := Lib.hid (HX6.out.trans x7)
      clear d0 d1 d2 d3 d4 d5 d6 HPC2 HX6 x7 ho7
      by_cases heb : eb = 0
      · subst heb
        by_cases hem : em = 0
        · have hcv0 : cv = 0 := by rw [HCV.out, if_pos hem]
          subst hem hcv0
          obtain ⟨hec, hle⟩ := HLE3.out rfl rfl
          subst hec
          have hle' : (pc.length : Int) ≤ pb.length := by omega
          clear hle HLE3
          go_wp2_with fail
          go_ret
          exact ⟨rfl, HX7.out⟩
        · have hcv0 : cv = 1 := by rw [HCV.out, if_neg hem]
          subst hcv0
          clear hem HLE3
          go_wp2_with fail
          go_ret
          exact ⟨rfl, HX7.out⟩
      · have z2 := bne_t (show ((eb : Nat) : Int) ≠ 0 by omega)
        clear HLE3 heb
        go_wp2_with fail
        go_ret
        exact ⟨rfl, HX7.out⟩
end Go.Proofs.Ytiildgoaiookhaa
