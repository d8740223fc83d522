/- Words and walks that the last text of this claim stands on: LtV, LtB. No condition. -/
import Derived.Test.YtcoaofaofmbfbaaB17
import Derived.Test.YtcoaofaofmbfbaaB18
/- A letter that was laid down is taken as it was: plain. -/
namespace Go.Proofs.Ytcoaofaofmbfbaa
open Go.RowKit

theorem IsLet.same {b : List UInt8} {x y : LV} {ms Q : List FV} (h : IsLet b x ms) (k : IsLet b y Q) : x.p = y.p ∧ ms.map FV.s = Q.map FV.s := by
  have hs := rput_inj h.row k.row h.k k.k (h.put.trans k.put.symm)
  obtain ⟨f1, f2⟩ := let_filter x h.low
  obtain ⟨g1, g2⟩ := let_filter y k.low
  have hf := (s_filter hs 10).2
  rw [f2, g2] at hf
  exact ⟨let_inj h.may k.may h.bx k.bx (low_all h.low) (low_all k.low) hs, hf⟩
theorem lput_no {x : LV} {ms : List FV} (h : (lput x ms).2 ≠ 0) : (lput x ms).1 = [] := by
  unfold lput at h ⊢
  by_cases h1 : mayB x = false
  · rw [if_pos h1]
  · rw [if_neg h1] at h ⊢
    by_cases h2 : lowB ms = true
    · rw [if_pos h2]
    · rw [if_neg h2] at h ⊢
      by_cases h3 : fmay (letF x ++ ms) = 0
      · rw [if_pos h3] at h; exact absurd rfl h
      · rw [if_neg h3]
theorem fsEq_nil {N : List FV} (h : fsEq [] N = true) : N = [] := by
  unfold fsEq at h
  cases N with
  | nil => rfl
  | cons a r => simp at h
theorem q_of {ms : List FV} (bm : ∀ f ∈ ms, U64 f.n ∧ f.len = f.b.length) : ∀ f ∈ ms, f.len = f.b.length := fun f hf => (bm f hf).2
/-- what was laid down is taken as it was -/
theorem back_whole {b : List UInt8} {x y : LV} {ms Q : List FV} {code : Nat} (h : IsLet b x ms) (k : IsTaken b y Q code) : code = 0 ∧ letEq x y = true ∧ fsEq ms Q = true ∧ IsLet b y Q := by
  rcases k with ⟨h0, k⟩ | ⟨_, _, _, _, hno⟩
  · obtain ⟨e1, e2⟩ := h.same k
    exact ⟨h0, letEq_iff.2 e1, (fsEq_s (q_of h.bm) (q_of k.bm)).2 e2, k⟩
  · exact absurd h (hno x ms)
/-- the letter without what stands behind -/
theorem back_bare {b : List UInt8} {x : LV} {ms : List FV} (h : IsLet b x ms) : ∃ c, IsLet c x [] ∧ lput x [] = (c, 0) ∧ b = c ++ rput ms := by
  have hr : fmay (letF x) = 0 := scan_pre _ _ none 0 h.row
  have hl : IsLet (rput (letF x)) x [] := ⟨h.may, rfl, by rw [List.append_nil]; exact hr, by rw [List.append_nil], h.ln, h.bx, by simp⟩
  exact ⟨_, hl, hl.lput, by rw [← h.put, rput_app]⟩
/-- what is cut is none, or another one -/
theorem back_cut {b : List UInt8} {x u : LV} {ms o : List FV} {t : Nat} (h : IsLet b x ms) (k : IsLet (b.take t) u o) (ht : t < b.length) : ¬ (letEq u x = true ∧ fsEq o ms = true) := by
  rintro ⟨h1, h2⟩
  have e1 := let_same (letEq_iff.1 h1)
  have e2 := (fsEq_s (q_of k.bm) (q_of h.bm)).1 h2
  have e3 : rput (letF u ++ o) = rput (letF x ++ ms) := s_rput (by rw [List.map_append, List.map_append, e1, e2])
  rw [k.put, h.put] at e3
  have := congrArg List.length e3
  rw [List.length_take] at this
  omega
end Go.Proofs.Ytcoaofaofmbfbaa

/- The walk of the law LetterBack. (Printed by wip/tools/ltback.py.) -/
namespace Go.Proofs.Ytcoaofaofmbfbaa
open Go.RowKit

set_option maxRecDepth 100000 in
set_option maxHeartbeats 6400000 in
theorem law_LetterBack (x : LV) (A : Option Addr) (n c : Nat) (l : List FV) (at_ : Int) (w : World) (hx : x.Ok w) (hf : Fs w A n l) (hnc : n ≤ c) (hcm : c ≤ maxLen) (hat : I64 at_) :
    Calls Try.prog 5 #[x.val, .slice A n c, .int .i64 at_] w fun e w' => e = .returned (.bool true) ∧ Ext w w' := by
  have hBx : Blk (w.alloc (.cells #[.int .i64 x.kind, .int .i64 x.src, .int .i64 x.dst, .int .i64 x.term, .int .i64 x.a, .int .i64 x.b, .int .i64 x.c, .int .i64 x.bin, .bool x.ok, .slice x.A x.n x.cp] 26)) (w.heap.size) 26 [.int .i64 x.kind, .int .i64 x.src, .int .i64 x.dst, .int .i64 x.term, .int .i64 x.a, .int .i64 x.b, .int .i64 x.c, .int .i64 x.bin, .bool x.ok, .slice x.A x.n x.cp] := by
    have h0 := Blk.new w 26 [.int .i64 x.kind, .int .i64 x.src, .int .i64 x.dst, .int .i64 x.term, .int .i64 x.a, .int .i64 x.b, .int .i64 x.c, .int .i64 x.bin, .bool x.ok, .slice x.A x.n x.cp]
    exact h0
  have xW : Ext w (w.alloc (.cells #[.int .i64 x.kind, .int .i64 x.src, .int .i64 x.dst, .int .i64 x.term, .int .i64 x.a, .int .i64 x.b, .int .i64 x.c, .int .i64 x.bin, .bool x.ok, .slice x.A x.n x.cp] 26)) := (Ext.refl w).alloc _
  have hzW : w.heap.size + 1 ≤ (w.alloc (.cells #[.int .i64 x.kind, .int .i64 x.src, .int .i64 x.dst, .int .i64 x.term, .int .i64 x.a, .int .i64 x.b, .int .i64 x.c, .int .i64 x.bin, .bool x.ok, .slice x.A x.n x.cp] 26)).heap.size := by simp
  unfold LV.val
  go_enter Try.func5, Try.ntmps5
  go_wp2_with fail
  refine (law16_shown _).mono ?_
  rintro e w1 ⟨rfl, x1⟩
  replace hBx := hBx.ext x1
  replace xW := xW.trans x1
  replace hzW := Nat.le_trans hzW x1.size
  clear x1
  have d0 := hBx.cell 0
  have d1 := hBx.cell 1
  have d2 := hBx.cell 2
  have d3 := hBx.cell 3
  have d4 := hBx.cell 4
  have d5 := hBx.cell 5
  have d6 := hBx.cell 6
  have d7 := hBx.cell 7
  have d8 := hBx.cell 8
  have d9 := hBx.cell 9
  simp only [List.getElem?_cons_zero, List.getElem?_cons_succ] at d0 d1 d2 d3 d4 d5 d6 d7 d8 d9
  have HL := Lib.hid (law16_letter_ x w1 (hx.ext xW))
  unfold LV.val at HL
  go_wp2_with fail
  refine HL.out.mono ?_
  clear HL
  rintro e v2 ⟨Ax, cx, rfl, ownx, yx⟩
  clear d0 d1 d2 d3 d4 d5 d6 d7 d8 d9
  replace hBx := hBx.ext yx
  replace ownx := own_base ownx hzW
  replace xW := xW.trans yx
  replace hzW := Nat.le_trans hzW yx.size
  clear yx
  have d0 := hBx.cell 0
  have d1 := hBx.cell 1
  have d2 := hBx.cell 2
  have d3 := hBx.cell 3
  have d4 := hBx.cell 4
  have d5 := hBx.cell 5
  have d6 := hBx.cell 6
  have d7 := hBx.cell 7
  have d8 := hBx.cell 8
  have d9 := hBx.cell 9
  simp only [List.getElem?_cons_zero, List.getElem?_cons_succ] at d0 d1 d2 d3 d4 d5 d6 d7 d8 d9
  have f0 := hBx.frozen 0
  have f1 := hBx.frozen 1
  have f2 := hBx.frozen 2
  have f3 := hBx.frozen 3
  have f4 := hBx.frozen 4
  have f5 := hBx.frozen 5
  have f6 := hBx.frozen 6
  have f7 := hBx.frozen 7
  have f8 := hBx.frozen 8
  have f9 := hBx.frozen 9
  go_upto_region 3 with fail
  rw [put10_def]
  clear d0 f0 d1 f1 d2 f2 d3 f3 d4 f4 d5 f5 d6 f6 d7 f7 d8 f8 d9 f9
  replace hBx := hBx.st10 (.int .i64 (cutX x Ax cx).kind) (.int .i64 (cutX x Ax cx).src) (.int .i64 (cutX x Ax cx).dst) (.int .i64 (cutX x Ax cx).term) (.int .i64 (cutX x Ax cx).a) (.int .i64 (cutX x Ax cx).b) (.int .i64 (cutX x Ax cx).c) (.int .i64 (cutX x Ax cx).bin) (.bool (cutX x Ax cx).ok) (.slice (cutX x Ax cx).A (cutX x Ax cx).n (cutX x Ax cx).cp)
  replace ownx := own_st10 ownx (g := w.heap.size) (by omega) (.int .i64 (cutX x Ax cx).kind) (.int .i64 (cutX x Ax cx).src) (.int .i64 (cutX x Ax cx).dst) (.int .i64 (cutX x Ax cx).term) (.int .i64 (cutX x Ax cx).a) (.int .i64 (cutX x Ax cx).b) (.int .i64 (cutX x Ax cx).c) (.int .i64 (cutX x Ax cx).bin) (.bool (cutX x Ax cx).ok) (.slice (cutX x Ax cx).A (cutX x Ax cx).n (cutX x Ax cx).cp)
  replace xW := xW.st10 (g := w.heap.size) (by omega) (.int .i64 (cutX x Ax cx).kind) (.int .i64 (cutX x Ax cx).src) (.int .i64 (cutX x Ax cx).dst) (.int .i64 (cutX x Ax cx).term) (.int .i64 (cutX x Ax cx).a) (.int .i64 (cutX x Ax cx).b) (.int .i64 (cutX x Ax cx).c) (.int .i64 (cutX x Ax cx).bin) (.bool (cutX x Ax cx).ok) (.slice (cutX x Ax cx).A (cutX x Ax cx).n (cutX x Ax cx).cp)
  replace hzW : w.heap.size + 1 ≤ (put10 v2 (w.heap.size) (.int .i64 (cutX x Ax cx).kind) (.int .i64 (cutX x Ax cx).src) (.int .i64 (cutX x Ax cx).dst) (.int .i64 (cutX x Ax cx).term) (.int .i64 (cutX x Ax cx).a) (.int .i64 (cutX x Ax cx).b) (.int .i64 (cutX x Ax cx).c) (.int .i64 (cutX x Ax cx).bin) (.bool (cutX x Ax cx).ok) (.slice (cutX x Ax cx).A (cutX x Ax cx).n (cutX x Ax cx).cp)).heap.size := by rw [put10_size]; exact hzW
  generalize put10 v2 (w.heap.size) (.int .i64 (cutX x Ax cx).kind) (.int .i64 (cutX x Ax cx).src) (.int .i64 (cutX x Ax cx).dst) (.int .i64 (cutX x Ax cx).term) (.int .i64 (cutX x Ax cx).a) (.int .i64 (cutX x Ax cx).b) (.int .i64 (cutX x Ax cx).c) (.int .i64 (cutX x Ax cx).bin) (.bool (cutX x Ax cx).ok) (.slice (cutX x Ax cx).A (cutX x Ax cx).n (cutX x Ax cx).cp) = W0 at *
  have okx := cutX_ok hx xW ownx
  have sixx : (cutX x Ax cx).n ≤ 6 := by dsimp only [cutX]; omega
  clear ownx hx
  generalize cutX x Ax cx = tx at *
  have HSM := Lib.hid (law16_some A n c l W0 (hf.ext xW) hcm hnc)
  have hlo := hf.ok
  clear hf hnc hcm
  go_wp2_with fail
  refine HSM.out.mono ?_
  rintro e w4 ⟨v4, rfl, hown4, x4⟩
  clear HSM
  obtain ⟨AR, cR, rfl, hcR⟩ := own_form hown4
  have xw4 := xW.trans x4
  have hfr : Fs w4 AR (min 12 n) (some12 l) := Fs.of_own hown4 fun f hf => (some12_ok hlo f hf).ext xw4
  replace okx := okx.ext x4
  replace hBx := hBx.ext x4
  have hr12 : min 12 n ≤ 12 := by omega
  clear hown4 hlo x4 xW hzW
  generalize some12 l = R at *
  generalize min 12 n = r at *
  have HPUT := Lib.hid (letter_Put tx AR r cR R w4 okx (by omega) hfr (by omega))
  have HNO := Lib.hid (fun h => lput_no (x := tx) (ms := R) h)
  have HIS := Lib.hid (fun (b : List UInt8) (h : lput tx R = (b, 0)) => lput_is h okx.es.len (fun y hy => (okx.es.ok y hy).bs.len) (fun f hf => ⟨(hfr.ok f hf).u, (hfr.ok f hf).bs.len.symm⟩))
  generalize lput tx R = pp at *
  obtain ⟨b, ep⟩ := pp
  unfold LV.val at HPUT
  dsimp only at HPUT HNO HIS
  have d0 := hBx.cell 0
  have d1 := hBx.cell 1
  have d2 := hBx.cell 2
  have d3 := hBx.cell 3
  have d4 := hBx.cell 4
  have d5 := hBx.cell 5
  have d6 := hBx.cell 6
  have d7 := hBx.cell 7
  have d8 := hBx.cell 8
  have d9 := hBx.cell 9
  simp only [List.getElem?_cons_zero, List.getElem?_cons_succ] at d0 d1 d2 d3 d4 d5 d6 d7 d8 d9
  go_wp2_with fail
  refine HPUT.out.mono ?_
  rintro e w5 ⟨v5, rfl, hown5, x5⟩
  obtain ⟨A5, c5, rfl, hc5⟩ := own_form hown5
  have hb5 : Bs w5 A5 b.length b := Bs.of_own hown5
  have hcm5 := (own_bounds hown5).2
  replace okx := okx.ext x5
  replace hBx := hBx.ext x5
  replace hfr := hfr.ext x5
  have xw5 := xw4.trans x5
  clear HPUT hown5 x5 xw4 d0 d1 d2 d3 d4 d5 d6 d7 d8 d9
  by_cases hep : ep = 0
  case neg =>
    have hbn : b = [] := HNO.out hep
    subst hbn
    have z := bne_t (show ((ep : Nat) : Int) ≠ 0 by omega)
    clear hep HNO HIS
    go_wp2_with fail
    go_ret
    exact ⟨rfl, xw5⟩
  subst hep
  have HIL := Lib.hid (HIS.out b rfl)
  have HLN : Hid (b.length ≤ 16384) := Lib.hid (by have := (fmay_ok HIL.out.row).2; rw [← rput_len, HIL.out.put] at this; exact this)
  have hbl : b.length ≤ 16384 := HLN.out
  clear HNO HIS
  have hemp := own_empty w5 5 1
  go_wp2_with (at_builtin; refine wpList_app bytesT (by omega) _ rfl rfl rfl hemp rfl (Rd.alloc hb5 _) (bvs_one _) (by unfold maxLen; omega) (by omega) (by simp) ?_; intro v6 w6 hown6 hg6 hat6; simp only [Nat.zero_add, List.nil_append] at hown6; obtain ⟨A6, c6, rfl, hc6⟩ := own_form hown6)
  have x6 := Below.app ((Ext.refl w5).alloc _) hg6 (by simp) hemp (Nat.le_refl _)
  have HTK := Lib.hid (letter_Take A6 b.length c6 b w6 (Bs.of_own hown6) (by omega) hc6)
  refine HTK.out.mono ?_
  rintro e w7 ⟨y, AQ, nQ, cQ, Q, code, rfl, hoy, hfq, hnq, hcq, hyn, hcase, x7⟩
  have x57 : Ext w5 w7 := Ext.trans x6 x7
  replace okx := okx.ext x57
  replace hBx := hBx.ext x57
  replace hfr := hfr.ext x57
  replace hb5 := hb5.ext x57
  have xw7 := xw5.trans x57
  have oky := hoy.ok
  clear HTK hown6 hg6 hat6 hemp x6 x7 x57 hoy xw5
  obtain ⟨rfl, hleq, hfeq, HIQ⟩ := back_whole HIL.out hcase
  have HQL : Hid (Q.length ≤ 16384) := Lib.hid HIQ.many
  have hql : nQ ≤ 16384 := by have := HQL.out; have := hfq.len; omega
  clear hcase HIQ
  unfold LV.val
  go_upto_region 8 with fail
  have hBy := Blk.new w7 26 [.int .i64 y.kind, .int .i64 y.src, .int .i64 y.dst, .int .i64 y.term, .int .i64 y.a, .int .i64 y.b, .int .i64 y.c, .int .i64 y.bin, .bool y.ok, .slice y.A y.n y.cp]
  have x8 : Ext w7 (w7.alloc (.cells #[.int .i64 y.kind, .int .i64 y.src, .int .i64 y.dst, .int .i64 y.term, .int .i64 y.a, .int .i64 y.b, .int .i64 y.c, .int .i64 y.bin, .bool y.ok, .slice y.A y.n y.cp] 26)) := (Ext.refl w7).alloc _
  replace okx := okx.ext x8
  replace hBx := hBx.ext x8
  replace hfr := hfr.ext x8
  replace hb5 := hb5.ext x8
  replace oky := oky.ext x8
  replace hfq := hfq.ext x8
  have xw8 := xw7.trans x8
  generalize w7.alloc (.cells #[.int .i64 y.kind, .int .i64 y.src, .int .i64 y.dst, .int .i64 y.term, .int .i64 y.a, .int .i64 y.b, .int .i64 y.c, .int .i64 y.bin, .bool y.ok, .slice y.A y.n y.cp] 26) = W8 at *
  clear x8 xw7
  have HS1 := Lib.hid (ref16_SameB tx y true hleq W8 okx oky (by omega) (by omega))
  unfold LV.val at HS1
  have d0 := hBx.cell 0
  have d1 := hBx.cell 1
  have d2 := hBx.cell 2
  have d3 := hBx.cell 3
  have d4 := hBx.cell 4
  have d5 := hBx.cell 5
  have d6 := hBx.cell 6
  have d7 := hBx.cell 7
  have d8 := hBx.cell 8
  have d9 := hBx.cell 9
  simp only [List.getElem?_cons_zero, List.getElem?_cons_succ] at d0 d1 d2 d3 d4 d5 d6 d7 d8 d9
  have e0 := hBy.cell 0
  have e1 := hBy.cell 1
  have e2 := hBy.cell 2
  have e3 := hBy.cell 3
  have e4 := hBy.cell 4
  have e5 := hBy.cell 5
  have e6 := hBy.cell 6
  have e7 := hBy.cell 7
  have e8 := hBy.cell 8
  have e9 := hBy.cell 9
  simp only [List.getElem?_cons_zero, List.getElem?_cons_succ] at e0 e1 e2 e3 e4 e5 e6 e7 e8 e9
  go_wp2_with fail
  refine HS1.out.mono ?_
  rintro e w9 ⟨rfl, x9⟩
  clear HS1 hBy oky hleq d0 d1 d2 d3 d4 d5 d6 d7 d8 d9 e0 e1 e2 e3 e4 e5 e6 e7 e8 e9
  replace okx := okx.ext x9
  replace hBx := hBx.ext x9
  replace hfr := hfr.ext x9
  replace hb5 := hb5.ext x9
  replace hfq := hfq.ext x9
  have xw9 := xw8.trans x9
  clear x9 xw8
  have HS2 := Lib.hid (ref03_SameB AR AQ r nQ cR cQ R Q true hfeq w9 hfr hfq (by omega) (by omega))
  go_wp2_with fail
  refine HS2.out.mono ?_
  rintro e w10 ⟨rfl, x10⟩
  clear HS2 hfq hfeq
  replace okx := okx.ext x10
  replace hBx := hBx.ext x10
  replace hfr := hfr.ext x10
  replace hb5 := hb5.ext x10
  have xw10 := xw9.trans x10
  clear x10 xw9
  obtain ⟨cc, hcl, hcp, hbc⟩ := back_bare HIL.out
  have hcb : cc.length ≤ b.length := by rw [hbc, List.length_append]; omega
  have HP2 := Lib.hid (letter_Put tx none 0 0 [] w10 okx (by omega) (Fs.nil_ _ _) (by omega))
  rw [hcp] at HP2
  unfold LV.val at HP2
  dsimp only at HP2
  have HBC := Lib.hid hbc
  have HCL := Lib.hid hcl
  clear hcp hbc hcl
  have d0 := hBx.cell 0
  have d1 := hBx.cell 1
  have d2 := hBx.cell 2
  have d3 := hBx.cell 3
  have d4 := hBx.cell 4
  have d5 := hBx.cell 5
  have d6 := hBx.cell 6
  have d7 := hBx.cell 7
  have d8 := hBx.cell 8
  have d9 := hBx.cell 9
  simp only [List.getElem?_cons_zero, List.getElem?_cons_succ] at d0 d1 d2 d3 d4 d5 d6 d7 d8 d9
  go_wp2_with fail
  refine HP2.out.mono ?_
  rintro e w11 ⟨v11, rfl, hown11, x11⟩
  obtain ⟨A11, c11, rfl, hc11⟩ := own_form hown11
  have hcm11 := (own_bounds hown11).2
  have hb11 : Bs w11 A11 cc.length cc := Bs.of_own hown11
  clear HP2 hown11 d0 d1 d2 d3 d4 d5 d6 d7 d8 d9
  replace okx := okx.ext x11
  replace hBx := hBx.ext x11
  replace hfr := hfr.ext x11
  replace hb5 := hb5.ext x11
  have xw11 := xw10.trans x11
  clear x11 xw10
  have HT2 := Lib.hid (letter_Take A11 cc.length c11 cc w11 hb11 (by omega) hc11)
  go_wp2_with fail
  refine HT2.out.mono ?_
  rintro e w12 ⟨z, AN, nN, cN, N, code2, rfl, hoz, hfn, hnn, hcn, hzn, hcase2, x12⟩
  replace okx := okx.ext x12
  replace hBx := hBx.ext x12
  replace hfr := hfr.ext x12
  replace hb5 := hb5.ext x12
  replace hb11 := hb11.ext x12
  have xw12 := xw11.trans x12
  have okz := hoz.ok
  clear HT2 x12 xw11 hoz
  obtain ⟨rfl, hleq2, hfeq2, _⟩ := back_whole HCL.out hcase2
  have hN : N = [] := fsEq_nil hfeq2
  subst hN
  obtain rfl : nN = 0 := hfn.len.symm
  clear hcase2 hfeq2 hfn
  unfold LV.val
  go_upto_region 12 with fail
  have hBz := Blk.new w12 26 [.int .i64 z.kind, .int .i64 z.src, .int .i64 z.dst, .int .i64 z.term, .int .i64 z.a, .int .i64 z.b, .int .i64 z.c, .int .i64 z.bin, .bool z.ok, .slice z.A z.n z.cp]
  have x13 : Ext w12 (w12.alloc (.cells #[.int .i64 z.kind, .int .i64 z.src, .int .i64 z.dst, .int .i64 z.term, .int .i64 z.a, .int .i64 z.b, .int .i64 z.c, .int .i64 z.bin, .bool z.ok, .slice z.A z.n z.cp] 26)) := (Ext.refl w12).alloc _
  replace okx := okx.ext x13
  replace hBx := hBx.ext x13
  replace hfr := hfr.ext x13
  replace hb5 := hb5.ext x13
  replace okz := okz.ext x13
  replace hb11 := hb11.ext x13
  have xw13 := xw12.trans x13
  generalize w12.alloc (.cells #[.int .i64 z.kind, .int .i64 z.src, .int .i64 z.dst, .int .i64 z.term, .int .i64 z.a, .int .i64 z.b, .int .i64 z.c, .int .i64 z.bin, .bool z.ok, .slice z.A z.n z.cp] 26) = W13 at *
  clear x13 xw12
  have HS3 := Lib.hid (ref16_SameB tx z true hleq2 W13 okx okz (by omega) (by omega))
  unfold LV.val at HS3
  have d0 := hBx.cell 0
  have d1 := hBx.cell 1
  have d2 := hBx.cell 2
  have d3 := hBx.cell 3
  have d4 := hBx.cell 4
  have d5 := hBx.cell 5
  have d6 := hBx.cell 6
  have d7 := hBx.cell 7
  have d8 := hBx.cell 8
  have d9 := hBx.cell 9
  simp only [List.getElem?_cons_zero, List.getElem?_cons_succ] at d0 d1 d2 d3 d4 d5 d6 d7 d8 d9
  have e0 := hBz.cell 0
  have e1 := hBz.cell 1
  have e2 := hBz.cell 2
  have e3 := hBz.cell 3
  have e4 := hBz.cell 4
  have e5 := hBz.cell 5
  have e6 := hBz.cell 6
  have e7 := hBz.cell 7
  have e8 := hBz.cell 8
  have e9 := hBz.cell 9
  simp only [List.getElem?_cons_zero, List.getElem?_cons_succ] at e0 e1 e2 e3 e4 e5 e6 e7 e8 e9
  go_wp2_with fail
  refine HS3.out.mono ?_
  rintro e w14 ⟨rfl, x14⟩
  clear HS3 hBz okz hleq2 d0 d1 d2 d3 d4 d5 d6 d7 d8 d9 e0 e1 e2 e3 e4 e5 e6 e7 e8 e9
  replace okx := okx.ext x14
  replace hBx := hBx.ext x14
  replace hfr := hfr.ext x14
  replace hb5 := hb5.ext x14
  replace hb11 := hb11.ext x14
  have xw14 := xw13.trans x14
  clear x14 xw13
  have hup := hb5.upto (hi := cc.length) hcb
  have htk : b.take cc.length = cc := by rw [HBC.out, List.take_left]
  rw [htk] at hup
  have hsA := fun k => str_at (hup.drewN k) c5
  have hsB := fun k => str_at (hb11.drewN k) c11
  have i0 : (0 : Int) ≤ cc.length := by omega
  have i1 : (cc.length : Int) ≤ b.length := by omega
  have i2 : (cc.length : Int) ≤ c5 := by omega
  have i3 : (b.length : Int) ≤ c5 := by omega
  clear hup htk hb11
  generalize bstr cc = S at *
  go_wp2_with fail
  go_quiet (fail)
  clear hsA hsB
  replace xw14 := xw14.drewN nq
  have x15 : Ext w14 (w14.drewN nq) := (Ext.refl w14).drewN nq
  replace okx := okx.ext x15
  replace hBx := hBx.ext x15
  replace hfr := hfr.ext x15
  replace hb5 := hb5.ext x15
  clear x15
  generalize w14.drewN nq = W15 at *
  by_cases ha0 : 0 ≤ at_
  case neg =>
    clear okx hBx hfr hb5
    go_wp2_with fail
    go_ret
    exact ⟨rfl, xw14⟩
  by_cases hab : at_ < b.length
  case neg =>
    clear okx hBx hfr hb5
    go_wp2_with fail
    go_ret
    exact ⟨rfl, xw14⟩
  · obtain ⟨k, rfl⟩ := Int.eq_ofNat_of_zero_le ha0
    have hkb : k < b.length := by omega
    have hkc : k ≤ c5 := by omega
    have hk0 : (0 : Int) ≤ k := by omega
    have hk1 : (k : Int) ≤ c5 := by omega
    have hup := hb5.upto (hi := k) (by omega)
    have HT3 := Lib.hid (letter_Take A5 k c5 (b.take k) W15 hup (by omega) hkc)
    clear hup hb5
    go_wp2_with fail
    refine HT3.out.mono ?_
    rintro e w16 ⟨u, AO, nO, cO, O, code3, rfl, hou, hfo, hno, hco, hun, hcase3, x16⟩
    replace okx := okx.ext x16
    replace hBx := hBx.ext x16
    replace hfr := hfr.ext x16
    have xw16 := xw14.trans x16
    have oku := hou.ok
    clear HT3 x16 xw14 hou
    have hol : nO ≤ 20000 := by
      rcases hcase3 with ⟨_, h⟩ | ⟨_, _, h, _⟩
      · have := h.many; have := hfo.len; omega
      · subst h; have := hfo.len; simp at this; omega
    unfold LV.val
    go_upto_region 17 with fail
    have hBu := Blk.new w16 26 [.int .i64 u.kind, .int .i64 u.src, .int .i64 u.dst, .int .i64 u.term, .int .i64 u.a, .int .i64 u.b, .int .i64 u.c, .int .i64 u.bin, .bool u.ok, .slice u.A u.n u.cp]
    have x17 : Ext w16 (w16.alloc (.cells #[.int .i64 u.kind, .int .i64 u.src, .int .i64 u.dst, .int .i64 u.term, .int .i64 u.a, .int .i64 u.b, .int .i64 u.c, .int .i64 u.bin, .bool u.ok, .slice u.A u.n u.cp] 26)) := (Ext.refl w16).alloc _
    replace okx := okx.ext x17
    replace hBx := hBx.ext x17
    replace hfr := hfr.ext x17
    replace oku := oku.ext x17
    replace hfo := hfo.ext x17
    have xw17 := xw16.trans x17
    generalize w16.alloc (.cells #[.int .i64 u.kind, .int .i64 u.src, .int .i64 u.dst, .int .i64 u.term, .int .i64 u.a, .int .i64 u.b, .int .i64 u.c, .int .i64 u.bin, .bool u.ok, .slice u.A u.n u.cp] 26) = W17 at *
    clear x17 xw16
    obtain ⟨g1, hg1⟩ : ∃ g, letEq u tx = g := ⟨_, rfl⟩
    obtain ⟨g2, hg2⟩ : ∃ g, fsEq O R = g := ⟨_, rfl⟩
    have HCUT : Hid (code3 = 0 → ¬ (g1 = true ∧ g2 = true)) := Lib.hid (fun h0 h => by
      rcases hcase3 with ⟨_, hh⟩ | ⟨h1, _⟩
      · exact back_cut HIL.out hh hkb ⟨hg1.trans h.1, hg2.trans h.2⟩
      · exact h1 h0)
    have HS5 := Lib.hid (ref16_SameB u tx g1 hg1 W17 oku okx (by omega) (by omega))
    have HS6 := Lib.hid (fun (W : World) (x : Ext W17 W) => ref03_SameB AO AR nO r cO cR O R g2 hg2 W (hfo.ext x) (hfr.ext x) (by omega) (by omega))
    unfold LV.val at HS5
    clear hg1 hg2 hcase3
    have d0 := hBx.cell 0
    have d1 := hBx.cell 1
    have d2 := hBx.cell 2
    have d3 := hBx.cell 3
    have d4 := hBx.cell 4
    have d5 := hBx.cell 5
    have d6 := hBx.cell 6
    have d7 := hBx.cell 7
    have d8 := hBx.cell 8
    have d9 := hBx.cell 9
    simp only [List.getElem?_cons_zero, List.getElem?_cons_succ] at d0 d1 d2 d3 d4 d5 d6 d7 d8 d9
    have e0 := hBu.cell 0
    have e1 := hBu.cell 1
    have e2 := hBu.cell 2
    have e3 := hBu.cell 3
    have e4 := hBu.cell 4
    have e5 := hBu.cell 5
    have e6 := hBu.cell 6
    have e7 := hBu.cell 7
    have e8 := hBu.cell 8
    have e9 := hBu.cell 9
    simp only [List.getElem?_cons_zero, List.getElem?_cons_succ] at e0 e1 e2 e3 e4 e5 e6 e7 e8 e9
    go_wp2_with fail
    refine HS5.out.mono ?_
    rintro e w18 ⟨rfl, x18⟩
    have HS7 := Lib.hid (HS6.out w18 x18)
    have xw18 := xw17.trans x18
    clear HS5 HS6 hBx hBu d0 d1 d2 d3 d4 d5 d6 d7 d8 d9 e0 e1 e2 e3 e4 e5 e6 e7 e8 e9 oku okx hfo hfr x18 xw17
    go_wp2_with fail
    refine HS7.out.mono ?_
    rintro e w19 ⟨rfl, x19⟩
    have xw19 := xw18.trans x19
    clear HS7 x19 xw18
    by_cases hc3 : code3 = 0
    · have hno := HCUT.out hc3
      subst hc3
      rcases g1 with _ | _ <;> rcases g2 with _ | _
      · clear hno; go_wp2_with fail; go_ret; exact ⟨rfl, xw19⟩
      · clear hno; go_wp2_with fail; go_ret; exact ⟨rfl, xw19⟩
      · clear hno; go_wp2_with fail; go_ret; exact ⟨rfl, xw19⟩
      · exact absurd ⟨rfl, rfl⟩ hno
    · have z := beq_f (show ((code3 : Nat) : Int) ≠ 0 by omega)
      clear hc3
      go_wp2_with fail
      go_ret
      exact ⟨rfl, xw19⟩
end Go.Proofs.Ytcoaofaofmbfbaa
