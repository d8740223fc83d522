/- The walk of the law SpreadFits. (Printed by wip/tools/spfits.py.) -/
import Derived.Test.YtcdnjhcddbkciaaSpQ
import Derived.Test.YtcdnjhcddbkciaaSpR
import Derived.Test.YtcdnjhcddbkciaaSpL
import Derived.Test.YtcdnjhcddbkciaaSpE
import Derived.Test.YtcdnjhcddbkciaaElO
import Derived.BigGuardPart
namespace Go.Proofs.Ytcdnjhcddbkciaa
open Go.RowKit

theorem keptL_len (l xl : List EV) (a : Nat) : (keptL l xl a).length ≤ l.length + xl.length := by
  unfold keptL
  rw [List.length_append, List.length_take]
  have := mergeB_le l a xl
  omega
theorem takeL_nil {st xt a : Int} {l xl : List EV} (h1 : xt ≤ st) (h2 : mergeB l a xl = (0, [])) : takeL st l xt a xl = [] := by
  unfold takeL newerL cutR
  rw [h2, if_pos h1]
  simp [entR]

set_option maxRecDepth 100000 in
set_option maxHeartbeats 6400000 in
theorem law_SpreadFits (s : SV) (x1 : LV)  (w : World) (hs : s.Ok w) (hx1 : x1.Ok w)  :
    Calls Try.prog 15 #[s.val, x1.val] w fun e w' => e = .returned (.bool true) ∧ Ext w w' := by
  have hS := fun w' (h : Ext w w') => law19_stable s.floor s.term s.vote s.A s.n s.c s.l w' (hs.es.ext h) hs.le hs.cap
  have hok1 := cutL_ok (m := 70) (k := 250) hs.es.ok
  obtain ⟨hu0, hu1, hu2⟩ : I64 s.floor ∧ I64 s.term ∧ I64 s.vote := ⟨hs.u0, hs.u1, hs.u2⟩
  have HS := Lib.hid hS; clear hS
  have Hok1 := Lib.hid hok1; clear hok1
  clear hs
  obtain ⟨floor, term, vote, A, n, c, l⟩ := s
  have hL1 := fun w' (h : Ext w w') => law19_letter x1.kind x1.src x1.dst x1.term x1.a x1.b x1.c x1.bin x1.ok x1.A x1.n x1.cp x1.l w' (hx1.es.ext h) hx1.le hx1.cap
  have hokx1 := cutL_ok (m := 6) (k := 250) hx1.es.ok
  have HL1 := Lib.hid hL1; clear hL1
  have Hokx1 := Lib.hid hokx1; clear hokx1
  obtain ⟨kind1, src1, dst1, xt1, la1, lb1, lc1, bin1, ok1, B1, m1, d1, l1⟩ := x1
  unfold SV.val LV.val
  dsimp only at HS Hok1 hu0 hu1 hu2 HL1 Hokx1 ⊢
  have HV : Hid (∀ (w' : World) A' n' c' l' t', I64 t' → Es w' A' n' l' → n' ≤ c' → c' ≤ maxLen → (⟨floor, t', vote, A', n', c', l'⟩ : SV).Ok w') := Lib.hid (fun w' B' m' d' l' t' ht' h1 h2 h3 => ⟨h1, h2, h3, hu0, ht', hu2⟩)
  have HU1 : Hid (∀ (w' : World) B' m' d' l', Es w' B' m' l' → m' ≤ d' → d' ≤ maxLen → (⟨kind1, src1, dst1, xt1, la1, lb1, lc1, bin1, ok1, B', m', d', l'⟩ : LV).Ok w') := Lib.hid (fun w' B' m' d' l' h1 h2 h3 => ⟨h1, h2, h3, hx1.u0, hx1.u1, hx1.u2, hx1.u3, hx1.u4, hx1.u5, hx1.u6, hx1.u7⟩)
  clear hx1
  clear hu0 hu2
  have hB0 : Blk ((w.alloc (.cells #[.int .i64 floor, .int .i64 term, .int .i64 vote, .slice A n c] 45)).alloc (.cells #[.int .i64 kind1, .int .i64 src1, .int .i64 dst1, .int .i64 xt1, .int .i64 la1, .int .i64 lb1, .int .i64 lc1, .int .i64 bin1, .bool ok1, .slice B1 m1 d1] 47)) (w.heap.size) 45 [.int .i64 floor, .int .i64 term, .int .i64 vote, .slice A n c] := by
    have h0 := Blk.new w 45 [.int .i64 floor, .int .i64 term, .int .i64 vote, .slice A n c]
    rw [show w.heap.size = w.heap.size by simp] at h0
    exact (h0.alloc _)
  have hB1 : Blk ((w.alloc (.cells #[.int .i64 floor, .int .i64 term, .int .i64 vote, .slice A n c] 45)).alloc (.cells #[.int .i64 kind1, .int .i64 src1, .int .i64 dst1, .int .i64 xt1, .int .i64 la1, .int .i64 lb1, .int .i64 lc1, .int .i64 bin1, .bool ok1, .slice B1 m1 d1] 47)) (w.heap.size + 1) 47 [.int .i64 kind1, .int .i64 src1, .int .i64 dst1, .int .i64 xt1, .int .i64 la1, .int .i64 lb1, .int .i64 lc1, .int .i64 bin1, .bool ok1, .slice B1 m1 d1] := by
    have h0 := Blk.new (w.alloc (.cells #[.int .i64 floor, .int .i64 term, .int .i64 vote, .slice A n c] 45)) 47 [.int .i64 kind1, .int .i64 src1, .int .i64 dst1, .int .i64 xt1, .int .i64 la1, .int .i64 lb1, .int .i64 lc1, .int .i64 bin1, .bool ok1, .slice B1 m1 d1]
    rw [show (w.alloc (.cells #[.int .i64 floor, .int .i64 term, .int .i64 vote, .slice A n c] 45)).heap.size = w.heap.size + 1 by simp] at h0
    exact h0
  have hxc : Ext w ((w.alloc (.cells #[.int .i64 floor, .int .i64 term, .int .i64 vote, .slice A n c] 45)).alloc (.cells #[.int .i64 kind1, .int .i64 src1, .int .i64 dst1, .int .i64 xt1, .int .i64 la1, .int .i64 lb1, .int .i64 lc1, .int .i64 bin1, .bool ok1, .slice B1 m1 d1] 47)) := ((Ext.refl w).alloc _).alloc _
  go_enter Try.func15, Try.ntmps15
  obtain ⟨z, hz, hand⟩ := and20 term
  go_wp2_with fail
  refine (law19_shown _).mono ?_
  rintro e w1 ⟨rfl, x1⟩
  replace hB0 := hB0.ext x1
  replace hB1 := hB1.ext x1
  replace hxc := hxc.trans x1
  clear x1
  have hlt0 := hB0.lt
  have hlt1 := hB1.lt
  have q0_0 := hB0.cell 0
  have q0_1 := hB0.cell 1
  have q0_2 := hB0.cell 2
  have q0_3 := hB0.cell 3
  have q1_0 := hB1.cell 0
  have q1_1 := hB1.cell 1
  have q1_2 := hB1.cell 2
  have q1_3 := hB1.cell 3
  have q1_4 := hB1.cell 4
  have q1_5 := hB1.cell 5
  have q1_6 := hB1.cell 6
  have q1_7 := hB1.cell 7
  have q1_8 := hB1.cell 8
  have q1_9 := hB1.cell 9
  simp only [List.getElem?_cons_zero, List.getElem?_cons_succ] at q0_0 q0_1 q0_2 q0_3 q1_0 q1_1 q1_2 q1_3 q1_4 q1_5 q1_6 q1_7 q1_8 q1_9
  go_wp2_with fail
  refine (HS.out _ hxc).mono ?_
  rintro e w2 ⟨v2, rfl, hown0, x2_⟩
  clear q0_0 q0_1 q0_2 q0_3 q1_0 q1_1 q1_2 q1_3 q1_4 q1_5 q1_6 q1_7 q1_8 q1_9
  obtain ⟨A9, c9, rfl, hc9, hcm9⟩ := own_form2 hown0
  have hn9 : min 70 n ≤ 70 := by omega
  generalize min 70 n = n9 at *
  replace hB0 := hB0.ext x2_
  replace hB1 := hB1.ext x2_
  have hsz2 := x2_.size
  replace hxc := hxc.trans x2_
  clear x2_
  have q0_0 := hB0.cell 0
  have q0_1 := hB0.cell 1
  have q0_2 := hB0.cell 2
  have q0_3 := hB0.cell 3
  have q1_0 := hB1.cell 0
  have q1_1 := hB1.cell 1
  have q1_2 := hB1.cell 2
  have q1_3 := hB1.cell 3
  have q1_4 := hB1.cell 4
  have q1_5 := hB1.cell 5
  have q1_6 := hB1.cell 6
  have q1_7 := hB1.cell 7
  have q1_8 := hB1.cell 8
  have q1_9 := hB1.cell 9
  simp only [List.getElem?_cons_zero, List.getElem?_cons_succ] at q0_0 q0_1 q0_2 q0_3 q1_0 q1_1 q1_2 q1_3 q1_4 q1_5 q1_6 q1_7 q1_8 q1_9
  have f0_0 := hB0.frozen 0
  have f0_1 := hB0.frozen 1
  have f0_2 := hB0.frozen 2
  have f0_3 := hB0.frozen 3
  have f1_0 := hB1.frozen 0
  have f1_1 := hB1.frozen 1
  have f1_2 := hB1.frozen 2
  have f1_3 := hB1.frozen 3
  have f1_4 := hB1.frozen 4
  have f1_5 := hB1.frozen 5
  have f1_6 := hB1.frozen 6
  have f1_7 := hB1.frozen 7
  have f1_8 := hB1.frozen 8
  have f1_9 := hB1.frozen 9
  go_wp2_with fail
  replace hB0 := hB0.set4 (.slice A9 n9 c9)
  replace hB1 := hB1.far4 (g' := w.heap.size) (by omega) (.int .i64 floor) (.int .i64 term) (.int .i64 vote) (.slice A9 n9 c9)
  replace hxc := hxc.set4 (g := w.heap.size) (by omega) (.int .i64 floor) (.int .i64 term) (.int .i64 vote) (.slice A9 n9 c9)
  replace hown0 := own_set4 hown0 (g := w.heap.size) (by omega) (.int .i64 floor) (.int .i64 term) (.int .i64 vote) (.slice A9 n9 c9)
  clear q0_0 q0_1 q0_2 q0_3 q1_0 q1_1 q1_2 q1_3 q1_4 q1_5 q1_6 q1_7 q1_8 q1_9 f0_0 f0_1 f0_2 f0_3 f1_0 f1_1 f1_2 f1_3 f1_4 f1_5 f1_6 f1_7 f1_8 f1_9
  generalize ((((w2.setCell ⟨w.heap.size, 0, none⟩ (.int .i64 floor)).setCell ⟨w.heap.size, 1, none⟩ (.int .i64 term)).setCell ⟨w.heap.size, 2, none⟩ (.int .i64 vote)).setCell ⟨w.heap.size, 3, none⟩ (.slice A9 n9 c9)) = W2 at *
  have hlt0_2 := hB0.lt
  have hlt1_2 := hB1.lt
  have q0_0 := hB0.cell 0
  have q0_1 := hB0.cell 1
  have q0_2 := hB0.cell 2
  have q0_3 := hB0.cell 3
  have q1_0 := hB1.cell 0
  have q1_1 := hB1.cell 1
  have q1_2 := hB1.cell 2
  have q1_3 := hB1.cell 3
  have q1_4 := hB1.cell 4
  have q1_5 := hB1.cell 5
  have q1_6 := hB1.cell 6
  have q1_7 := hB1.cell 7
  have q1_8 := hB1.cell 8
  have q1_9 := hB1.cell 9
  simp only [List.getElem?_cons_zero, List.getElem?_cons_succ] at q0_0 q0_1 q0_2 q0_3 q1_0 q1_1 q1_2 q1_3 q1_4 q1_5 q1_6 q1_7 q1_8 q1_9
  go_wp2_with fail
  refine (HL1.out _ hxc).mono ?_
  rintro e w3 ⟨v3, rfl, hown1, x3_⟩
  clear q0_0 q0_1 q0_2 q0_3 q1_0 q1_1 q1_2 q1_3 q1_4 q1_5 q1_6 q1_7 q1_8 q1_9
  obtain ⟨B19, d19, rfl, hd19, hd1m9⟩ := own_form2 hown1
  have hm19 : min 6 m1 ≤ 6 := by omega
  generalize min 6 m1 = m19 at *
  replace hB0 := hB0.ext x3_
  replace hB1 := hB1.ext x3_
  replace hown0 := own_ext hown0 x3_
  have hsz3 := x3_.size
  replace hxc := hxc.trans x3_
  clear x3_
  have q0_0 := hB0.cell 0
  have q0_1 := hB0.cell 1
  have q0_2 := hB0.cell 2
  have q0_3 := hB0.cell 3
  have q1_0 := hB1.cell 0
  have q1_1 := hB1.cell 1
  have q1_2 := hB1.cell 2
  have q1_3 := hB1.cell 3
  have q1_4 := hB1.cell 4
  have q1_5 := hB1.cell 5
  have q1_6 := hB1.cell 6
  have q1_7 := hB1.cell 7
  have q1_8 := hB1.cell 8
  have q1_9 := hB1.cell 9
  simp only [List.getElem?_cons_zero, List.getElem?_cons_succ] at q0_0 q0_1 q0_2 q0_3 q1_0 q1_1 q1_2 q1_3 q1_4 q1_5 q1_6 q1_7 q1_8 q1_9
  have f0_0 := hB0.frozen 0
  have f0_1 := hB0.frozen 1
  have f0_2 := hB0.frozen 2
  have f0_3 := hB0.frozen 3
  have f1_0 := hB1.frozen 0
  have f1_1 := hB1.frozen 1
  have f1_2 := hB1.frozen 2
  have f1_3 := hB1.frozen 3
  have f1_4 := hB1.frozen 4
  have f1_5 := hB1.frozen 5
  have f1_6 := hB1.frozen 6
  have f1_7 := hB1.frozen 7
  have f1_8 := hB1.frozen 8
  have f1_9 := hB1.frozen 9
  go_upto_if 30 with fail
  replace hB0 := hB0.far10 (g' := w.heap.size + 1) (by omega) (.int .i64 kind1) (.int .i64 src1) (.int .i64 dst1) (.int .i64 xt1) (.int .i64 la1) (.int .i64 lb1) (.int .i64 lc1) (.int .i64 bin1) (.bool ok1) (.slice B19 m19 d19)
  replace hB1 := hB1.set10 (.slice B19 m19 d19)
  replace hxc := hxc.set10 (g := w.heap.size + 1) (by omega) (.int .i64 kind1) (.int .i64 src1) (.int .i64 dst1) (.int .i64 xt1) (.int .i64 la1) (.int .i64 lb1) (.int .i64 lc1) (.int .i64 bin1) (.bool ok1) (.slice B19 m19 d19)
  replace hown0 := own_set10 hown0 (g := w.heap.size + 1) (by omega) (.int .i64 kind1) (.int .i64 src1) (.int .i64 dst1) (.int .i64 xt1) (.int .i64 la1) (.int .i64 lb1) (.int .i64 lc1) (.int .i64 bin1) (.bool ok1) (.slice B19 m19 d19)
  replace hown1 := own_set10 hown1 (g := w.heap.size + 1) (by omega) (.int .i64 kind1) (.int .i64 src1) (.int .i64 dst1) (.int .i64 xt1) (.int .i64 la1) (.int .i64 lb1) (.int .i64 lc1) (.int .i64 bin1) (.bool ok1) (.slice B19 m19 d19)
  clear q0_0 q0_1 q0_2 q0_3 q1_0 q1_1 q1_2 q1_3 q1_4 q1_5 q1_6 q1_7 q1_8 q1_9 f0_0 f0_1 f0_2 f0_3 f1_0 f1_1 f1_2 f1_3 f1_4 f1_5 f1_6 f1_7 f1_8 f1_9
  generalize ((((((((((w3.setCell ⟨w.heap.size + 1, 0, none⟩ (.int .i64 kind1)).setCell ⟨w.heap.size + 1, 1, none⟩ (.int .i64 src1)).setCell ⟨w.heap.size + 1, 2, none⟩ (.int .i64 dst1)).setCell ⟨w.heap.size + 1, 3, none⟩ (.int .i64 xt1)).setCell ⟨w.heap.size + 1, 4, none⟩ (.int .i64 la1)).setCell ⟨w.heap.size + 1, 5, none⟩ (.int .i64 lb1)).setCell ⟨w.heap.size + 1, 6, none⟩ (.int .i64 lc1)).setCell ⟨w.heap.size + 1, 7, none⟩ (.int .i64 bin1)).setCell ⟨w.heap.size + 1, 8, none⟩ (.bool ok1)).setCell ⟨w.heap.size + 1, 9, none⟩ (.slice B19 m19 d19)) = W3 at *
  have hlt0_3 := hB0.lt
  have hlt1_3 := hB1.lt
  replace hB0 := hB0.set_ 1 (.int .i64 z)
  simp only [List.set_cons_succ, List.set_cons_zero] at hB0
  replace hB1 := hB1.far (p := ⟨w.heap.size, 1, none⟩) (by dsimp only; omega) (.int .i64 z)
  replace hxc := hxc.setCell (p := ⟨w.heap.size, 1, none⟩) (Nat.le_refl _) (.int .i64 z)
  replace hown0 := own_set hown0 (p := ⟨w.heap.size, 1, none⟩) (by dsimp only; omega) (.int .i64 z)
  replace hown1 := own_set hown1 (p := ⟨w.heap.size, 1, none⟩) (by dsimp only; omega) (.int .i64 z)
  generalize (W3.setCell ⟨w.heap.size, 1, none⟩ (.int .i64 z)) = W9 at *
  have HB0 := Lib.hid hB0
  have HB1 := Lib.hid hB1
  have HXC := Lib.hid hxc
  have HO0 := Lib.hid hown0
  have HO1 := Lib.hid hown1
  have k3 := hB0.cell 3
  have kf := hB0.frozen 3
  simp only [List.getElem?_cons_zero, List.getElem?_cons_succ] at k3
  clear hB0 hB1 hxc hown0 hown1
  go_cut [] (fun wx => Blk wx w.heap.size 45 [.int .i64 floor, .int .i64 z, .int .i64 vote, .slice A9 (min 60 n9) c9] ∧ Blk wx (w.heap.size + 1) 47 [.int .i64 kind1, .int .i64 src1, .int .i64 dst1, .int .i64 xt1, .int .i64 la1, .int .i64 lb1, .int .i64 lc1, .int .i64 bin1, .bool ok1, .slice B19 m19 d19] ∧ Es wx A9 (min 60 n9) ((cutL 70 250 l).take (min 60 n9)) ∧ Es wx B19 m19 (cutL 6 250 l1) ∧ Ext w wx)
  case first =>
    have hcut := own_to (own_cut HO0.out (show min 60 n9 ≤ n9 by omega)) (ys := logOf ((cutL 70 250 l).take (min 60 n9))) (Nat.le_refl _) rfl (by rw [logOf_take])
    by_cases hn : 60 < n9
    · have d1 := dec_t (show (60 : Int) < n9 by omega)
      have d2 := dec_t hn
      have hc : (60 : Int) ≤ c9 := by omega
      have hmm : min 60 n9 = 60 := by omega
      have HMM := Lib.hid hmm
      have r1 := HB0.out.set_ 3 (.slice A9 60 c9)
      simp only [List.set_cons_succ, List.set_cons_zero] at r1
      have rx := HB1.out.far (p := ⟨w.heap.size, 3, none⟩) (by dsimp only; omega) (.slice A9 60 c9)
      have r2 := own_set hcut (p := ⟨w.heap.size, 3, none⟩) (by dsimp only; omega) (.slice A9 60 c9)
      have r2x := own_set HO1.out (p := ⟨w.heap.size, 3, none⟩) (by dsimp only; omega) (.slice A9 60 c9)
      have r3 := HXC.out.setCell (p := ⟨w.heap.size, 3, none⟩) (Nat.le_refl _) (.slice A9 60 c9)
      have R1 := Lib.hid r1
      have RX := Lib.hid rx
      have R2 := Lib.hid r2
      have R2X := Lib.hid r2x
      have R3 := Lib.hid r3
      clear hmm hcut r1 rx r2 r2x r3
      go_wp2_with fail
      go_meet
      have r2 := R2.out
      rw [HMM.out] at r2 ⊢
      exact ⟨R1.out, RX.out, Es.of_own r2 (fun f hf => (Hok1.out f (List.mem_of_mem_take hf)).ext R3.out), Es.of_own R2X.out (fun f hf => (Hokx1.out f hf).ext R3.out), R3.out⟩
    · have d1 := dec_f (show ¬ (60 : Int) < n9 by omega)
      have d2 := dec_f hn
      have hmm : min 60 n9 = n9 := by omega
      have HMM := Lib.hid hmm
      have HCUT := Lib.hid hcut
      clear hmm hcut
      go_wp2_with fail
      go_meet
      have r2 := HCUT.out
      rw [HMM.out] at r2 ⊢
      exact ⟨HB0.out, HB1.out, Es.of_own r2 (fun f hf => (Hok1.out f (List.mem_of_mem_take hf)).ext HXC.out), Es.of_own HO1.out (fun f hf => (Hokx1.out f hf).ext HXC.out), HXC.out⟩
  case rest =>
    obtain ⟨hB0, hB1, hes, hex, hxc⟩ := hcut
    obtain ⟨W1, rfl⟩ : ∃ W1, W1 = wc := ⟨_, rfl⟩
    have hn60 : min 60 n9 ≤ 60 := by omega
    have hnc : min 60 n9 ≤ c9 := by omega
    have hOS := HV.out W1 A9 (min 60 n9) c9 ((cutL 70 250 l).take (min 60 n9)) z ⟨by omega, by omega⟩ hes hnc hcm9
    have hOX := HU1.out W1 B19 m19 d19 (cutL 6 250 l1) hex hd19 hd1m9
    clear HB0 HB1 HXC HO0 HO1 k3 kf HV HU1 Hok1 Hokx1 HS HL1
    generalize ((cutL 70 250 l).take (min 60 n9)) = L at *
    generalize (cutL 6 250 l1) = Lx at *
    generalize min 60 n9 = n at *
    have HC : Hid (∀ (V : World), Ext W1 V → Blk V w.heap.size 45 [.int .i64 floor, .int .i64 z, .int .i64 vote, .slice A9 n c9] ∧ Blk V (w.heap.size + 1) 47 [.int .i64 kind1, .int .i64 src1, .int .i64 dst1, .int .i64 xt1, .int .i64 la1, .int .i64 lb1, .int .i64 lc1, .int .i64 bin1, .bool ok1, .slice B19 m19 d19]) := Lib.hid fun V h => ⟨hB0.ext h, hB1.ext h⟩
    have hmx : m19 ≤ 6 := hm19
    have HBad := Lib.hid (fun hb => take_bad ⟨floor, (z : Int), vote, A9, n, c9, L⟩ ⟨kind1, src1, dst1, xt1, la1, lb1, lc1, bin1, ok1, B19, m19, d19, Lx⟩ W1 hOS hOX (by dsimp only; omega) (by dsimp only; omega) hb)
    have HAll := Lib.hid (fun hmay hk h64 => take_all ⟨floor, (z : Int), vote, A9, n, c9, L⟩ ⟨kind1, src1, dst1, xt1, la1, lb1, lc1, bin1, ok1, B19, m19, d19, Lx⟩ W1 hOS hOX (by dsimp only; omega) (by dsimp only; omega) hmay hk h64)
    have HXOk : Hid (∀ (V : World), Ext W1 V → (⟨kind1, src1, dst1, xt1, la1, lb1, lc1, bin1, ok1, B19, m19, d19, Lx⟩ : LV).Ok V) := Lib.hid fun V h => hOX.ext h
    have HES := Lib.hid hes
    have HEX := Lib.hid hex
    have HU := Lib.hid hOS.u0
    have hLn := hes.len
    have hLxn := hex.len
    unfold SV.val LV.val at HBad HAll
    dsimp only at HBad HAll
    clear hOS hOX hes hex hB0 hB1
    obtain ⟨hb0, hb1⟩ := HC.out _ (Ext.refl W1)
    have s0 := hb0.cell 0
    have s1 := hb0.cell 1
    have s2 := hb0.cell 2
    have s3 := hb0.cell 3
    simp only [List.getElem?_cons_zero, List.getElem?_cons_succ] at s0 s1 s2 s3
    have x0' := hb1.cell 0
    have x1' := hb1.cell 1
    have x2' := hb1.cell 2
    have x3' := hb1.cell 3
    have x4' := hb1.cell 4
    have x5' := hb1.cell 5
    have x6' := hb1.cell 6
    have x7' := hb1.cell 7
    have x8' := hb1.cell 8
    have x9' := hb1.cell 9
    simp only [List.getElem?_cons_zero, List.getElem?_cons_succ] at x0' x1' x2' x3' x4' x5' x6' x7' x8' x9'
    clear hb0 hb1
    by_cases hbad : mayB ⟨kind1, src1, dst1, xt1, la1, lb1, lc1, bin1, ok1, B19, m19, d19, Lx⟩ = false ∨ kind1 ≠ 3 ∨ 64 < la1 + m19
    · as_aux_lemma =>
        have P := Lib.hid (HBad.out hbad)
        clear HBad HAll hbad
        go_wp2_with fail
        refine P.out.mono ?_
        rintro e w2 ⟨rfl, x2⟩
        clear P s0 s1 s2 s3 x0' x1' x2' x3' x4' x5' x6' x7' x8' x9'
        go_wp2_with fail
        go_ret
        exact ⟨rfl, hxc.trans x2⟩
    · as_aux_lemma =>
        have hmay : mayB ⟨kind1, src1, dst1, xt1, la1, lb1, lc1, bin1, ok1, B19, m19, d19, Lx⟩ = true := by
          cases h : mayB ⟨kind1, src1, dst1, xt1, la1, lb1, lc1, bin1, ok1, B19, m19, d19, Lx⟩ with
          | true => rfl
          | false => exact absurd (.inl h) hbad
        have hk : kind1 = 3 := by
          by_cases h : kind1 = 3
          · exact h
          · exact absurd (.inr (.inl h)) hbad
        have h64 : la1 + m19 ≤ 64 := by
          by_cases h : 64 < la1 + m19
          · exact absurd (.inr (.inr h)) hbad
          · omega
        have HM := Lib.hid hmay
        have HK := Lib.hid hk
        have P := Lib.hid (HAll.out hmay hk h64)
        clear HBad HAll hbad hmay hk
        go_wp2_with fail
        refine P.out.mono ?_
        rintro e w2 ⟨R, q, rc, recs, ok, k, V, rfl, hRs, hq, hrun, hV, hcs, x2⟩
        dsimp only at hcs
        have hsteps := ref18_Steps_R floor z vote A9 n c9 L R q rc recs _ (show RunR ⟨floor, (z : Int), vote, L.map EV.p⟩ recs ⟨floor, max (z : Int) xt1, V, (if ok = true then keptL L Lx la1.toNat else L).map EV.p⟩ from hrun) w2 (HES.out.ext x2) hnc hcm9 (by omega) hRs hq
        have HST := Lib.hid hsteps
        have HV := Lib.hid hV
        clear P s0 s1 s2 s3 x0' x1' x2' x3' x4' x5' x6' x7' x8' x9' hRs hrun hsteps hV
        obtain ⟨hb0, hb1⟩ := HC.out _ x2
        have s0 := hb0.cell 0
        have s1 := hb0.cell 1
        have s2 := hb0.cell 2
        have s3 := hb0.cell 3
        simp only [List.getElem?_cons_zero, List.getElem?_cons_succ] at s0 s1 s2 s3
        have x0' := hb1.cell 0
        have x1' := hb1.cell 1
        have x2' := hb1.cell 2
        have x3' := hb1.cell 3
        have x4' := hb1.cell 4
        have x5' := hb1.cell 5
        have x6' := hb1.cell 6
        have x7' := hb1.cell 7
        have x8' := hb1.cell 8
        have x9' := hb1.cell 9
        simp only [List.getElem?_cons_zero, List.getElem?_cons_succ] at x0' x1' x2' x3' x4' x5' x6' x7' x8' x9'
        clear hb0 hb1
        go_wp2_with fail
        refine HST.out.mono ?_
        rintro e w3 ⟨A3, n3, c3, l3, rfl, he3, hnc3, hcm3, hmap3, hn3, x3⟩
        dsimp only at hmap3
        clear HST s0 s1 s2 s3 x0' x1' x2' x3' x4' x5' x6' x7' x8' x9'
        dsimp only
        go_upto_region 11 with fail
        have BT := Blk.new w3 45 [.int .i64 floor, .int .i64 (max (z : Int) xt1), .int .i64 V, .slice A3 n3 c3]
        have xa : Ext w3 (w3.alloc (.cells #[.int .i64 floor, .int .i64 (max (z : Int) xt1), .int .i64 V, .slice A3 n3 c3] 45)) := (Ext.refl w3).alloc _
        have x4 := (x2.trans x3).trans xa
        have he4 := he3.ext xa
        have hlen3 := he3.len
        generalize w3.heap.size = gt at BT ⊢
        generalize w3.alloc (.cells #[.int .i64 floor, .int .i64 (max (z : Int) xt1), .int .i64 V, .slice A3 n3 c3] 45) = W4 at *
        have HX4 := Lib.hid x4
        have HE4 := Lib.hid he4
        have HMAP := Lib.hid hmap3
        have HBT := Lib.hid BT
        clear x2 x3 xa x4 he4 he3 hmap3 BT
        have HC4 : Hid (∀ (V' : World), Ext W4 V' → Blk V' w.heap.size 45 [.int .i64 floor, .int .i64 z, .int .i64 vote, .slice A9 n c9] ∧ Blk V' (w.heap.size + 1) 47 [.int .i64 kind1, .int .i64 src1, .int .i64 dst1, .int .i64 xt1, .int .i64 la1, .int .i64 lb1, .int .i64 lc1, .int .i64 bin1, .bool ok1, .slice B19 m19 d19] ∧ Blk V' gt 45 [.int .i64 floor, .int .i64 (max (z : Int) xt1), .int .i64 V, .slice A3 n3 c3]) := Lib.hid fun V' h => ⟨(HC.out _ (HX4.out.trans h)).1, (HC.out _ (HX4.out.trans h)).2, HBT.out.ext h⟩
        obtain ⟨hb0, hb1, hbt⟩ := HC4.out _ (Ext.refl W4)
        have s0 := hb0.cell 0
        have s1 := hb0.cell 1
        have s2 := hb0.cell 2
        have s3 := hb0.cell 3
        simp only [List.getElem?_cons_zero, List.getElem?_cons_succ] at s0 s1 s2 s3
        have x0' := hb1.cell 0
        have x1' := hb1.cell 1
        have x2' := hb1.cell 2
        have x3' := hb1.cell 3
        have x4' := hb1.cell 4
        have x5' := hb1.cell 5
        have x6' := hb1.cell 6
        have x7' := hb1.cell 7
        have x8' := hb1.cell 8
        have x9' := hb1.cell 9
        simp only [List.getElem?_cons_zero, List.getElem?_cons_succ] at x0' x1' x2' x3' x4' x5' x6' x7' x8' x9'
        have t0 := hbt.cell 0
        have t1 := hbt.cell 1
        have t2 := hbt.cell 2
        have t3 := hbt.cell 3
        simp only [List.getElem?_cons_zero, List.getElem?_cons_succ] at t0 t1 t2 t3
        clear hb0 hb1 hbt
        rcases hcs with ⟨rfl, rfl⟩ | ⟨rfl, rfl, hlow, hmt, ha0, han⟩
        · as_aux_lemma =>
            have hp : l3.map EV.p = L.map EV.p := by have := HMAP.out; simpa using this
            have hnn : n3 = n := by have := congrArg List.length hp; simp at this; omega
            subst hnn
            have HSL := Lib.hid (ref11_SameLog A3 A9 n3 c3 c9 l3 L W4 HE4.out (HES.out.ext HX4.out) hp (by omega))
            clear hp
            go_wp2_with fail
            refine HSL.out.mono ?_
            rintro e w5 ⟨rfl, x5⟩
            clear HSL s0 s1 s2 s3 x0' x1' x2' x3' x4' x5' x6' x7' x8' x9' t0 t1 t2 t3
            go_wp2_with fail
            go_ret
            exact ⟨rfl, hxc.trans (HX4.out.trans x5)⟩
        · as_aux_lemma =>
            obtain ⟨a, rfl⟩ := Int.eq_ofNat_of_zero_le ha0
            have hal : a ≤ L.length := by omega
            obtain ⟨f1, f2, f3, f4, f5⟩ := kept_facts L Lx l3 a hal (by have := HMAP.out; simpa using this)
            have hT : max (z : Int) xt1 = xt1 := by omega
            obtain ⟨ht1, ht2, _⟩ := may_parts HM.out
            dsimp only at ht1 ht2
            have HSL := Lib.hid (fun (V' : World) (h : Ext W4 V') => ref11_SameLog A3 A9 a c3 c9 (l3.take a) (L.take a) V' ((HE4.out.ext h).upto (by omega)) ((HES.out.ext (HX4.out.trans h)).upto (by omega)) f2 (by omega))
            have hmn3 : min (a : Int) n3 = a := by omega
            have hmn9 : min (a : Int) n = a := by omega
            have b0 : (0 : Int) ≤ a := by omega
            have b1 : (a : Int) ≤ c3 := by omega
            have b2 : (a : Int) ≤ c9 := by omega
            have HS5 : Hid (∀ (V' : World), Ext W4 V' → (V'.cell? ⟨gt, 3, none⟩ = some (.slice A3 n3 c3) ∧ V'.cell? ⟨w.heap.size + 1, 4, none⟩ = some (.int .i64 a) ∧ V'.cell? ⟨w.heap.size, 3, none⟩ = some (.slice A9 n c9))) := Lib.hid fun V' h => ⟨(HC4.out _ h).2.2.cell 3, (HC4.out _ h).2.1.cell 4, (HC4.out _ h).1.cell 3⟩
            have y0 : Ext W4 W4.drew := (Ext.refl W4).drew
            have HF3 := Lib.hid f3
            have HF4 := Lib.hid f4
            have HF5 := Lib.hid f5
            have HMT := Lib.hid hmt
            have HTT := Lib.hid hT
            have HLW := Lib.hid hlow
            clear f2 f3 f4 f5 hmt ha0 hT
            go_upto_region 15 with fail
            clear s0 s1 s2 s3 x0' x1' x2' x3' x4' x5' x6' x7' x8' x9' t0 t1 t2 t3 hlow
            go_cut [12] (fun v wx => v = .bool true ∧ Ext W4 wx)
            case first =>
              go_region_held3 (fun V' => V'.cell? ⟨gt, 3, none⟩ = some (.slice A3 n3 c3) ∧ V'.cell? ⟨w.heap.size + 1, 4, none⟩ = some (.int .i64 a) ∧ V'.cell? ⟨w.heap.size, 3, none⟩ = some (.slice A9 n c9))
                (first | (exact HS5.out _ y1) | (exact HS5.out _ y0) | (exact HS5.out _ (Ext.refl W4)) | go_keep)
                (first | (go_at_call 23; refine (HSL.out _ y0).mono ?_; rintro e w5 ⟨rfl, y1'⟩; have y1 := y0.trans y1'))
              all_goals
                have HY := Lib.hid y1
                clear y0 y1'
                go_wp2_with fail
                go_meet
                exact ⟨rfl, HY.out⟩
            case rest =>
              obtain ⟨rfl, y1⟩ := hcut
              obtain ⟨w5, rfl⟩ : ∃ w5, w5 = wc := ⟨_, rfl⟩
              obtain ⟨hb0, hb1, hbt⟩ := HC4.out _ y1
              have s0 := hb0.cell 0
              have s1 := hb0.cell 1
              have s2 := hb0.cell 2
              have s3 := hb0.cell 3
              simp only [List.getElem?_cons_zero, List.getElem?_cons_succ] at s0 s1 s2 s3
              have x0' := hb1.cell 0
              have x1' := hb1.cell 1
              have x2' := hb1.cell 2
              have x3' := hb1.cell 3
              have x4' := hb1.cell 4
              have x5' := hb1.cell 5
              have x6' := hb1.cell 6
              have x7' := hb1.cell 7
              have x8' := hb1.cell 8
              have x9' := hb1.cell 9
              simp only [List.getElem?_cons_zero, List.getElem?_cons_succ] at x0' x1' x2' x3' x4' x5' x6' x7' x8' x9'
              have t0 := hbt.cell 0
              have t1 := hbt.cell 1
              have t2 := hbt.cell 2
              have t3 := hbt.cell 3
              simp only [List.getElem?_cons_zero, List.getElem?_cons_succ] at t0 t1 t2 t3
              clear hb0 hb1 hbt hmn3 hmn9 b1 b2 HSL HS5
              have HY := Lib.hid y1
              have hwn : IntKind.i64.wrap ((a : Int) + m19) = (a : Int) + m19 := IntWalk.i64_in _ ⟨by omega, by omega⟩
              have g1 := dec_f (show ¬ ((n3 : Int) < (a : Int) + m19) by omega)
              have g2 := dec_f (show ¬ (xt1 < (z : Int)) by have := HLW.out; omega)
              clear y0
              go_wp2_with fail
              go_loopw [13] (fun i wr => ∃ j : Nat, i = .int .i64 j ∧ j ≤ m19 ∧ Ext W4 wr) (fun i _ => m19 - (intOf i).toNat)
              case atStart => exact ⟨0, rfl, by omega, HY.out⟩
              case round =>
                clear s0 s1 s2 s3 x0' x1' x2' x3' x4' x5' x6' x7' x8' x9' t0 t1 t2 t3 y1 HY hwn g1 g2
                obtain ⟨j, rfl, hj, hy⟩ := hrel
                obtain ⟨w8, rfl⟩ : ∃ w8, w8 = wr := ⟨_, rfl⟩
                obtain ⟨hb0, hb1, hbt⟩ := HC4.out _ hy
                have s0 := hb0.cell 0
                have s1 := hb0.cell 1
                have s2 := hb0.cell 2
                have s3 := hb0.cell 3
                simp only [List.getElem?_cons_zero, List.getElem?_cons_succ] at s0 s1 s2 s3
                have x0' := hb1.cell 0
                have x1' := hb1.cell 1
                have x2' := hb1.cell 2
                have x3' := hb1.cell 3
                have x4' := hb1.cell 4
                have x5' := hb1.cell 5
                have x6' := hb1.cell 6
                have x7' := hb1.cell 7
                have x8' := hb1.cell 8
                have x9' := hb1.cell 9
                simp only [List.getElem?_cons_zero, List.getElem?_cons_succ] at x0' x1' x2' x3' x4' x5' x6' x7' x8' x9'
                have t0 := hbt.cell 0
                have t1 := hbt.cell 1
                have t2 := hbt.cell 2
                have t3 := hbt.cell 3
                simp only [List.getElem?_cons_zero, List.getElem?_cons_succ] at t0 t1 t2 t3
                clear hb0 hb1 hbt
                by_cases hjm : j < m19
                · as_aux_lemma =>
                    have hj0 : (0 : Int) ≤ j := by omega
                    have hj1 : (j : Int) < m19 := by omega
                    have hl1 : a + j < l3.length := by omega
                    have hl2 : j < Lx.length := by omega
                    obtain ⟨b, off, hA3, e0, r1⟩ := (HE4.out.ext hy).at_ (i := a + j) (by omega)
                    obtain ⟨bx, offx, hB, q0, r2⟩ := (HEX.out.ext (HX4.out.trans hy)).at_ (i := j) (by omega)
                    have hte : l3[a + j].term = Lx[j].term := by have := HF3.out j hl2; rw [tm_at hl1, tm_at hl2] at this; exact this
                    rw [hte] at e0
                    generalize Lx[j].term = te at *
                    have hw : IntKind.i64.wrap ((a : Int) + j) = ((a + j : Nat) : Int) := by rw [IntWalk.i64_in _ ⟨by omega, by omega⟩]; omega
                    have hi0 : (0 : Int) ≤ ((a + j : Nat) : Int) := by omega
                    have hi1 : ((a + j : Nat) : Int) < n3 := by omega
                    rw [hA3] at t3
                    rw [hB] at x9'
                    have HY8 := Lib.hid hy
                    have hw3 : IntKind.i64.wrap ((j : Int) + 1) = ((j + 1 : Nat) : Int) := by rw [IntWalk.i64_in _ ⟨by omega, by omega⟩]; omega
                    clear r1 r2 hte hl1 hl2 f1 hA3 hB
                    go_upto_region 21 with fail
                    go_quiet (fail)
                    go_wp2_with fail
                    go_roundw
                    case rel => exact ⟨j + 1, by first | rfl | exact val_int (by omega), by omega, HY8.out.drewN _⟩
                    case measure => simp [intOf]; omega
                · as_aux_lemma =>
                    have hj1 : ¬ ((j : Int) < m19) := by omega
                    have hTok : (⟨floor, max (z : Int) xt1, V, A3, n3, c3, l3⟩ : SV).Ok w8 := ⟨HE4.out.ext hy, hnc3, hcm3, HU.out, (show I64 (max (z : Int) xt1) by rw [HTT.out]; exact ⟨by omega, by omega⟩), HV.out⟩
                    have hty := take_yes ⟨floor, max (z : Int) xt1, V, A3, n3, c3, l3⟩ ⟨kind1, src1, dst1, xt1, (a : Int), lb1, lc1, bin1, ok1, B19, m19, d19, Lx⟩ w8 hTok (HXOk.out _ (HX4.out.trans hy)) (by dsimp only; omega) (by dsimp only; omega) HM.out HK.out (by dsimp only; omega) (by dsimp only; rw [HTT.out]; omega) (by dsimp only; rw [HF5.out]; exact HMT.out)
                    dsimp only at hty
                    rw [takeL_nil (by omega) HF4.out] at hty
                    unfold SV.val LV.val at hty
                    dsimp only at hty
                    have HTY := Lib.hid hty
                    have HHY := Lib.hid hy
                    clear hty hTok hy
                    go_wp2_with fail
                    refine HTY.out.mono ?_
                    rintro e w9 ⟨v9, rfl, hown9, x9⟩
                    obtain ⟨A8, c8, rfl, _⟩ := own_form hown9
                    clear HTY hown9 s0 s1 s2 s3 x0' x1' x2' x3' x4' x5' x6' x7' x8' x9' t0 t1 t2 t3
                    go_wp2_with fail
                    go_ret
                    exact ⟨rfl, hxc.trans (HX4.out.trans (HHY.out.trans x9))⟩
end Go.Proofs.Ytcdnjhcddbkciaa
