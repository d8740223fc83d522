/- The walk of the law ElectOnce. -/
import Derived.Test.YtcdnjhcddbkciaaElM
namespace Go.Proofs.Ytcdnjhcddbkciaa
open Go.RowKit

/-- who gave its vote, and noted that, gives it again -/
theorem answer_again (s t : SV) (x : LV) (L : List RV) (k : Nat) (h : answerL s x = (L, true, k)) (hl : t.l = s.l) (ht : t.term = x.term) (hv : t.vote = x.src + 1) : answerL t x = ([], true, 0) := by
  unfold answerL at h ⊢
  by_cases c1 : mayB x = false ∨ x.kind ≠ 1
  · rw [if_pos c1] at h; cases h
  · rw [if_neg c1] at h ⊢
    by_cases c2 : (freshB s.l x.a x.b && freeB s x) = true
    · have hf : freshB t.l x.a x.b = true := by rw [hl]; simp only [Bool.and_eq_true] at c2; exact c2.1
      have hfree : freeB t x = true := by simp [freeB, ht, hv]
      rw [if_pos (by rw [hf, hfree]; rfl), if_pos ⟨ht.symm, hv⟩]
    · rw [if_neg c2] at h; cases h
/-- .. and to no other one -/
theorem answer_once (t : SV) (y : LV) (xt src : Int) (ht : t.term = xt) (hv : t.vote = src + 1) (h0 : 0 ≤ src) : answerL t y = ([], false, 1) ∨ answerL t y = ([], false, 0) ∨
    (∃ L g, answerL t y = (L, g, 0) ∧ ((y.term = xt ∧ y.src = src) ∨ xt < y.term)) := by
  rcases answer_cases t y with ⟨_, h⟩ | ⟨_, _, h⟩ | ⟨_, _, _, _, h⟩
  · exact .inl h
  · exact .inl h
  · rcases h with ⟨a, h⟩ | ⟨a, b, c, h⟩ | ⟨a, b, c, h⟩ | ⟨a, b, c, h⟩ | ⟨a, b, c, h⟩ | ⟨a, b, c, h⟩ | ⟨a, c, h⟩ | ⟨a, c, h⟩
    · exact .inr (.inl h)
    · exact absurd b (by omega)
    · exact absurd b (by omega)
    · exact .inr (.inr ⟨_, _, h, .inl ⟨by omega, by omega⟩⟩)
    · exact .inr (.inl h)
    · exact .inr (.inl h)
    · exact .inr (.inr ⟨_, _, h, .inr (by omega)⟩)
    · exact .inr (.inr ⟨_, _, h, .inr (by omega)⟩)

set_option maxRecDepth 100000 in
set_option maxHeartbeats 6400000 in
theorem law_ElectOnce (s : SV) (x1 : LV) (x2 : LV)  (w : World) (hs : s.Ok w) (hx1 : x1.Ok w) (hx2 : x2.Ok w)  :
    Calls Try.prog 10 #[s.val, x1.val, x2.val] w fun e w' => e = .returned (.bool true) ∧ Ext w w' := by
  have hS := fun w' (h : Ext w w') => law18_stable s.floor s.term s.vote s.A s.n s.c s.l w' (hs.es.ext h) hs.le hs.cap
  have hok1 := cutL_ok (m := 70) (k := 250) hs.es.ok
  obtain ⟨hu0, hu1, hu2⟩ : I64 s.floor ∧ I64 s.term ∧ I64 s.vote := ⟨hs.u0, hs.u1, hs.u2⟩
  have HS := Lib.hid hS; clear hS
  have Hok1 := Lib.hid hok1; clear hok1
  clear hs
  obtain ⟨floor, term, vote, A, n, c, l⟩ := s
  have hL1 := fun w' (h : Ext w w') => law18_letter x1.kind x1.src x1.dst x1.term x1.a x1.b x1.c x1.bin x1.ok x1.A x1.n x1.cp x1.l w' (hx1.es.ext h) hx1.le hx1.cap
  have hokx1 := cutL_ok (m := 6) (k := 250) hx1.es.ok
  have HL1 := Lib.hid hL1; clear hL1
  have Hokx1 := Lib.hid hokx1; clear hokx1
  obtain ⟨kind1, src1, dst1, xt1, la1, lb1, lc1, bin1, ok1, B1, m1, d1, l1⟩ := x1
  have hL2 := fun w' (h : Ext w w') => law18_letter x2.kind x2.src x2.dst x2.term x2.a x2.b x2.c x2.bin x2.ok x2.A x2.n x2.cp x2.l w' (hx2.es.ext h) hx2.le hx2.cap
  have hokx2 := cutL_ok (m := 6) (k := 250) hx2.es.ok
  have HL2 := Lib.hid hL2; clear hL2
  have Hokx2 := Lib.hid hokx2; clear hokx2
  obtain ⟨kind2, src2, dst2, xt2, la2, lb2, lc2, bin2, ok2, B2, m2, d2, l2⟩ := x2
  unfold SV.val LV.val
  dsimp only at HS Hok1 hu0 hu1 hu2 HL1 Hokx1 HL2 Hokx2 ⊢
  have HV : Hid (∀ (w' : World) A' n' c' l' t', I64 t' → Es w' A' n' l' → n' ≤ c' → c' ≤ maxLen → (⟨floor, t', vote, A', n', c', l'⟩ : SV).Ok w') := Lib.hid (fun w' B' m' d' l' t' ht' h1 h2 h3 => ⟨h1, h2, h3, hu0, ht', hu2⟩)
  have HU1 : Hid (∀ (w' : World) B' m' d' l', Es w' B' m' l' → m' ≤ d' → d' ≤ maxLen → (⟨kind1, src1, dst1, xt1, la1, lb1, lc1, bin1, ok1, B', m', d', l'⟩ : LV).Ok w') := Lib.hid (fun w' B' m' d' l' h1 h2 h3 => ⟨h1, h2, h3, hx1.u0, hx1.u1, hx1.u2, hx1.u3, hx1.u4, hx1.u5, hx1.u6, hx1.u7⟩)
  clear hx1
  have HU2 : Hid (∀ (w' : World) B' m' d' l', Es w' B' m' l' → m' ≤ d' → d' ≤ maxLen → (⟨kind2, src2, dst2, xt2, la2, lb2, lc2, bin2, ok2, B', m', d', l'⟩ : LV).Ok w') := Lib.hid (fun w' B' m' d' l' h1 h2 h3 => ⟨h1, h2, h3, hx2.u0, hx2.u1, hx2.u2, hx2.u3, hx2.u4, hx2.u5, hx2.u6, hx2.u7⟩)
  clear hx2
  clear hu0 hu2
  have hB0 : Blk (((w.alloc (.cells #[.int .i64 floor, .int .i64 term, .int .i64 vote, .slice A n c] 45)).alloc (.cells #[.int .i64 kind1, .int .i64 src1, .int .i64 dst1, .int .i64 xt1, .int .i64 la1, .int .i64 lb1, .int .i64 lc1, .int .i64 bin1, .bool ok1, .slice B1 m1 d1] 47)).alloc (.cells #[.int .i64 kind2, .int .i64 src2, .int .i64 dst2, .int .i64 xt2, .int .i64 la2, .int .i64 lb2, .int .i64 lc2, .int .i64 bin2, .bool ok2, .slice B2 m2 d2] 47)) (w.heap.size) 45 [.int .i64 floor, .int .i64 term, .int .i64 vote, .slice A n c] := by
    have h0 := Blk.new w 45 [.int .i64 floor, .int .i64 term, .int .i64 vote, .slice A n c]
    rw [show w.heap.size = w.heap.size by simp] at h0
    exact ((h0.alloc _).alloc _)
  have hB1 : Blk (((w.alloc (.cells #[.int .i64 floor, .int .i64 term, .int .i64 vote, .slice A n c] 45)).alloc (.cells #[.int .i64 kind1, .int .i64 src1, .int .i64 dst1, .int .i64 xt1, .int .i64 la1, .int .i64 lb1, .int .i64 lc1, .int .i64 bin1, .bool ok1, .slice B1 m1 d1] 47)).alloc (.cells #[.int .i64 kind2, .int .i64 src2, .int .i64 dst2, .int .i64 xt2, .int .i64 la2, .int .i64 lb2, .int .i64 lc2, .int .i64 bin2, .bool ok2, .slice B2 m2 d2] 47)) (w.heap.size + 1) 47 [.int .i64 kind1, .int .i64 src1, .int .i64 dst1, .int .i64 xt1, .int .i64 la1, .int .i64 lb1, .int .i64 lc1, .int .i64 bin1, .bool ok1, .slice B1 m1 d1] := by
    have h0 := Blk.new (w.alloc (.cells #[.int .i64 floor, .int .i64 term, .int .i64 vote, .slice A n c] 45)) 47 [.int .i64 kind1, .int .i64 src1, .int .i64 dst1, .int .i64 xt1, .int .i64 la1, .int .i64 lb1, .int .i64 lc1, .int .i64 bin1, .bool ok1, .slice B1 m1 d1]
    rw [show (w.alloc (.cells #[.int .i64 floor, .int .i64 term, .int .i64 vote, .slice A n c] 45)).heap.size = w.heap.size + 1 by simp] at h0
    exact (h0.alloc _)
  have hB2 : Blk (((w.alloc (.cells #[.int .i64 floor, .int .i64 term, .int .i64 vote, .slice A n c] 45)).alloc (.cells #[.int .i64 kind1, .int .i64 src1, .int .i64 dst1, .int .i64 xt1, .int .i64 la1, .int .i64 lb1, .int .i64 lc1, .int .i64 bin1, .bool ok1, .slice B1 m1 d1] 47)).alloc (.cells #[.int .i64 kind2, .int .i64 src2, .int .i64 dst2, .int .i64 xt2, .int .i64 la2, .int .i64 lb2, .int .i64 lc2, .int .i64 bin2, .bool ok2, .slice B2 m2 d2] 47)) (w.heap.size + 1 + 1) 47 [.int .i64 kind2, .int .i64 src2, .int .i64 dst2, .int .i64 xt2, .int .i64 la2, .int .i64 lb2, .int .i64 lc2, .int .i64 bin2, .bool ok2, .slice B2 m2 d2] := by
    have h0 := Blk.new ((w.alloc (.cells #[.int .i64 floor, .int .i64 term, .int .i64 vote, .slice A n c] 45)).alloc (.cells #[.int .i64 kind1, .int .i64 src1, .int .i64 dst1, .int .i64 xt1, .int .i64 la1, .int .i64 lb1, .int .i64 lc1, .int .i64 bin1, .bool ok1, .slice B1 m1 d1] 47)) 47 [.int .i64 kind2, .int .i64 src2, .int .i64 dst2, .int .i64 xt2, .int .i64 la2, .int .i64 lb2, .int .i64 lc2, .int .i64 bin2, .bool ok2, .slice B2 m2 d2]
    rw [show ((w.alloc (.cells #[.int .i64 floor, .int .i64 term, .int .i64 vote, .slice A n c] 45)).alloc (.cells #[.int .i64 kind1, .int .i64 src1, .int .i64 dst1, .int .i64 xt1, .int .i64 la1, .int .i64 lb1, .int .i64 lc1, .int .i64 bin1, .bool ok1, .slice B1 m1 d1] 47)).heap.size = w.heap.size + 1 + 1 by simp] at h0
    exact h0
  have hxc : Ext w (((w.alloc (.cells #[.int .i64 floor, .int .i64 term, .int .i64 vote, .slice A n c] 45)).alloc (.cells #[.int .i64 kind1, .int .i64 src1, .int .i64 dst1, .int .i64 xt1, .int .i64 la1, .int .i64 lb1, .int .i64 lc1, .int .i64 bin1, .bool ok1, .slice B1 m1 d1] 47)).alloc (.cells #[.int .i64 kind2, .int .i64 src2, .int .i64 dst2, .int .i64 xt2, .int .i64 la2, .int .i64 lb2, .int .i64 lc2, .int .i64 bin2, .bool ok2, .slice B2 m2 d2] 47)) := (((Ext.refl w).alloc _).alloc _).alloc _
  go_enter Try.func10, Try.ntmps10
  obtain ⟨z, hz, hand⟩ := and_term term
  go_wp2_with fail
  refine (law18_shown _).mono ?_
  rintro e w1 ⟨rfl, x1⟩
  replace hB0 := hB0.ext x1
  replace hB1 := hB1.ext x1
  replace hB2 := hB2.ext x1
  replace hxc := hxc.trans x1
  clear x1
  have hlt0 := hB0.lt
  have hlt1 := hB1.lt
  have hlt2 := hB2.lt
  have q0_0 := hB0.cell 0
  have q0_1 := hB0.cell 1
  have q0_2 := hB0.cell 2
  have q0_3 := hB0.cell 3
  have q1_0 := hB1.cell 0
  have q1_1 := hB1.cell 1
  have q1_2 := hB1.cell 2
  have q1_3 := hB1.cell 3
  have q1_4 := hB1.cell 4
  have q1_5 := hB1.cell 5
  have q1_6 := hB1.cell 6
  have q1_7 := hB1.cell 7
  have q1_8 := hB1.cell 8
  have q1_9 := hB1.cell 9
  have q2_0 := hB2.cell 0
  have q2_1 := hB2.cell 1
  have q2_2 := hB2.cell 2
  have q2_3 := hB2.cell 3
  have q2_4 := hB2.cell 4
  have q2_5 := hB2.cell 5
  have q2_6 := hB2.cell 6
  have q2_7 := hB2.cell 7
  have q2_8 := hB2.cell 8
  have q2_9 := hB2.cell 9
  simp only [List.getElem?_cons_zero, List.getElem?_cons_succ] at q0_0 q0_1 q0_2 q0_3 q1_0 q1_1 q1_2 q1_3 q1_4 q1_5 q1_6 q1_7 q1_8 q1_9 q2_0 q2_1 q2_2 q2_3 q2_4 q2_5 q2_6 q2_7 q2_8 q2_9
  go_wp2_with fail
  refine (HS.out _ hxc).mono ?_
  rintro e w2 ⟨v2, rfl, hown0, x2_⟩
  clear q0_0 q0_1 q0_2 q0_3 q1_0 q1_1 q1_2 q1_3 q1_4 q1_5 q1_6 q1_7 q1_8 q1_9 q2_0 q2_1 q2_2 q2_3 q2_4 q2_5 q2_6 q2_7 q2_8 q2_9
  obtain ⟨A9, c9, rfl, hc9, hcm9⟩ := own_form2 hown0
  have hn9 : min 70 n ≤ 70 := by omega
  generalize min 70 n = n9 at *
  replace hB0 := hB0.ext x2_
  replace hB1 := hB1.ext x2_
  replace hB2 := hB2.ext x2_
  have hsz2 := x2_.size
  replace hxc := hxc.trans x2_
  clear x2_
  have q0_0 := hB0.cell 0
  have q0_1 := hB0.cell 1
  have q0_2 := hB0.cell 2
  have q0_3 := hB0.cell 3
  have q1_0 := hB1.cell 0
  have q1_1 := hB1.cell 1
  have q1_2 := hB1.cell 2
  have q1_3 := hB1.cell 3
  have q1_4 := hB1.cell 4
  have q1_5 := hB1.cell 5
  have q1_6 := hB1.cell 6
  have q1_7 := hB1.cell 7
  have q1_8 := hB1.cell 8
  have q1_9 := hB1.cell 9
  have q2_0 := hB2.cell 0
  have q2_1 := hB2.cell 1
  have q2_2 := hB2.cell 2
  have q2_3 := hB2.cell 3
  have q2_4 := hB2.cell 4
  have q2_5 := hB2.cell 5
  have q2_6 := hB2.cell 6
  have q2_7 := hB2.cell 7
  have q2_8 := hB2.cell 8
  have q2_9 := hB2.cell 9
  simp only [List.getElem?_cons_zero, List.getElem?_cons_succ] at q0_0 q0_1 q0_2 q0_3 q1_0 q1_1 q1_2 q1_3 q1_4 q1_5 q1_6 q1_7 q1_8 q1_9 q2_0 q2_1 q2_2 q2_3 q2_4 q2_5 q2_6 q2_7 q2_8 q2_9
  have f0_0 := hB0.frozen 0
  have f0_1 := hB0.frozen 1
  have f0_2 := hB0.frozen 2
  have f0_3 := hB0.frozen 3
  have f1_0 := hB1.frozen 0
  have f1_1 := hB1.frozen 1
  have f1_2 := hB1.frozen 2
  have f1_3 := hB1.frozen 3
  have f1_4 := hB1.frozen 4
  have f1_5 := hB1.frozen 5
  have f1_6 := hB1.frozen 6
  have f1_7 := hB1.frozen 7
  have f1_8 := hB1.frozen 8
  have f1_9 := hB1.frozen 9
  have f2_0 := hB2.frozen 0
  have f2_1 := hB2.frozen 1
  have f2_2 := hB2.frozen 2
  have f2_3 := hB2.frozen 3
  have f2_4 := hB2.frozen 4
  have f2_5 := hB2.frozen 5
  have f2_6 := hB2.frozen 6
  have f2_7 := hB2.frozen 7
  have f2_8 := hB2.frozen 8
  have f2_9 := hB2.frozen 9
  go_wp2_with fail
  replace hB0 := hB0.set4 (.slice A9 n9 c9)
  replace hB1 := hB1.far4 (g' := w.heap.size) (by omega) (.int .i64 floor) (.int .i64 term) (.int .i64 vote) (.slice A9 n9 c9)
  replace hB2 := hB2.far4 (g' := w.heap.size) (by omega) (.int .i64 floor) (.int .i64 term) (.int .i64 vote) (.slice A9 n9 c9)
  replace hxc := hxc.set4 (g := w.heap.size) (by omega) (.int .i64 floor) (.int .i64 term) (.int .i64 vote) (.slice A9 n9 c9)
  replace hown0 := own_set4 hown0 (g := w.heap.size) (by omega) (.int .i64 floor) (.int .i64 term) (.int .i64 vote) (.slice A9 n9 c9)
  clear q0_0 q0_1 q0_2 q0_3 q1_0 q1_1 q1_2 q1_3 q1_4 q1_5 q1_6 q1_7 q1_8 q1_9 q2_0 q2_1 q2_2 q2_3 q2_4 q2_5 q2_6 q2_7 q2_8 q2_9 f0_0 f0_1 f0_2 f0_3 f1_0 f1_1 f1_2 f1_3 f1_4 f1_5 f1_6 f1_7 f1_8 f1_9 f2_0 f2_1 f2_2 f2_3 f2_4 f2_5 f2_6 f2_7 f2_8 f2_9
  generalize ((((w2.setCell ⟨w.heap.size, 0, none⟩ (.int .i64 floor)).setCell ⟨w.heap.size, 1, none⟩ (.int .i64 term)).setCell ⟨w.heap.size, 2, none⟩ (.int .i64 vote)).setCell ⟨w.heap.size, 3, none⟩ (.slice A9 n9 c9)) = W2 at *
  have hlt0_2 := hB0.lt
  have hlt1_2 := hB1.lt
  have hlt2_2 := hB2.lt
  have q0_0 := hB0.cell 0
  have q0_1 := hB0.cell 1
  have q0_2 := hB0.cell 2
  have q0_3 := hB0.cell 3
  have q1_0 := hB1.cell 0
  have q1_1 := hB1.cell 1
  have q1_2 := hB1.cell 2
  have q1_3 := hB1.cell 3
  have q1_4 := hB1.cell 4
  have q1_5 := hB1.cell 5
  have q1_6 := hB1.cell 6
  have q1_7 := hB1.cell 7
  have q1_8 := hB1.cell 8
  have q1_9 := hB1.cell 9
  have q2_0 := hB2.cell 0
  have q2_1 := hB2.cell 1
  have q2_2 := hB2.cell 2
  have q2_3 := hB2.cell 3
  have q2_4 := hB2.cell 4
  have q2_5 := hB2.cell 5
  have q2_6 := hB2.cell 6
  have q2_7 := hB2.cell 7
  have q2_8 := hB2.cell 8
  have q2_9 := hB2.cell 9
  simp only [List.getElem?_cons_zero, List.getElem?_cons_succ] at q0_0 q0_1 q0_2 q0_3 q1_0 q1_1 q1_2 q1_3 q1_4 q1_5 q1_6 q1_7 q1_8 q1_9 q2_0 q2_1 q2_2 q2_3 q2_4 q2_5 q2_6 q2_7 q2_8 q2_9
  go_wp2_with fail
  refine (HL1.out _ hxc).mono ?_
  rintro e w3 ⟨v3, rfl, hown1, x3_⟩
  clear q0_0 q0_1 q0_2 q0_3 q1_0 q1_1 q1_2 q1_3 q1_4 q1_5 q1_6 q1_7 q1_8 q1_9 q2_0 q2_1 q2_2 q2_3 q2_4 q2_5 q2_6 q2_7 q2_8 q2_9
  obtain ⟨B19, d19, rfl, hd19, hd1m9⟩ := own_form2 hown1
  have hm19 : min 6 m1 ≤ 6 := by omega
  generalize min 6 m1 = m19 at *
  replace hB0 := hB0.ext x3_
  replace hB1 := hB1.ext x3_
  replace hB2 := hB2.ext x3_
  replace hown0 := own_ext hown0 x3_
  have hsz3 := x3_.size
  replace hxc := hxc.trans x3_
  clear x3_
  have q0_0 := hB0.cell 0
  have q0_1 := hB0.cell 1
  have q0_2 := hB0.cell 2
  have q0_3 := hB0.cell 3
  have q1_0 := hB1.cell 0
  have q1_1 := hB1.cell 1
  have q1_2 := hB1.cell 2
  have q1_3 := hB1.cell 3
  have q1_4 := hB1.cell 4
  have q1_5 := hB1.cell 5
  have q1_6 := hB1.cell 6
  have q1_7 := hB1.cell 7
  have q1_8 := hB1.cell 8
  have q1_9 := hB1.cell 9
  have q2_0 := hB2.cell 0
  have q2_1 := hB2.cell 1
  have q2_2 := hB2.cell 2
  have q2_3 := hB2.cell 3
  have q2_4 := hB2.cell 4
  have q2_5 := hB2.cell 5
  have q2_6 := hB2.cell 6
  have q2_7 := hB2.cell 7
  have q2_8 := hB2.cell 8
  have q2_9 := hB2.cell 9
  simp only [List.getElem?_cons_zero, List.getElem?_cons_succ] at q0_0 q0_1 q0_2 q0_3 q1_0 q1_1 q1_2 q1_3 q1_4 q1_5 q1_6 q1_7 q1_8 q1_9 q2_0 q2_1 q2_2 q2_3 q2_4 q2_5 q2_6 q2_7 q2_8 q2_9
  have f0_0 := hB0.frozen 0
  have f0_1 := hB0.frozen 1
  have f0_2 := hB0.frozen 2
  have f0_3 := hB0.frozen 3
  have f1_0 := hB1.frozen 0
  have f1_1 := hB1.frozen 1
  have f1_2 := hB1.frozen 2
  have f1_3 := hB1.frozen 3
  have f1_4 := hB1.frozen 4
  have f1_5 := hB1.frozen 5
  have f1_6 := hB1.frozen 6
  have f1_7 := hB1.frozen 7
  have f1_8 := hB1.frozen 8
  have f1_9 := hB1.frozen 9
  have f2_0 := hB2.frozen 0
  have f2_1 := hB2.frozen 1
  have f2_2 := hB2.frozen 2
  have f2_3 := hB2.frozen 3
  have f2_4 := hB2.frozen 4
  have f2_5 := hB2.frozen 5
  have f2_6 := hB2.frozen 6
  have f2_7 := hB2.frozen 7
  have f2_8 := hB2.frozen 8
  have f2_9 := hB2.frozen 9
  go_wp2_with fail
  replace hB0 := hB0.far10 (g' := w.heap.size + 1) (by omega) (.int .i64 kind1) (.int .i64 src1) (.int .i64 dst1) (.int .i64 xt1) (.int .i64 la1) (.int .i64 lb1) (.int .i64 lc1) (.int .i64 bin1) (.bool ok1) (.slice B19 m19 d19)
  replace hB1 := hB1.set10 (.slice B19 m19 d19)
  replace hB2 := hB2.far10 (g' := w.heap.size + 1) (by omega) (.int .i64 kind1) (.int .i64 src1) (.int .i64 dst1) (.int .i64 xt1) (.int .i64 la1) (.int .i64 lb1) (.int .i64 lc1) (.int .i64 bin1) (.bool ok1) (.slice B19 m19 d19)
  replace hxc := hxc.set10 (g := w.heap.size + 1) (by omega) (.int .i64 kind1) (.int .i64 src1) (.int .i64 dst1) (.int .i64 xt1) (.int .i64 la1) (.int .i64 lb1) (.int .i64 lc1) (.int .i64 bin1) (.bool ok1) (.slice B19 m19 d19)
  replace hown0 := own_set10 hown0 (g := w.heap.size + 1) (by omega) (.int .i64 kind1) (.int .i64 src1) (.int .i64 dst1) (.int .i64 xt1) (.int .i64 la1) (.int .i64 lb1) (.int .i64 lc1) (.int .i64 bin1) (.bool ok1) (.slice B19 m19 d19)
  replace hown1 := own_set10 hown1 (g := w.heap.size + 1) (by omega) (.int .i64 kind1) (.int .i64 src1) (.int .i64 dst1) (.int .i64 xt1) (.int .i64 la1) (.int .i64 lb1) (.int .i64 lc1) (.int .i64 bin1) (.bool ok1) (.slice B19 m19 d19)
  clear q0_0 q0_1 q0_2 q0_3 q1_0 q1_1 q1_2 q1_3 q1_4 q1_5 q1_6 q1_7 q1_8 q1_9 q2_0 q2_1 q2_2 q2_3 q2_4 q2_5 q2_6 q2_7 q2_8 q2_9 f0_0 f0_1 f0_2 f0_3 f1_0 f1_1 f1_2 f1_3 f1_4 f1_5 f1_6 f1_7 f1_8 f1_9 f2_0 f2_1 f2_2 f2_3 f2_4 f2_5 f2_6 f2_7 f2_8 f2_9
  generalize ((((((((((w3.setCell ⟨w.heap.size + 1, 0, none⟩ (.int .i64 kind1)).setCell ⟨w.heap.size + 1, 1, none⟩ (.int .i64 src1)).setCell ⟨w.heap.size + 1, 2, none⟩ (.int .i64 dst1)).setCell ⟨w.heap.size + 1, 3, none⟩ (.int .i64 xt1)).setCell ⟨w.heap.size + 1, 4, none⟩ (.int .i64 la1)).setCell ⟨w.heap.size + 1, 5, none⟩ (.int .i64 lb1)).setCell ⟨w.heap.size + 1, 6, none⟩ (.int .i64 lc1)).setCell ⟨w.heap.size + 1, 7, none⟩ (.int .i64 bin1)).setCell ⟨w.heap.size + 1, 8, none⟩ (.bool ok1)).setCell ⟨w.heap.size + 1, 9, none⟩ (.slice B19 m19 d19)) = W3 at *
  have hlt0_3 := hB0.lt
  have hlt1_3 := hB1.lt
  have hlt2_3 := hB2.lt
  have q0_0 := hB0.cell 0
  have q0_1 := hB0.cell 1
  have q0_2 := hB0.cell 2
  have q0_3 := hB0.cell 3
  have q1_0 := hB1.cell 0
  have q1_1 := hB1.cell 1
  have q1_2 := hB1.cell 2
  have q1_3 := hB1.cell 3
  have q1_4 := hB1.cell 4
  have q1_5 := hB1.cell 5
  have q1_6 := hB1.cell 6
  have q1_7 := hB1.cell 7
  have q1_8 := hB1.cell 8
  have q1_9 := hB1.cell 9
  have q2_0 := hB2.cell 0
  have q2_1 := hB2.cell 1
  have q2_2 := hB2.cell 2
  have q2_3 := hB2.cell 3
  have q2_4 := hB2.cell 4
  have q2_5 := hB2.cell 5
  have q2_6 := hB2.cell 6
  have q2_7 := hB2.cell 7
  have q2_8 := hB2.cell 8
  have q2_9 := hB2.cell 9
  simp only [List.getElem?_cons_zero, List.getElem?_cons_succ] at q0_0 q0_1 q0_2 q0_3 q1_0 q1_1 q1_2 q1_3 q1_4 q1_5 q1_6 q1_7 q1_8 q1_9 q2_0 q2_1 q2_2 q2_3 q2_4 q2_5 q2_6 q2_7 q2_8 q2_9
  go_wp2_with fail
  refine (HL2.out _ hxc).mono ?_
  rintro e w4 ⟨v4, rfl, hown2, x4_⟩
  clear q0_0 q0_1 q0_2 q0_3 q1_0 q1_1 q1_2 q1_3 q1_4 q1_5 q1_6 q1_7 q1_8 q1_9 q2_0 q2_1 q2_2 q2_3 q2_4 q2_5 q2_6 q2_7 q2_8 q2_9
  obtain ⟨B29, d29, rfl, hd29, hd2m9⟩ := own_form2 hown2
  have hm29 : min 6 m2 ≤ 6 := by omega
  generalize min 6 m2 = m29 at *
  replace hB0 := hB0.ext x4_
  replace hB1 := hB1.ext x4_
  replace hB2 := hB2.ext x4_
  replace hown0 := own_ext hown0 x4_
  replace hown1 := own_ext hown1 x4_
  have hsz4 := x4_.size
  replace hxc := hxc.trans x4_
  clear x4_
  have q0_0 := hB0.cell 0
  have q0_1 := hB0.cell 1
  have q0_2 := hB0.cell 2
  have q0_3 := hB0.cell 3
  have q1_0 := hB1.cell 0
  have q1_1 := hB1.cell 1
  have q1_2 := hB1.cell 2
  have q1_3 := hB1.cell 3
  have q1_4 := hB1.cell 4
  have q1_5 := hB1.cell 5
  have q1_6 := hB1.cell 6
  have q1_7 := hB1.cell 7
  have q1_8 := hB1.cell 8
  have q1_9 := hB1.cell 9
  have q2_0 := hB2.cell 0
  have q2_1 := hB2.cell 1
  have q2_2 := hB2.cell 2
  have q2_3 := hB2.cell 3
  have q2_4 := hB2.cell 4
  have q2_5 := hB2.cell 5
  have q2_6 := hB2.cell 6
  have q2_7 := hB2.cell 7
  have q2_8 := hB2.cell 8
  have q2_9 := hB2.cell 9
  simp only [List.getElem?_cons_zero, List.getElem?_cons_succ] at q0_0 q0_1 q0_2 q0_3 q1_0 q1_1 q1_2 q1_3 q1_4 q1_5 q1_6 q1_7 q1_8 q1_9 q2_0 q2_1 q2_2 q2_3 q2_4 q2_5 q2_6 q2_7 q2_8 q2_9
  have f0_0 := hB0.frozen 0
  have f0_1 := hB0.frozen 1
  have f0_2 := hB0.frozen 2
  have f0_3 := hB0.frozen 3
  have f1_0 := hB1.frozen 0
  have f1_1 := hB1.frozen 1
  have f1_2 := hB1.frozen 2
  have f1_3 := hB1.frozen 3
  have f1_4 := hB1.frozen 4
  have f1_5 := hB1.frozen 5
  have f1_6 := hB1.frozen 6
  have f1_7 := hB1.frozen 7
  have f1_8 := hB1.frozen 8
  have f1_9 := hB1.frozen 9
  have f2_0 := hB2.frozen 0
  have f2_1 := hB2.frozen 1
  have f2_2 := hB2.frozen 2
  have f2_3 := hB2.frozen 3
  have f2_4 := hB2.frozen 4
  have f2_5 := hB2.frozen 5
  have f2_6 := hB2.frozen 6
  have f2_7 := hB2.frozen 7
  have f2_8 := hB2.frozen 8
  have f2_9 := hB2.frozen 9
  go_wp2_with fail
  replace hB0 := hB0.far10 (g' := w.heap.size + 1 + 1) (by omega) (.int .i64 kind2) (.int .i64 src2) (.int .i64 dst2) (.int .i64 xt2) (.int .i64 la2) (.int .i64 lb2) (.int .i64 lc2) (.int .i64 bin2) (.bool ok2) (.slice B29 m29 d29)
  replace hB1 := hB1.far10 (g' := w.heap.size + 1 + 1) (by omega) (.int .i64 kind2) (.int .i64 src2) (.int .i64 dst2) (.int .i64 xt2) (.int .i64 la2) (.int .i64 lb2) (.int .i64 lc2) (.int .i64 bin2) (.bool ok2) (.slice B29 m29 d29)
  replace hB2 := hB2.set10 (.slice B29 m29 d29)
  replace hxc := hxc.set10 (g := w.heap.size + 1 + 1) (by omega) (.int .i64 kind2) (.int .i64 src2) (.int .i64 dst2) (.int .i64 xt2) (.int .i64 la2) (.int .i64 lb2) (.int .i64 lc2) (.int .i64 bin2) (.bool ok2) (.slice B29 m29 d29)
  replace hown0 := own_set10 hown0 (g := w.heap.size + 1 + 1) (by omega) (.int .i64 kind2) (.int .i64 src2) (.int .i64 dst2) (.int .i64 xt2) (.int .i64 la2) (.int .i64 lb2) (.int .i64 lc2) (.int .i64 bin2) (.bool ok2) (.slice B29 m29 d29)
  replace hown1 := own_set10 hown1 (g := w.heap.size + 1 + 1) (by omega) (.int .i64 kind2) (.int .i64 src2) (.int .i64 dst2) (.int .i64 xt2) (.int .i64 la2) (.int .i64 lb2) (.int .i64 lc2) (.int .i64 bin2) (.bool ok2) (.slice B29 m29 d29)
  replace hown2 := own_set10 hown2 (g := w.heap.size + 1 + 1) (by omega) (.int .i64 kind2) (.int .i64 src2) (.int .i64 dst2) (.int .i64 xt2) (.int .i64 la2) (.int .i64 lb2) (.int .i64 lc2) (.int .i64 bin2) (.bool ok2) (.slice B29 m29 d29)
  clear q0_0 q0_1 q0_2 q0_3 q1_0 q1_1 q1_2 q1_3 q1_4 q1_5 q1_6 q1_7 q1_8 q1_9 q2_0 q2_1 q2_2 q2_3 q2_4 q2_5 q2_6 q2_7 q2_8 q2_9 f0_0 f0_1 f0_2 f0_3 f1_0 f1_1 f1_2 f1_3 f1_4 f1_5 f1_6 f1_7 f1_8 f1_9 f2_0 f2_1 f2_2 f2_3 f2_4 f2_5 f2_6 f2_7 f2_8 f2_9
  generalize ((((((((((w4.setCell ⟨w.heap.size + 1 + 1, 0, none⟩ (.int .i64 kind2)).setCell ⟨w.heap.size + 1 + 1, 1, none⟩ (.int .i64 src2)).setCell ⟨w.heap.size + 1 + 1, 2, none⟩ (.int .i64 dst2)).setCell ⟨w.heap.size + 1 + 1, 3, none⟩ (.int .i64 xt2)).setCell ⟨w.heap.size + 1 + 1, 4, none⟩ (.int .i64 la2)).setCell ⟨w.heap.size + 1 + 1, 5, none⟩ (.int .i64 lb2)).setCell ⟨w.heap.size + 1 + 1, 6, none⟩ (.int .i64 lc2)).setCell ⟨w.heap.size + 1 + 1, 7, none⟩ (.int .i64 bin2)).setCell ⟨w.heap.size + 1 + 1, 8, none⟩ (.bool ok2)).setCell ⟨w.heap.size + 1 + 1, 9, none⟩ (.slice B29 m29 d29)) = W4 at *
  have hlt0_4 := hB0.lt
  have hlt1_4 := hB1.lt
  have hlt2_4 := hB2.lt
  replace hB0 := hB0.set_ 1 (.int .i64 z)
  simp only [List.set_cons_succ, List.set_cons_zero] at hB0
  replace hB1 := hB1.far (p := ⟨w.heap.size, 1, none⟩) (by dsimp only; omega) (.int .i64 z)
  replace hB2 := hB2.far (p := ⟨w.heap.size, 1, none⟩) (by dsimp only; omega) (.int .i64 z)
  replace hxc := hxc.setCell (p := ⟨w.heap.size, 1, none⟩) (Nat.le_refl _) (.int .i64 z)
  replace hown0 := own_set hown0 (p := ⟨w.heap.size, 1, none⟩) (by dsimp only; omega) (.int .i64 z)
  replace hown1 := own_set hown1 (p := ⟨w.heap.size, 1, none⟩) (by dsimp only; omega) (.int .i64 z)
  replace hown2 := own_set hown2 (p := ⟨w.heap.size, 1, none⟩) (by dsimp only; omega) (.int .i64 z)
  generalize (W4.setCell ⟨w.heap.size, 1, none⟩ (.int .i64 z)) = W9 at *
  have hE : Es W9 A9 n9 (cutL 70 250 l) := Es.of_own hown0 fun f hf => (Hok1.out f hf).ext hxc
  have hOS := HV.out W9 A9 n9 c9 (cutL 70 250 l) z (i64_z hz) hE hc9 hcm9
  have hE1 : Es W9 B19 m19 (cutL 6 250 l1) := Es.of_own hown1 fun f hf => (Hokx1.out f hf).ext hxc
  have hOX1 := HU1.out W9 B19 m19 d19 (cutL 6 250 l1) hE1 hd19 hd1m9
  have hE2 : Es W9 B29 m29 (cutL 6 250 l2) := Es.of_own hown2 fun f hf => (Hokx2.out f hf).ext hxc
  have hOX2 := HU2.out W9 B29 m29 d29 (cutL 6 250 l2) hE2 hd29 hd2m9
  clear Hok1 HS HV hu1 Hokx1 HL1 HU1 hE1 Hokx2 HL2 HU2 hE2 hown0 hown1 hown2
  generalize cutL 70 250 l = L0 at *
  generalize cutL 6 250 l1 = L1 at *
  generalize cutL 6 250 l2 = L2 at *
  have hans := elect_Answer ⟨floor, (z : Int), vote, A9, n9, c9, L0⟩ ⟨kind1, src1, dst1, xt1, la1, lb1, lc1, bin1, ok1, B19, m19, d19, L1⟩ W9 hOS hOX1 (by dsimp only; omega) (by dsimp only; omega)
  have haf := answer_fits ⟨floor, (z : Int), vote, A9, n9, c9, L0⟩ ⟨kind1, src1, dst1, xt1, la1, lb1, lc1, bin1, ok1, B19, m19, d19, L1⟩
  have hag := fun A' c' (tt vv : Int) (L : List RV) (k : Nat) => answer_again ⟨floor, (z : Int), vote, A9, n9, c9, L0⟩ ⟨floor, tt, vv, A', n9, c', L0⟩ ⟨kind1, src1, dst1, xt1, la1, lb1, lc1, bin1, ok1, B19, m19, d19, L1⟩ L k
  have HSV := Lib.hid (fun (t who : Nat) (R : Option Addr) (q : Nat) (w' : World) (h : Ext W9 w') => ref18_Steps_vote floor (z : Int) vote A9 n9 c9 L0 t who R q w' (hE.ext h) (by omega))
  have HOK := Lib.hid (fun (w' : World) (h : Ext W9 w') f (hf : f ∈ L0) => (hE.ok f hf).ext h)
  have HE9 := Lib.hid (fun (w' : World) (h : Ext W9 w') => hE.ext h)
  have HX1 := Lib.hid (fun (w' : World) (h : Ext W9 w') => hOX1.ext h)
  have HX2 := Lib.hid (fun (w' : World) (h : Ext W9 w') => hOX2.ext h)
  have HI := Lib.hid (show I64 floor from hOS.u0)
  unfold SV.val LV.val AnsPost at hans
  dsimp only at hans haf hag
  generalize answerL ⟨floor, (z : Int), vote, A9, n9, c9, L0⟩ ⟨kind1, src1, dst1, xt1, la1, lb1, lc1, bin1, ok1, B19, m19, d19, L1⟩ = ANS at *
  obtain ⟨RL, g, k⟩ := ANS
  dsimp only at hans haf
  clear hOS hOX1 hOX2 hE
  have HANS := Lib.hid hans; clear hans
  have HAG := Lib.hid hag; clear hag
  have q0_0 := hB0.cell 0
  have q0_1 := hB0.cell 1
  have q0_2 := hB0.cell 2
  have q0_3 := hB0.cell 3
  have q1_0 := hB1.cell 0
  have q1_1 := hB1.cell 1
  have q1_2 := hB1.cell 2
  have q1_3 := hB1.cell 3
  have q1_4 := hB1.cell 4
  have q1_5 := hB1.cell 5
  have q1_6 := hB1.cell 6
  have q1_7 := hB1.cell 7
  have q1_8 := hB1.cell 8
  have q1_9 := hB1.cell 9
  have q2_0 := hB2.cell 0
  have q2_1 := hB2.cell 1
  have q2_2 := hB2.cell 2
  have q2_3 := hB2.cell 3
  have q2_4 := hB2.cell 4
  have q2_5 := hB2.cell 5
  have q2_6 := hB2.cell 6
  have q2_7 := hB2.cell 7
  have q2_8 := hB2.cell 8
  have q2_9 := hB2.cell 9
  simp only [List.getElem?_cons_zero, List.getElem?_cons_succ] at q0_0 q0_1 q0_2 q0_3 q1_0 q1_1 q1_2 q1_3 q1_4 q1_5 q1_6 q1_7 q1_8 q1_9 q2_0 q2_1 q2_2 q2_3 q2_4 q2_5 q2_6 q2_7 q2_8 q2_9
  go_wp2_with fail
  refine HANS.out.mono ?_
  rintro e we ⟨v, rfl, ho, x⟩
  obtain ⟨A6, c6, rfl, _⟩ := own_form ho
  clear HANS
  replace hB0 := hB0.ext x
  replace hB1 := hB1.ext x
  replace hB2 := hB2.ext x
  replace hxc := hxc.trans x
  clear q0_0 q0_1 q0_2 q0_3 q1_0 q1_1 q1_2 q1_3 q1_4 q1_5 q1_6 q1_7 q1_8 q1_9 q2_0 q2_1 q2_2 q2_3 q2_4 q2_5 q2_6 q2_7 q2_8 q2_9
  rcases haf with hq | ⟨h1, h2, h3, h4, ⟨hq, _⟩ | ⟨hq, h5, h6, h7⟩ | ⟨hq, h5, h7⟩ | ⟨hq, _⟩⟩
  · cases hq
    clear hB0 hB1 hB2 HAG
    go_wp2
    go_ret
    exact ⟨rfl, hxc⟩
  · cases hq
    clear hB0 hB1 hB2 HAG
    go_wp2
    go_ret
    exact ⟨rfl, hxc⟩
  · cases hq
    have H5 := Lib.hid h5
    have H6 := Lib.hid h6
    clear h5 h6 h7
    have q0_0 := hB0.cell 0
    have q0_1 := hB0.cell 1
    have q0_2 := hB0.cell 2
    have q0_3 := hB0.cell 3
    have q1_0 := hB1.cell 0
    have q1_1 := hB1.cell 1
    have q1_2 := hB1.cell 2
    have q1_3 := hB1.cell 3
    have q1_4 := hB1.cell 4
    have q1_5 := hB1.cell 5
    have q1_6 := hB1.cell 6
    have q1_7 := hB1.cell 7
    have q1_8 := hB1.cell 8
    have q1_9 := hB1.cell 9
    have q2_0 := hB2.cell 0
    have q2_1 := hB2.cell 1
    have q2_2 := hB2.cell 2
    have q2_3 := hB2.cell 3
    have q2_4 := hB2.cell 4
    have q2_5 := hB2.cell 5
    have q2_6 := hB2.cell 6
    have q2_7 := hB2.cell 7
    have q2_8 := hB2.cell 8
    have q2_9 := hB2.cell 9
    simp only [List.getElem?_cons_zero, List.getElem?_cons_succ] at q0_0 q0_1 q0_2 q0_3 q1_0 q1_1 q1_2 q1_3 q1_4 q1_5 q1_6 q1_7 q1_8 q1_9 q2_0 q2_1 q2_2 q2_3 q2_4 q2_5 q2_6 q2_7 q2_8 q2_9
    go_wp2_with fail
    refine (ref18_Steps_nil _ _ _ _ _ _ _ _ _).mono ?_
    rintro e w2 ⟨rfl, x2⟩
    clear q0_0 q0_1 q0_2 q0_3 q1_0 q1_1 q1_2 q1_3 q1_4 q1_5 q1_6 q1_7 q1_8 q1_9 q2_0 q2_1 q2_2 q2_3 q2_4 q2_5 q2_6 q2_7 q2_8 q2_9 ho
    replace hB0 := hB0.ext x2
    replace hB1 := hB1.ext x2
    replace hB2 := hB2.ext x2
    replace hxc := hxc.trans x2
    have xw := x.trans x2
    have h5 := H5.out
    have h6 := H6.out
    subst h5
    subst h6
    clear H5 H6
    have hEt : Es w2 A9 n9 L0 := HE9.out _ xw
    have hOT : SV.Ok ⟨floor, (z : Int), src1 + 1, A9, n9, c9, L0⟩ w2 := ⟨hEt, by assumption, by assumption, HI.out, ⟨by dsimp only; omega, by dsimp only; omega⟩, ⟨by dsimp only; omega, by dsimp only; omega⟩⟩
    have BT := Blk.new w2 45 [.int .i64 floor, .int .i64 ((z : Int)), .int .i64 (src1 + 1), .slice A9 n9 c9]
    have xa : Ext w2 (w2.alloc (.cells #[.int .i64 floor, .int .i64 ((z : Int)), .int .i64 (src1 + 1), .slice A9 n9 c9] 45)) := (Ext.refl w2).alloc _
    replace xw := xw.trans xa
    replace hOT := hOT.ext xa
    have han2 := elect_Answer ⟨floor, (z : Int), src1 + 1, A9, n9, c9, L0⟩ ⟨kind1, src1, dst1, (z : Int), la1, lb1, lc1, bin1, ok1, B19, m19, d19, L1⟩ _ hOT (HX1.out _ xw) (by dsimp only; omega) (by dsimp only; omega)
    unfold SV.val LV.val AnsPost at han2
    dsimp only at han2
    rw [HAG.out A9 c9 ((z : Int)) (src1 + 1) _ _ rfl (by first | rfl | trivial) (by first | rfl | trivial) (by first | rfl | trivial)] at han2
    dsimp only at han2
    have HAN2 := Lib.hid han2
    have HEt := Lib.hid hOT
    clear han2 hOT hEt HAG
    have hlt9 := hB0.lt
    have hlt8 := hB1.lt
    have hlt7 := hB2.lt
    have q0_0 := hB0.cell 0
    have q0_1 := hB0.cell 1
    have q0_2 := hB0.cell 2
    have q0_3 := hB0.cell 3
    have q1_0 := hB1.cell 0
    have q1_1 := hB1.cell 1
    have q1_2 := hB1.cell 2
    have q1_3 := hB1.cell 3
    have q1_4 := hB1.cell 4
    have q1_5 := hB1.cell 5
    have q1_6 := hB1.cell 6
    have q1_7 := hB1.cell 7
    have q1_8 := hB1.cell 8
    have q1_9 := hB1.cell 9
    have q2_0 := hB2.cell 0
    have q2_1 := hB2.cell 1
    have q2_2 := hB2.cell 2
    have q2_3 := hB2.cell 3
    have q2_4 := hB2.cell 4
    have q2_5 := hB2.cell 5
    have q2_6 := hB2.cell 6
    have q2_7 := hB2.cell 7
    have q2_8 := hB2.cell 8
    have q2_9 := hB2.cell 9
    simp only [List.getElem?_cons_zero, List.getElem?_cons_succ] at q0_0 q0_1 q0_2 q0_3 q1_0 q1_1 q1_2 q1_3 q1_4 q1_5 q1_6 q1_7 q1_8 q1_9 q2_0 q2_1 q2_2 q2_3 q2_4 q2_5 q2_6 q2_7 q2_8 q2_9
    go_wp2_with fail
    refine HAN2.out.mono ?_
    rintro e w5 ⟨v5, rfl, ho5, x5⟩
    obtain ⟨A5, c5, rfl, _⟩ := own_form ho5
    clear q0_0 q0_1 q0_2 q0_3 q1_0 q1_1 q1_2 q1_3 q1_4 q1_5 q1_6 q1_7 q1_8 q1_9 q2_0 q2_1 q2_2 q2_3 q2_4 q2_5 q2_6 q2_7 q2_8 q2_9 HAN2 ho5
    replace BT := BT.ext x5
    have xa5 := xa.trans x5
    replace hB0 := hB0.ext xa5
    replace hB1 := hB1.ext xa5
    replace hB2 := hB2.ext xa5
    replace hxc := hxc.trans xa5
    replace xw := xw.trans x5
    have hOT := HEt.out.ext x5
    have han3 := elect_Answer ⟨floor, (z : Int), src1 + 1, A9, n9, c9, L0⟩ ⟨kind2, src2, dst2, xt2, la2, lb2, lc2, bin2, ok2, B29, m29, d29, L2⟩ _ hOT (HX2.out _ xw) (by dsimp only; omega) (by dsimp only; omega)
    have hon := answer_once ⟨floor, (z : Int), src1 + 1, A9, n9, c9, L0⟩ ⟨kind2, src2, dst2, xt2, la2, lb2, lc2, bin2, ok2, B29, m29, d29, L2⟩ (z : Int) src1 rfl rfl h1
    unfold SV.val LV.val AnsPost at han3
    dsimp only at han3 hon
    generalize answerL ⟨floor, (z : Int), src1 + 1, A9, n9, c9, L0⟩ ⟨kind2, src2, dst2, xt2, la2, lb2, lc2, bin2, ok2, B29, m29, d29, L2⟩ = ANS3 at *
    obtain ⟨RL3, g3, k3⟩ := ANS3
    dsimp only at han3 hon
    have HAN3 := Lib.hid han3
    clear han3 hOT HEt
    have q0_0 := hB0.cell 0
    have q0_1 := hB0.cell 1
    have q0_2 := hB0.cell 2
    have q0_3 := hB0.cell 3
    have q1_0 := hB1.cell 0
    have q1_1 := hB1.cell 1
    have q1_2 := hB1.cell 2
    have q1_3 := hB1.cell 3
    have q1_4 := hB1.cell 4
    have q1_5 := hB1.cell 5
    have q1_6 := hB1.cell 6
    have q1_7 := hB1.cell 7
    have q1_8 := hB1.cell 8
    have q1_9 := hB1.cell 9
    have q2_0 := hB2.cell 0
    have q2_1 := hB2.cell 1
    have q2_2 := hB2.cell 2
    have q2_3 := hB2.cell 3
    have q2_4 := hB2.cell 4
    have q2_5 := hB2.cell 5
    have q2_6 := hB2.cell 6
    have q2_7 := hB2.cell 7
    have q2_8 := hB2.cell 8
    have q2_9 := hB2.cell 9
    simp only [List.getElem?_cons_zero, List.getElem?_cons_succ] at q0_0 q0_1 q0_2 q0_3 q1_0 q1_1 q1_2 q1_3 q1_4 q1_5 q1_6 q1_7 q1_8 q1_9 q2_0 q2_1 q2_2 q2_3 q2_4 q2_5 q2_6 q2_7 q2_8 q2_9
    have t0 := BT.cell 0
    have t1 := BT.cell 1
    have t2 := BT.cell 2
    have t3 := BT.cell 3
    simp only [List.getElem?_cons_zero, List.getElem?_cons_succ] at t0 t1 t2 t3
    go_wp2_with fail
    refine HAN3.out.mono ?_
    rintro e w6 ⟨v6, rfl, ho6, x6⟩
    obtain ⟨A7, c7, rfl, _⟩ := own_form ho6
    clear q0_0 q0_1 q0_2 q0_3 q1_0 q1_1 q1_2 q1_3 q1_4 q1_5 q1_6 q1_7 q1_8 q1_9 q2_0 q2_1 q2_2 q2_3 q2_4 q2_5 q2_6 q2_7 q2_8 q2_9 t0 t1 t2 t3 HAN3 ho6
    replace hB0 := hB0.ext x6
    replace hB1 := hB1.ext x6
    replace hB2 := hB2.ext x6
    replace BT := BT.ext x6
    replace hxc := hxc.trans x6
    have q0_0 := hB0.cell 0
    have q0_1 := hB0.cell 1
    have q0_2 := hB0.cell 2
    have q0_3 := hB0.cell 3
    have q1_0 := hB1.cell 0
    have q1_1 := hB1.cell 1
    have q1_2 := hB1.cell 2
    have q1_3 := hB1.cell 3
    have q1_4 := hB1.cell 4
    have q1_5 := hB1.cell 5
    have q1_6 := hB1.cell 6
    have q1_7 := hB1.cell 7
    have q1_8 := hB1.cell 8
    have q1_9 := hB1.cell 9
    have q2_0 := hB2.cell 0
    have q2_1 := hB2.cell 1
    have q2_2 := hB2.cell 2
    have q2_3 := hB2.cell 3
    have q2_4 := hB2.cell 4
    have q2_5 := hB2.cell 5
    have q2_6 := hB2.cell 6
    have q2_7 := hB2.cell 7
    have q2_8 := hB2.cell 8
    have q2_9 := hB2.cell 9
    simp only [List.getElem?_cons_zero, List.getElem?_cons_succ] at q0_0 q0_1 q0_2 q0_3 q1_0 q1_1 q1_2 q1_3 q1_4 q1_5 q1_6 q1_7 q1_8 q1_9 q2_0 q2_1 q2_2 q2_3 q2_4 q2_5 q2_6 q2_7 q2_8 q2_9
    clear hB0 hB1 hB2 BT
    rcases hon with hq | hq | ⟨L3, g4, hq, ⟨h8, h9⟩ | h8⟩
    · cases hq
      go_wp2
      go_ret
      exact ⟨rfl, hxc⟩
    · cases hq
      clear h1 h2 h3 h4
      go_wp2
      all_goals
        go_ret
        exact ⟨rfl, hxc⟩
    · cases hq
      have e1 := beq_t h8
      have e2 := bne_f h9
      have e3 : decide (xt2 < (z : Int)) = false := dec_f (by omega)
      clear h8 h9
      go_wp2
      go_ret
      exact ⟨rfl, hxc⟩
    · cases hq
      have e1 := beq_f (show xt2 ≠ (z : Int) by omega)
      have e3 : decide (xt2 < (z : Int)) = false := dec_f (by omega)
      clear h8
      go_wp2
      go_ret
      exact ⟨rfl, hxc⟩
  · cases hq
    have hR := Rs.of_own (l := [voteR xt1 (src1 + 1)]) ho (by intro f hf; simp only [List.mem_singleton] at hf; subst hf; exact voteR_ok _ _ _)
    have et : ((xt1.toNat : Nat) : Int) = xt1 := by omega
    have ew : (((src1 + 1).toNat : Nat) : Int) = src1 + 1 := by omega
    have hst := HSV.out (xt1.toNat) ((src1 + 1).toNat) A6 c6 we x (by rw [et, ew]; exact hR) (by omega) (by omega) (by omega)
    rw [et, ew] at hst
    have HST := Lib.hid hst
    clear hst et ew hR ho h5 h7 HSV
    have q0_0 := hB0.cell 0
    have q0_1 := hB0.cell 1
    have q0_2 := hB0.cell 2
    have q0_3 := hB0.cell 3
    have q1_0 := hB1.cell 0
    have q1_1 := hB1.cell 1
    have q1_2 := hB1.cell 2
    have q1_3 := hB1.cell 3
    have q1_4 := hB1.cell 4
    have q1_5 := hB1.cell 5
    have q1_6 := hB1.cell 6
    have q1_7 := hB1.cell 7
    have q1_8 := hB1.cell 8
    have q1_9 := hB1.cell 9
    have q2_0 := hB2.cell 0
    have q2_1 := hB2.cell 1
    have q2_2 := hB2.cell 2
    have q2_3 := hB2.cell 3
    have q2_4 := hB2.cell 4
    have q2_5 := hB2.cell 5
    have q2_6 := hB2.cell 6
    have q2_7 := hB2.cell 7
    have q2_8 := hB2.cell 8
    have q2_9 := hB2.cell 9
    simp only [List.getElem?_cons_zero, List.getElem?_cons_succ] at q0_0 q0_1 q0_2 q0_3 q1_0 q1_1 q1_2 q1_3 q1_4 q1_5 q1_6 q1_7 q1_8 q1_9 q2_0 q2_1 q2_2 q2_3 q2_4 q2_5 q2_6 q2_7 q2_8 q2_9
    go_wp2_with fail
    refine HST.out.mono ?_
    clear HST
    rintro e w2 ⟨v2, rfl, hown2, x2⟩
    obtain ⟨A2, c2, rfl, hc2, hcm2⟩ := own_form2 hown2
    clear q0_0 q0_1 q0_2 q0_3 q1_0 q1_1 q1_2 q1_3 q1_4 q1_5 q1_6 q1_7 q1_8 q1_9 q2_0 q2_1 q2_2 q2_3 q2_4 q2_5 q2_6 q2_7 q2_8 q2_9
    replace hB0 := hB0.ext x2
    replace hB1 := hB1.ext x2
    replace hB2 := hB2.ext x2
    replace hxc := hxc.trans x2
    have xw := x.trans x2
    have hEt : Es w2 A2 n9 L0 := Es.of_own hown2 fun f hf => HOK.out _ xw f hf
    have hOT : SV.Ok ⟨floor, xt1, src1 + 1, A2, n9, c2, L0⟩ w2 := ⟨hEt, by assumption, by assumption, HI.out, ⟨by dsimp only; omega, by dsimp only; omega⟩, ⟨by dsimp only; omega, by dsimp only; omega⟩⟩
    have BT := Blk.new w2 45 [.int .i64 floor, .int .i64 (xt1), .int .i64 (src1 + 1), .slice A2 n9 c2]
    have xa : Ext w2 (w2.alloc (.cells #[.int .i64 floor, .int .i64 (xt1), .int .i64 (src1 + 1), .slice A2 n9 c2] 45)) := (Ext.refl w2).alloc _
    replace xw := xw.trans xa
    replace hOT := hOT.ext xa
    have han2 := elect_Answer ⟨floor, xt1, src1 + 1, A2, n9, c2, L0⟩ ⟨kind1, src1, dst1, xt1, la1, lb1, lc1, bin1, ok1, B19, m19, d19, L1⟩ _ hOT (HX1.out _ xw) (by dsimp only; omega) (by dsimp only; omega)
    unfold SV.val LV.val AnsPost at han2
    dsimp only at han2
    rw [HAG.out A2 c2 (xt1) (src1 + 1) _ _ rfl (by first | rfl | trivial) (by first | rfl | trivial) (by first | rfl | trivial)] at han2
    dsimp only at han2
    have HAN2 := Lib.hid han2
    have HEt := Lib.hid hOT
    clear han2 hOT hEt HAG
    have hlt9 := hB0.lt
    have hlt8 := hB1.lt
    have hlt7 := hB2.lt
    clear hown2
    have q0_0 := hB0.cell 0
    have q0_1 := hB0.cell 1
    have q0_2 := hB0.cell 2
    have q0_3 := hB0.cell 3
    have q1_0 := hB1.cell 0
    have q1_1 := hB1.cell 1
    have q1_2 := hB1.cell 2
    have q1_3 := hB1.cell 3
    have q1_4 := hB1.cell 4
    have q1_5 := hB1.cell 5
    have q1_6 := hB1.cell 6
    have q1_7 := hB1.cell 7
    have q1_8 := hB1.cell 8
    have q1_9 := hB1.cell 9
    have q2_0 := hB2.cell 0
    have q2_1 := hB2.cell 1
    have q2_2 := hB2.cell 2
    have q2_3 := hB2.cell 3
    have q2_4 := hB2.cell 4
    have q2_5 := hB2.cell 5
    have q2_6 := hB2.cell 6
    have q2_7 := hB2.cell 7
    have q2_8 := hB2.cell 8
    have q2_9 := hB2.cell 9
    simp only [List.getElem?_cons_zero, List.getElem?_cons_succ] at q0_0 q0_1 q0_2 q0_3 q1_0 q1_1 q1_2 q1_3 q1_4 q1_5 q1_6 q1_7 q1_8 q1_9 q2_0 q2_1 q2_2 q2_3 q2_4 q2_5 q2_6 q2_7 q2_8 q2_9
    go_wp2_with fail
    refine HAN2.out.mono ?_
    rintro e w5 ⟨v5, rfl, ho5, x5⟩
    obtain ⟨A5, c5, rfl, _⟩ := own_form ho5
    clear q0_0 q0_1 q0_2 q0_3 q1_0 q1_1 q1_2 q1_3 q1_4 q1_5 q1_6 q1_7 q1_8 q1_9 q2_0 q2_1 q2_2 q2_3 q2_4 q2_5 q2_6 q2_7 q2_8 q2_9 HAN2 ho5
    replace BT := BT.ext x5
    have xa5 := xa.trans x5
    replace hB0 := hB0.ext xa5
    replace hB1 := hB1.ext xa5
    replace hB2 := hB2.ext xa5
    replace hxc := hxc.trans xa5
    replace xw := xw.trans x5
    have hOT := HEt.out.ext x5
    have han3 := elect_Answer ⟨floor, xt1, src1 + 1, A2, n9, c2, L0⟩ ⟨kind2, src2, dst2, xt2, la2, lb2, lc2, bin2, ok2, B29, m29, d29, L2⟩ _ hOT (HX2.out _ xw) (by dsimp only; omega) (by dsimp only; omega)
    have hon := answer_once ⟨floor, xt1, src1 + 1, A2, n9, c2, L0⟩ ⟨kind2, src2, dst2, xt2, la2, lb2, lc2, bin2, ok2, B29, m29, d29, L2⟩ xt1 src1 rfl rfl h1
    unfold SV.val LV.val AnsPost at han3
    dsimp only at han3 hon
    generalize answerL ⟨floor, xt1, src1 + 1, A2, n9, c2, L0⟩ ⟨kind2, src2, dst2, xt2, la2, lb2, lc2, bin2, ok2, B29, m29, d29, L2⟩ = ANS3 at *
    obtain ⟨RL3, g3, k3⟩ := ANS3
    dsimp only at han3 hon
    have HAN3 := Lib.hid han3
    clear han3 hOT HEt
    have q0_0 := hB0.cell 0
    have q0_1 := hB0.cell 1
    have q0_2 := hB0.cell 2
    have q0_3 := hB0.cell 3
    have q1_0 := hB1.cell 0
    have q1_1 := hB1.cell 1
    have q1_2 := hB1.cell 2
    have q1_3 := hB1.cell 3
    have q1_4 := hB1.cell 4
    have q1_5 := hB1.cell 5
    have q1_6 := hB1.cell 6
    have q1_7 := hB1.cell 7
    have q1_8 := hB1.cell 8
    have q1_9 := hB1.cell 9
    have q2_0 := hB2.cell 0
    have q2_1 := hB2.cell 1
    have q2_2 := hB2.cell 2
    have q2_3 := hB2.cell 3
    have q2_4 := hB2.cell 4
    have q2_5 := hB2.cell 5
    have q2_6 := hB2.cell 6
    have q2_7 := hB2.cell 7
    have q2_8 := hB2.cell 8
    have q2_9 := hB2.cell 9
    simp only [List.getElem?_cons_zero, List.getElem?_cons_succ] at q0_0 q0_1 q0_2 q0_3 q1_0 q1_1 q1_2 q1_3 q1_4 q1_5 q1_6 q1_7 q1_8 q1_9 q2_0 q2_1 q2_2 q2_3 q2_4 q2_5 q2_6 q2_7 q2_8 q2_9
    have t0 := BT.cell 0
    have t1 := BT.cell 1
    have t2 := BT.cell 2
    have t3 := BT.cell 3
    simp only [List.getElem?_cons_zero, List.getElem?_cons_succ] at t0 t1 t2 t3
    go_wp2_with fail
    refine HAN3.out.mono ?_
    rintro e w6 ⟨v6, rfl, ho6, x6⟩
    obtain ⟨A7, c7, rfl, _⟩ := own_form ho6
    clear q0_0 q0_1 q0_2 q0_3 q1_0 q1_1 q1_2 q1_3 q1_4 q1_5 q1_6 q1_7 q1_8 q1_9 q2_0 q2_1 q2_2 q2_3 q2_4 q2_5 q2_6 q2_7 q2_8 q2_9 t0 t1 t2 t3 HAN3 ho6
    replace hB0 := hB0.ext x6
    replace hB1 := hB1.ext x6
    replace hB2 := hB2.ext x6
    replace BT := BT.ext x6
    replace hxc := hxc.trans x6
    have q0_0 := hB0.cell 0
    have q0_1 := hB0.cell 1
    have q0_2 := hB0.cell 2
    have q0_3 := hB0.cell 3
    have q1_0 := hB1.cell 0
    have q1_1 := hB1.cell 1
    have q1_2 := hB1.cell 2
    have q1_3 := hB1.cell 3
    have q1_4 := hB1.cell 4
    have q1_5 := hB1.cell 5
    have q1_6 := hB1.cell 6
    have q1_7 := hB1.cell 7
    have q1_8 := hB1.cell 8
    have q1_9 := hB1.cell 9
    have q2_0 := hB2.cell 0
    have q2_1 := hB2.cell 1
    have q2_2 := hB2.cell 2
    have q2_3 := hB2.cell 3
    have q2_4 := hB2.cell 4
    have q2_5 := hB2.cell 5
    have q2_6 := hB2.cell 6
    have q2_7 := hB2.cell 7
    have q2_8 := hB2.cell 8
    have q2_9 := hB2.cell 9
    simp only [List.getElem?_cons_zero, List.getElem?_cons_succ] at q0_0 q0_1 q0_2 q0_3 q1_0 q1_1 q1_2 q1_3 q1_4 q1_5 q1_6 q1_7 q1_8 q1_9 q2_0 q2_1 q2_2 q2_3 q2_4 q2_5 q2_6 q2_7 q2_8 q2_9
    clear hB0 hB1 hB2 BT
    rcases hon with hq | hq | ⟨L3, g4, hq, ⟨h8, h9⟩ | h8⟩
    · cases hq
      go_wp2
      go_ret
      exact ⟨rfl, hxc⟩
    · cases hq
      clear h1 h2 h3 h4
      go_wp2
      all_goals
        go_ret
        exact ⟨rfl, hxc⟩
    · cases hq
      have e1 := beq_t h8
      have e2 := bne_f h9
      have e3 : decide (xt2 < xt1) = false := dec_f (by omega)
      clear h8 h9
      go_wp2
      go_ret
      exact ⟨rfl, hxc⟩
    · cases hq
      have e1 := beq_f (show xt2 ≠ xt1 by omega)
      have e3 : decide (xt2 < xt1) = false := dec_f (by omega)
      clear h8
      go_wp2
      go_ret
      exact ⟨rfl, hxc⟩
  · cases hq
    clear hB0 hB1 hB2 HAG
    go_wp2
    go_ret
    exact ⟨rfl, hxc⟩
end Go.Proofs.Ytcdnjhcddbkciaa

