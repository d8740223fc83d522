/- The walk of the law ElectFits. -/
import Derived.Test.YtcdnjhcddbkciaaElL
import Derived.Test.YtcdnjhcddbkciaaElC
namespace Go.Proofs.Ytcdnjhcddbkciaa
open Go.RowKit

theorem and_term (a : Int) : ∃ z : Nat, z < 1048576 ∧ bits .and .i64 a 1048575 = (z : Int) := by
  refine ⟨((BitVec.ofInt 64 a) &&& (BitVec.ofInt 64 1048575)).toNat, ?_, ?_⟩
  · rw [BitVec.toNat_and]
    have : (BitVec.ofInt 64 1048575).toNat = 1048575 := by decide
    rw [this]
    have := Nat.and_le_right (n := (BitVec.ofInt 64 a).toNat) (m := 1048575)
    omega
  · show IntKind.i64.wrap (((BitVec.ofInt 64 a) &&& (BitVec.ofInt 64 1048575)).toNat : Int) = _
    have h : ((BitVec.ofInt 64 a) &&& (BitVec.ofInt 64 1048575)).toNat ≤ 1048575 := by
      rw [BitVec.toNat_and]
      have : (BitVec.ofInt 64 1048575).toNat = 1048575 := by decide
      rw [this]
      exact Nat.and_le_right
    exact IntWalk.i64_in _ (by omega)
theorem may_term {x : LV} (h : mayB x = true) : 1 ≤ x.term ∧ x.term ≤ 1048576 := by
  unfold mayB at h
  simp only [Bool.and_eq_true] at h
  exact inB_t.1 h.1.1.1.1.1.1.1.2
/-- what an answer saves: nothing, a vote, or a term -/
theorem answer_fits (s : SV) (x : LV) : answerL s x = ([], false, 1) ∨
    (0 ≤ x.src ∧ x.src ≤ 4 ∧ 1 ≤ x.term ∧ x.term ≤ 1048576 ∧ (
      (answerL s x = ([], false, 0) ∧ x.term ≤ s.term ∧ (s.vote ≠ x.src + 1 ∨ s.vote = x.src + 1 ∧ x.term < s.term ∨ s.vote = x.src + 1 ∧ x.term = s.term ∧ freshB s.l x.a x.b = false)) ∨
      (answerL s x = ([], true, 0) ∧ x.term = s.term ∧ s.vote = x.src + 1 ∧ freshB s.l x.a x.b = true) ∨
      (answerL s x = ([voteR x.term (x.src + 1)], true, 0) ∧ (s.term < x.term ∨ x.term = s.term ∧ s.vote = 0) ∧ freshB s.l x.a x.b = true) ∨
      (answerL s x = ([voteR x.term 0], false, 0) ∧ s.term < x.term))) := by
  rcases answer_cases s x with ⟨_, h⟩ | ⟨_, _, h⟩ | ⟨hm, _, h1, h2, h⟩
  · exact .inl h
  · exact .inl h
  · obtain ⟨h3, h4⟩ := may_term hm
    refine .inr ⟨h1, h2, h3, h4, ?_⟩
    rcases h with ⟨a, h⟩ | ⟨a, b, c, h⟩ | ⟨a, b, c, h⟩ | ⟨a, b, c, h⟩ | ⟨a, b, c, h⟩ | ⟨a, b, c, h⟩ | ⟨a, c, h⟩ | ⟨a, c, h⟩
    · refine .inl ⟨h, by omega, ?_⟩
      by_cases e : s.vote = x.src + 1
      · exact .inr (.inl ⟨e, a⟩)
      · exact .inl e
    · exact .inr (.inr (.inl ⟨h, .inr ⟨a, b⟩, c⟩))
    · exact .inl ⟨h, by omega, .inl (by omega)⟩
    · exact .inr (.inl ⟨h, a, b, c⟩)
    · exact .inl ⟨h, by omega, .inr (.inr ⟨b, a, c⟩)⟩
    · exact .inl ⟨h, by omega, .inl c⟩
    · exact .inr (.inr (.inl ⟨h, .inl a, c⟩))
    · exact .inr (.inr (.inr ⟨h, a⟩))
theorem i64_z {z : Nat} (h : z < 1048576) : I64 (z : Int) := ⟨by omega, by omega⟩

set_option maxRecDepth 100000 in
set_option maxHeartbeats 6400000 in
theorem law_ElectFits (s : SV) (x1 : LV)  (w : World) (hs : s.Ok w) (hx1 : x1.Ok w)  :
    Calls Try.prog 9 #[s.val, x1.val] w fun e w' => e = .returned (.bool true) ∧ Ext w w' := by
  have hS := fun w' (h : Ext w w') => law18_stable s.floor s.term s.vote s.A s.n s.c s.l w' (hs.es.ext h) hs.le hs.cap
  have hok1 := cutL_ok (m := 70) (k := 250) hs.es.ok
  obtain ⟨hu0, hu1, hu2⟩ : I64 s.floor ∧ I64 s.term ∧ I64 s.vote := ⟨hs.u0, hs.u1, hs.u2⟩
  have HS := Lib.hid hS; clear hS
  have Hok1 := Lib.hid hok1; clear hok1
  clear hs
  obtain ⟨floor, term, vote, A, n, c, l⟩ := s
  have hL1 := fun w' (h : Ext w w') => law18_letter x1.kind x1.src x1.dst x1.term x1.a x1.b x1.c x1.bin x1.ok x1.A x1.n x1.cp x1.l w' (hx1.es.ext h) hx1.le hx1.cap
  have hokx1 := cutL_ok (m := 6) (k := 250) hx1.es.ok
  have HL1 := Lib.hid hL1; clear hL1
  have Hokx1 := Lib.hid hokx1; clear hokx1
  obtain ⟨kind1, src1, dst1, xt1, la1, lb1, lc1, bin1, ok1, B1, m1, d1, l1⟩ := x1
  unfold SV.val LV.val
  dsimp only at HS Hok1 hu0 hu1 hu2 HL1 Hokx1 ⊢
  have HV : Hid (∀ (w' : World) A' n' c' l' t', I64 t' → Es w' A' n' l' → n' ≤ c' → c' ≤ maxLen → (⟨floor, t', vote, A', n', c', l'⟩ : SV).Ok w') := Lib.hid (fun w' B' m' d' l' t' ht' h1 h2 h3 => ⟨h1, h2, h3, hu0, ht', hu2⟩)
  have HU1 : Hid (∀ (w' : World) B' m' d' l', Es w' B' m' l' → m' ≤ d' → d' ≤ maxLen → (⟨kind1, src1, dst1, xt1, la1, lb1, lc1, bin1, ok1, B', m', d', l'⟩ : LV).Ok w') := Lib.hid (fun w' B' m' d' l' h1 h2 h3 => ⟨h1, h2, h3, hx1.u0, hx1.u1, hx1.u2, hx1.u3, hx1.u4, hx1.u5, hx1.u6, hx1.u7⟩)
  clear hx1
  clear hu0 hu2
  have hB0 : Blk ((w.alloc (.cells #[.int .i64 floor, .int .i64 term, .int .i64 vote, .slice A n c] 45)).alloc (.cells #[.int .i64 kind1, .int .i64 src1, .int .i64 dst1, .int .i64 xt1, .int .i64 la1, .int .i64 lb1, .int .i64 lc1, .int .i64 bin1, .bool ok1, .slice B1 m1 d1] 47)) (w.heap.size) 45 [.int .i64 floor, .int .i64 term, .int .i64 vote, .slice A n c] := by
    have h0 := Blk.new w 45 [.int .i64 floor, .int .i64 term, .int .i64 vote, .slice A n c]
    rw [show w.heap.size = w.heap.size by simp] at h0
    exact (h0.alloc _)
  have hB1 : Blk ((w.alloc (.cells #[.int .i64 floor, .int .i64 term, .int .i64 vote, .slice A n c] 45)).alloc (.cells #[.int .i64 kind1, .int .i64 src1, .int .i64 dst1, .int .i64 xt1, .int .i64 la1, .int .i64 lb1, .int .i64 lc1, .int .i64 bin1, .bool ok1, .slice B1 m1 d1] 47)) (w.heap.size + 1) 47 [.int .i64 kind1, .int .i64 src1, .int .i64 dst1, .int .i64 xt1, .int .i64 la1, .int .i64 lb1, .int .i64 lc1, .int .i64 bin1, .bool ok1, .slice B1 m1 d1] := by
    have h0 := Blk.new (w.alloc (.cells #[.int .i64 floor, .int .i64 term, .int .i64 vote, .slice A n c] 45)) 47 [.int .i64 kind1, .int .i64 src1, .int .i64 dst1, .int .i64 xt1, .int .i64 la1, .int .i64 lb1, .int .i64 lc1, .int .i64 bin1, .bool ok1, .slice B1 m1 d1]
    rw [show (w.alloc (.cells #[.int .i64 floor, .int .i64 term, .int .i64 vote, .slice A n c] 45)).heap.size = w.heap.size + 1 by simp] at h0
    exact h0
  have hxc : Ext w ((w.alloc (.cells #[.int .i64 floor, .int .i64 term, .int .i64 vote, .slice A n c] 45)).alloc (.cells #[.int .i64 kind1, .int .i64 src1, .int .i64 dst1, .int .i64 xt1, .int .i64 la1, .int .i64 lb1, .int .i64 lc1, .int .i64 bin1, .bool ok1, .slice B1 m1 d1] 47)) := ((Ext.refl w).alloc _).alloc _
  go_enter Try.func9, Try.ntmps9
  obtain ⟨z, hz, hand⟩ := and_term term
  go_wp2_with fail
  refine (law18_shown _).mono ?_
  rintro e w1 ⟨rfl, x1⟩
  replace hB0 := hB0.ext x1
  replace hB1 := hB1.ext x1
  replace hxc := hxc.trans x1
  clear x1
  have hlt0 := hB0.lt
  have hlt1 := hB1.lt
  have q0_0 := hB0.cell 0
  have q0_1 := hB0.cell 1
  have q0_2 := hB0.cell 2
  have q0_3 := hB0.cell 3
  have q1_0 := hB1.cell 0
  have q1_1 := hB1.cell 1
  have q1_2 := hB1.cell 2
  have q1_3 := hB1.cell 3
  have q1_4 := hB1.cell 4
  have q1_5 := hB1.cell 5
  have q1_6 := hB1.cell 6
  have q1_7 := hB1.cell 7
  have q1_8 := hB1.cell 8
  have q1_9 := hB1.cell 9
  simp only [List.getElem?_cons_zero, List.getElem?_cons_succ] at q0_0 q0_1 q0_2 q0_3 q1_0 q1_1 q1_2 q1_3 q1_4 q1_5 q1_6 q1_7 q1_8 q1_9
  go_wp2_with fail
  refine (HS.out _ hxc).mono ?_
  rintro e w2 ⟨v2, rfl, hown0, x2_⟩
  clear q0_0 q0_1 q0_2 q0_3 q1_0 q1_1 q1_2 q1_3 q1_4 q1_5 q1_6 q1_7 q1_8 q1_9
  obtain ⟨A9, c9, rfl, hc9, hcm9⟩ := own_form2 hown0
  have hn9 : min 70 n ≤ 70 := by omega
  generalize min 70 n = n9 at *
  replace hB0 := hB0.ext x2_
  replace hB1 := hB1.ext x2_
  have hsz2 := x2_.size
  replace hxc := hxc.trans x2_
  clear x2_
  have q0_0 := hB0.cell 0
  have q0_1 := hB0.cell 1
  have q0_2 := hB0.cell 2
  have q0_3 := hB0.cell 3
  have q1_0 := hB1.cell 0
  have q1_1 := hB1.cell 1
  have q1_2 := hB1.cell 2
  have q1_3 := hB1.cell 3
  have q1_4 := hB1.cell 4
  have q1_5 := hB1.cell 5
  have q1_6 := hB1.cell 6
  have q1_7 := hB1.cell 7
  have q1_8 := hB1.cell 8
  have q1_9 := hB1.cell 9
  simp only [List.getElem?_cons_zero, List.getElem?_cons_succ] at q0_0 q0_1 q0_2 q0_3 q1_0 q1_1 q1_2 q1_3 q1_4 q1_5 q1_6 q1_7 q1_8 q1_9
  have f0_0 := hB0.frozen 0
  have f0_1 := hB0.frozen 1
  have f0_2 := hB0.frozen 2
  have f0_3 := hB0.frozen 3
  have f1_0 := hB1.frozen 0
  have f1_1 := hB1.frozen 1
  have f1_2 := hB1.frozen 2
  have f1_3 := hB1.frozen 3
  have f1_4 := hB1.frozen 4
  have f1_5 := hB1.frozen 5
  have f1_6 := hB1.frozen 6
  have f1_7 := hB1.frozen 7
  have f1_8 := hB1.frozen 8
  have f1_9 := hB1.frozen 9
  go_wp2_with fail
  replace hB0 := hB0.set4 (.slice A9 n9 c9)
  replace hB1 := hB1.far4 (g' := w.heap.size) (by omega) (.int .i64 floor) (.int .i64 term) (.int .i64 vote) (.slice A9 n9 c9)
  replace hxc := hxc.set4 (g := w.heap.size) (by omega) (.int .i64 floor) (.int .i64 term) (.int .i64 vote) (.slice A9 n9 c9)
  replace hown0 := own_set4 hown0 (g := w.heap.size) (by omega) (.int .i64 floor) (.int .i64 term) (.int .i64 vote) (.slice A9 n9 c9)
  clear q0_0 q0_1 q0_2 q0_3 q1_0 q1_1 q1_2 q1_3 q1_4 q1_5 q1_6 q1_7 q1_8 q1_9 f0_0 f0_1 f0_2 f0_3 f1_0 f1_1 f1_2 f1_3 f1_4 f1_5 f1_6 f1_7 f1_8 f1_9
  generalize ((((w2.setCell ⟨w.heap.size, 0, none⟩ (.int .i64 floor)).setCell ⟨w.heap.size, 1, none⟩ (.int .i64 term)).setCell ⟨w.heap.size, 2, none⟩ (.int .i64 vote)).setCell ⟨w.heap.size, 3, none⟩ (.slice A9 n9 c9)) = W2 at *
  have hlt0_2 := hB0.lt
  have hlt1_2 := hB1.lt
  have q0_0 := hB0.cell 0
  have q0_1 := hB0.cell 1
  have q0_2 := hB0.cell 2
  have q0_3 := hB0.cell 3
  have q1_0 := hB1.cell 0
  have q1_1 := hB1.cell 1
  have q1_2 := hB1.cell 2
  have q1_3 := hB1.cell 3
  have q1_4 := hB1.cell 4
  have q1_5 := hB1.cell 5
  have q1_6 := hB1.cell 6
  have q1_7 := hB1.cell 7
  have q1_8 := hB1.cell 8
  have q1_9 := hB1.cell 9
  simp only [List.getElem?_cons_zero, List.getElem?_cons_succ] at q0_0 q0_1 q0_2 q0_3 q1_0 q1_1 q1_2 q1_3 q1_4 q1_5 q1_6 q1_7 q1_8 q1_9
  go_wp2_with fail
  refine (HL1.out _ hxc).mono ?_
  rintro e w3 ⟨v3, rfl, hown1, x3_⟩
  clear q0_0 q0_1 q0_2 q0_3 q1_0 q1_1 q1_2 q1_3 q1_4 q1_5 q1_6 q1_7 q1_8 q1_9
  obtain ⟨B19, d19, rfl, hd19, hd1m9⟩ := own_form2 hown1
  have hm19 : min 6 m1 ≤ 6 := by omega
  generalize min 6 m1 = m19 at *
  replace hB0 := hB0.ext x3_
  replace hB1 := hB1.ext x3_
  replace hown0 := own_ext hown0 x3_
  have hsz3 := x3_.size
  replace hxc := hxc.trans x3_
  clear x3_
  have q0_0 := hB0.cell 0
  have q0_1 := hB0.cell 1
  have q0_2 := hB0.cell 2
  have q0_3 := hB0.cell 3
  have q1_0 := hB1.cell 0
  have q1_1 := hB1.cell 1
  have q1_2 := hB1.cell 2
  have q1_3 := hB1.cell 3
  have q1_4 := hB1.cell 4
  have q1_5 := hB1.cell 5
  have q1_6 := hB1.cell 6
  have q1_7 := hB1.cell 7
  have q1_8 := hB1.cell 8
  have q1_9 := hB1.cell 9
  simp only [List.getElem?_cons_zero, List.getElem?_cons_succ] at q0_0 q0_1 q0_2 q0_3 q1_0 q1_1 q1_2 q1_3 q1_4 q1_5 q1_6 q1_7 q1_8 q1_9
  have f0_0 := hB0.frozen 0
  have f0_1 := hB0.frozen 1
  have f0_2 := hB0.frozen 2
  have f0_3 := hB0.frozen 3
  have f1_0 := hB1.frozen 0
  have f1_1 := hB1.frozen 1
  have f1_2 := hB1.frozen 2
  have f1_3 := hB1.frozen 3
  have f1_4 := hB1.frozen 4
  have f1_5 := hB1.frozen 5
  have f1_6 := hB1.frozen 6
  have f1_7 := hB1.frozen 7
  have f1_8 := hB1.frozen 8
  have f1_9 := hB1.frozen 9
  go_wp2_with fail
  replace hB0 := hB0.far10 (g' := w.heap.size + 1) (by omega) (.int .i64 kind1) (.int .i64 src1) (.int .i64 dst1) (.int .i64 xt1) (.int .i64 la1) (.int .i64 lb1) (.int .i64 lc1) (.int .i64 bin1) (.bool ok1) (.slice B19 m19 d19)
  replace hB1 := hB1.set10 (.slice B19 m19 d19)
  replace hxc := hxc.set10 (g := w.heap.size + 1) (by omega) (.int .i64 kind1) (.int .i64 src1) (.int .i64 dst1) (.int .i64 xt1) (.int .i64 la1) (.int .i64 lb1) (.int .i64 lc1) (.int .i64 bin1) (.bool ok1) (.slice B19 m19 d19)
  replace hown0 := own_set10 hown0 (g := w.heap.size + 1) (by omega) (.int .i64 kind1) (.int .i64 src1) (.int .i64 dst1) (.int .i64 xt1) (.int .i64 la1) (.int .i64 lb1) (.int .i64 lc1) (.int .i64 bin1) (.bool ok1) (.slice B19 m19 d19)
  replace hown1 := own_set10 hown1 (g := w.heap.size + 1) (by omega) (.int .i64 kind1) (.int .i64 src1) (.int .i64 dst1) (.int .i64 xt1) (.int .i64 la1) (.int .i64 lb1) (.int .i64 lc1) (.int .i64 bin1) (.bool ok1) (.slice B19 m19 d19)
  clear q0_0 q0_1 q0_2 q0_3 q1_0 q1_1 q1_2 q1_3 q1_4 q1_5 q1_6 q1_7 q1_8 q1_9 f0_0 f0_1 f0_2 f0_3 f1_0 f1_1 f1_2 f1_3 f1_4 f1_5 f1_6 f1_7 f1_8 f1_9
  generalize ((((((((((w3.setCell ⟨w.heap.size + 1, 0, none⟩ (.int .i64 kind1)).setCell ⟨w.heap.size + 1, 1, none⟩ (.int .i64 src1)).setCell ⟨w.heap.size + 1, 2, none⟩ (.int .i64 dst1)).setCell ⟨w.heap.size + 1, 3, none⟩ (.int .i64 xt1)).setCell ⟨w.heap.size + 1, 4, none⟩ (.int .i64 la1)).setCell ⟨w.heap.size + 1, 5, none⟩ (.int .i64 lb1)).setCell ⟨w.heap.size + 1, 6, none⟩ (.int .i64 lc1)).setCell ⟨w.heap.size + 1, 7, none⟩ (.int .i64 bin1)).setCell ⟨w.heap.size + 1, 8, none⟩ (.bool ok1)).setCell ⟨w.heap.size + 1, 9, none⟩ (.slice B19 m19 d19)) = W3 at *
  have hlt0_3 := hB0.lt
  have hlt1_3 := hB1.lt
  replace hB0 := hB0.set_ 1 (.int .i64 z)
  simp only [List.set_cons_succ, List.set_cons_zero] at hB0
  replace hB1 := hB1.far (p := ⟨w.heap.size, 1, none⟩) (by dsimp only; omega) (.int .i64 z)
  replace hxc := hxc.setCell (p := ⟨w.heap.size, 1, none⟩) (Nat.le_refl _) (.int .i64 z)
  replace hown0 := own_set hown0 (p := ⟨w.heap.size, 1, none⟩) (by dsimp only; omega) (.int .i64 z)
  replace hown1 := own_set hown1 (p := ⟨w.heap.size, 1, none⟩) (by dsimp only; omega) (.int .i64 z)
  generalize (W3.setCell ⟨w.heap.size, 1, none⟩ (.int .i64 z)) = W9 at *
  have hE : Es W9 A9 n9 (cutL 70 250 l) := Es.of_own hown0 fun f hf => (Hok1.out f hf).ext hxc
  have hOS := HV.out W9 A9 n9 c9 (cutL 70 250 l) z (i64_z hz) hE hc9 hcm9
  have hE1 : Es W9 B19 m19 (cutL 6 250 l1) := Es.of_own hown1 fun f hf => (Hokx1.out f hf).ext hxc
  have hOX1 := HU1.out W9 B19 m19 d19 (cutL 6 250 l1) hE1 hd19 hd1m9
  clear Hok1 HS HV hu1 Hokx1 HL1 HU1 hE1 hown0 hown1
  generalize cutL 70 250 l = L0 at *
  generalize cutL 6 250 l1 = L1 at *
  have hans := elect_Answer ⟨floor, (z : Int), vote, A9, n9, c9, L0⟩ ⟨kind1, src1, dst1, xt1, la1, lb1, lc1, bin1, ok1, B19, m19, d19, L1⟩ W9 hOS hOX1 (by dsimp only; omega) (by dsimp only; omega)
  have haf := answer_fits ⟨floor, (z : Int), vote, A9, n9, c9, L0⟩ ⟨kind1, src1, dst1, xt1, la1, lb1, lc1, bin1, ok1, B19, m19, d19, L1⟩
  have HF := Lib.hid (fun (w' : World) (h : Ext W9 w') => ref17_Fresh A9 n9 c9 L0 la1 lb1 w' (hE.ext h) (by omega))
  have HSV := Lib.hid (fun (t who : Nat) (R : Option Addr) (q : Nat) (w' : World) (h : Ext W9 w') => ref18_Steps_vote floor (z : Int) vote A9 n9 c9 L0 t who R q w' (hE.ext h) (by omega))
  unfold SV.val LV.val AnsPost at hans
  dsimp only at hans haf
  generalize answerL ⟨floor, (z : Int), vote, A9, n9, c9, L0⟩ ⟨kind1, src1, dst1, xt1, la1, lb1, lc1, bin1, ok1, B19, m19, d19, L1⟩ = ANS at *
  obtain ⟨RL, g, k⟩ := ANS
  dsimp only at hans haf
  clear hOS hOX1 hE
  obtain ⟨fr, hfr⟩ : ∃ b, freshB L0 la1 lb1 = b := ⟨_, rfl⟩
  rw [hfr] at haf
  rw [hfr] at HF
  have HANS := Lib.hid hans; clear hans hfr
  have q0_0 := hB0.cell 0
  have q0_1 := hB0.cell 1
  have q0_2 := hB0.cell 2
  have q0_3 := hB0.cell 3
  have q1_0 := hB1.cell 0
  have q1_1 := hB1.cell 1
  have q1_2 := hB1.cell 2
  have q1_3 := hB1.cell 3
  have q1_4 := hB1.cell 4
  have q1_5 := hB1.cell 5
  have q1_6 := hB1.cell 6
  have q1_7 := hB1.cell 7
  have q1_8 := hB1.cell 8
  have q1_9 := hB1.cell 9
  simp only [List.getElem?_cons_zero, List.getElem?_cons_succ] at q0_0 q0_1 q0_2 q0_3 q1_0 q1_1 q1_2 q1_3 q1_4 q1_5 q1_6 q1_7 q1_8 q1_9
  go_wp2_with fail
  refine HANS.out.mono ?_
  rintro e we ⟨v, rfl, ho, x⟩
  obtain ⟨A6, c6, rfl, _⟩ := own_form ho
  clear HANS
  have hB0' := hB0.ext x
  have hB1' := hB1.ext x
  have hxc' := hxc.trans x
  clear q0_0 q0_1 q0_2 q0_3 q1_0 q1_1 q1_2 q1_3 q1_4 q1_5 q1_6 q1_7 q1_8 q1_9 hB0 hB1 hxc
  rcases haf with hq | ⟨h1, h2, h3, h4, ⟨hq, h5, h6⟩ | ⟨hq, h5, h6, h7⟩ | ⟨hq, h5, h7⟩ | ⟨hq, h5⟩⟩
  · cases hq
    clear hB0' hB1'
    go_wp2
    go_ret
    exact ⟨rfl, hxc'⟩
  · cases hq
    have hmx : max (z : Int) xt1 = z := by omega
    have hz1 := hB1'.lt
    have q0_0 := hB0'.cell 0
    have q0_1 := hB0'.cell 1
    have q0_2 := hB0'.cell 2
    have q0_3 := hB0'.cell 3
    have q1_0 := hB1'.cell 0
    have q1_1 := hB1'.cell 1
    have q1_2 := hB1'.cell 2
    have q1_3 := hB1'.cell 3
    have q1_4 := hB1'.cell 4
    have q1_5 := hB1'.cell 5
    have q1_6 := hB1'.cell 6
    have q1_7 := hB1'.cell 7
    have q1_8 := hB1'.cell 8
    have q1_9 := hB1'.cell 9
    simp only [List.getElem?_cons_zero, List.getElem?_cons_succ] at q0_0 q0_1 q0_2 q0_3 q1_0 q1_1 q1_2 q1_3 q1_4 q1_5 q1_6 q1_7 q1_8 q1_9
    go_wp2_with fail
    refine (ref18_Steps_nil _ _ _ _ _ _ _ _ _).mono ?_
    rintro e w2 ⟨rfl, x2⟩
    clear q0_0 q0_1 q0_2 q0_3 q1_0 q1_1 q1_2 q1_3 q1_4 q1_5 q1_6 q1_7 q1_8 q1_9
    replace hB0' := hB0'.ext x2
    replace hB1' := hB1'.ext x2
    replace hxc' := hxc'.trans x2
    have q0_0 := hB0'.cell 0
    have q0_1 := hB0'.cell 1
    have q0_2 := hB0'.cell 2
    have q0_3 := hB0'.cell 3
    have q1_0 := hB1'.cell 0
    have q1_1 := hB1'.cell 1
    have q1_2 := hB1'.cell 2
    have q1_3 := hB1'.cell 3
    have q1_4 := hB1'.cell 4
    have q1_5 := hB1'.cell 5
    have q1_6 := hB1'.cell 6
    have q1_7 := hB1'.cell 7
    have q1_8 := hB1'.cell 8
    have q1_9 := hB1'.cell 9
    simp only [List.getElem?_cons_zero, List.getElem?_cons_succ] at q0_0 q0_1 q0_2 q0_3 q1_0 q1_1 q1_2 q1_3 q1_4 q1_5 q1_6 q1_7 q1_8 q1_9
    have hltA := hB0'.lt
    have hltB := hB1'.lt
    go_wp2_with fail
    refine (HF.out _ ((x.trans x2).alloc _)).mono ?_
    rintro e w3 ⟨rfl, x3⟩
    have hB0x := hB0'.ext (((Ext.refl w2).alloc _).trans x3)
    have hB1x := hB1'.ext (((Ext.refl w2).alloc _).trans x3)
    have hxc3 := hxc'.trans (((Ext.refl w2).alloc _).trans x3)
    clear q0_0 q0_1 q0_2 q0_3 q1_0 q1_1 q1_2 q1_3 q1_4 q1_5 q1_6 q1_7 q1_8 q1_9
    have q0_0 := hB0x.cell 0
    have q0_1 := hB0x.cell 1
    have q0_2 := hB0x.cell 2
    have q0_3 := hB0x.cell 3
    have q1_0 := hB1x.cell 0
    have q1_1 := hB1x.cell 1
    have q1_2 := hB1x.cell 2
    have q1_3 := hB1x.cell 3
    have q1_4 := hB1x.cell 4
    have q1_5 := hB1x.cell 5
    have q1_6 := hB1x.cell 6
    have q1_7 := hB1x.cell 7
    have q1_8 := hB1x.cell 8
    have q1_9 := hB1x.cell 9
    simp only [List.getElem?_cons_zero, List.getElem?_cons_succ] at q0_0 q0_1 q0_2 q0_3 q1_0 q1_1 q1_2 q1_3 q1_4 q1_5 q1_6 q1_7 q1_8 q1_9
    have BT := (Blk.new w2 45 [.int .i64 floor, .int .i64 z, .int .i64 vote, .slice A9 n9 c9]).ext x3
    have t0 := BT.cell 0
    have t1 := BT.cell 1
    have t2 := BT.cell 2
    have t3 := BT.cell 3
    simp only [List.getElem?_cons_zero, List.getElem?_cons_succ] at t0 t1 t2 t3
    clear BT hB0x hB1x hB0' hB1'
    rcases h6 with h6 | ⟨h6, h7⟩ | ⟨h6, h7, h8⟩
    · have g1 := beq_f h6
      clear h6
      go_wp2
      go_ret
      exact ⟨rfl, hxc3⟩
    · have g1 := beq_f (show (z : Int) ≠ xt1 by omega)
      have g2 := beq_t h6
      clear h6 h7
      go_wp2
      go_ret
      exact ⟨rfl, hxc3⟩
    · have g2 := beq_t h6
      have g1 := beq_t h7.symm
      subst h8
      clear h6 h7
      go_wp2
      go_ret
      exact ⟨rfl, hxc3⟩
  · cases hq
    have hmx : max (z : Int) xt1 = z := by omega
    have H5 := Lib.hid h5
    have H6 := Lib.hid h6
    have H7 := Lib.hid h7
    clear h5 h6 h7
    have hz1 := hB1'.lt
    have q0_0 := hB0'.cell 0
    have q0_1 := hB0'.cell 1
    have q0_2 := hB0'.cell 2
    have q0_3 := hB0'.cell 3
    have q1_0 := hB1'.cell 0
    have q1_1 := hB1'.cell 1
    have q1_2 := hB1'.cell 2
    have q1_3 := hB1'.cell 3
    have q1_4 := hB1'.cell 4
    have q1_5 := hB1'.cell 5
    have q1_6 := hB1'.cell 6
    have q1_7 := hB1'.cell 7
    have q1_8 := hB1'.cell 8
    have q1_9 := hB1'.cell 9
    simp only [List.getElem?_cons_zero, List.getElem?_cons_succ] at q0_0 q0_1 q0_2 q0_3 q1_0 q1_1 q1_2 q1_3 q1_4 q1_5 q1_6 q1_7 q1_8 q1_9
    go_wp2_with fail
    refine (ref18_Steps_nil _ _ _ _ _ _ _ _ _).mono ?_
    rintro e w2 ⟨rfl, x2⟩
    clear q0_0 q0_1 q0_2 q0_3 q1_0 q1_1 q1_2 q1_3 q1_4 q1_5 q1_6 q1_7 q1_8 q1_9
    replace hB0' := hB0'.ext x2
    replace hB1' := hB1'.ext x2
    replace hxc' := hxc'.trans x2
    have q0_0 := hB0'.cell 0
    have q0_1 := hB0'.cell 1
    have q0_2 := hB0'.cell 2
    have q0_3 := hB0'.cell 3
    have q1_0 := hB1'.cell 0
    have q1_1 := hB1'.cell 1
    have q1_2 := hB1'.cell 2
    have q1_3 := hB1'.cell 3
    have q1_4 := hB1'.cell 4
    have q1_5 := hB1'.cell 5
    have q1_6 := hB1'.cell 6
    have q1_7 := hB1'.cell 7
    have q1_8 := hB1'.cell 8
    have q1_9 := hB1'.cell 9
    simp only [List.getElem?_cons_zero, List.getElem?_cons_succ] at q0_0 q0_1 q0_2 q0_3 q1_0 q1_1 q1_2 q1_3 q1_4 q1_5 q1_6 q1_7 q1_8 q1_9
    have hltA := hB0'.lt
    have hltB := hB1'.lt
    go_wp2_with fail
    refine (HF.out _ ((x.trans x2).alloc _)).mono ?_
    rintro e w3 ⟨rfl, x3⟩
    have hB0x := hB0'.ext (((Ext.refl w2).alloc _).trans x3)
    have hB1x := hB1'.ext (((Ext.refl w2).alloc _).trans x3)
    have hxc3 := hxc'.trans (((Ext.refl w2).alloc _).trans x3)
    clear q0_0 q0_1 q0_2 q0_3 q1_0 q1_1 q1_2 q1_3 q1_4 q1_5 q1_6 q1_7 q1_8 q1_9
    have q0_0 := hB0x.cell 0
    have q0_1 := hB0x.cell 1
    have q0_2 := hB0x.cell 2
    have q0_3 := hB0x.cell 3
    have q1_0 := hB1x.cell 0
    have q1_1 := hB1x.cell 1
    have q1_2 := hB1x.cell 2
    have q1_3 := hB1x.cell 3
    have q1_4 := hB1x.cell 4
    have q1_5 := hB1x.cell 5
    have q1_6 := hB1x.cell 6
    have q1_7 := hB1x.cell 7
    have q1_8 := hB1x.cell 8
    have q1_9 := hB1x.cell 9
    simp only [List.getElem?_cons_zero, List.getElem?_cons_succ] at q0_0 q0_1 q0_2 q0_3 q1_0 q1_1 q1_2 q1_3 q1_4 q1_5 q1_6 q1_7 q1_8 q1_9
    have BT := (Blk.new w2 45 [.int .i64 floor, .int .i64 z, .int .i64 vote, .slice A9 n9 c9]).ext x3
    have t0 := BT.cell 0
    have t1 := BT.cell 1
    have t2 := BT.cell 2
    have t3 := BT.cell 3
    simp only [List.getElem?_cons_zero, List.getElem?_cons_succ] at t0 t1 t2 t3
    clear BT hB0x hB1x hB0' hB1'
    have g2 := beq_t H6.out
    have g1 := beq_t H5.out.symm
    have h7 := H7.out
    subst h7
    go_wp2
    go_ret
    exact ⟨rfl, hxc3⟩
  · cases hq
    rcases h5 with h5 | ⟨rfl, h5⟩
    · have h5' := h5
      clear h5'
      have hR := Rs.of_own (l := [voteR xt1 (src1 + 1)]) ho (by intro f hf; simp only [List.mem_singleton] at hf; subst hf; exact voteR_ok _ _ _)
      have et : ((xt1.toNat : Nat) : Int) = xt1 := by omega
      have ew : (((src1 + 1).toNat : Nat) : Int) = (src1 + 1) := by omega
      have hst := HSV.out (xt1.toNat) ((src1 + 1).toNat) A6 c6 we x (by rw [et, ew]; exact hR) (by omega) (by omega) (by omega)
      rw [et, ew] at hst
      have HST := Lib.hid hst
      clear hst et ew hR ho
      have H7 := Lib.hid h7
      clear h7
      have q0_0 := hB0'.cell 0
      have q0_1 := hB0'.cell 1
      have q0_2 := hB0'.cell 2
      have q0_3 := hB0'.cell 3
      have q1_0 := hB1'.cell 0
      have q1_1 := hB1'.cell 1
      have q1_2 := hB1'.cell 2
      have q1_3 := hB1'.cell 3
      have q1_4 := hB1'.cell 4
      have q1_5 := hB1'.cell 5
      have q1_6 := hB1'.cell 6
      have q1_7 := hB1'.cell 7
      have q1_8 := hB1'.cell 8
      have q1_9 := hB1'.cell 9
      simp only [List.getElem?_cons_zero, List.getElem?_cons_succ] at q0_0 q0_1 q0_2 q0_3 q1_0 q1_1 q1_2 q1_3 q1_4 q1_5 q1_6 q1_7 q1_8 q1_9
      go_wp2_with fail
      refine HST.out.mono ?_
      clear HST
      rintro e w2 ⟨v2, rfl, hown2, x2⟩
      obtain ⟨A2, c2, rfl, _⟩ := own_form hown2
      clear q0_0 q0_1 q0_2 q0_3 q1_0 q1_1 q1_2 q1_3 q1_4 q1_5 q1_6 q1_7 q1_8 q1_9 hown2
      replace hB0' := hB0'.ext x2
      replace hB1' := hB1'.ext x2
      replace hxc' := hxc'.trans x2
      have q0_0 := hB0'.cell 0
      have q0_1 := hB0'.cell 1
      have q0_2 := hB0'.cell 2
      have q0_3 := hB0'.cell 3
      have q1_0 := hB1'.cell 0
      have q1_1 := hB1'.cell 1
      have q1_2 := hB1'.cell 2
      have q1_3 := hB1'.cell 3
      have q1_4 := hB1'.cell 4
      have q1_5 := hB1'.cell 5
      have q1_6 := hB1'.cell 6
      have q1_7 := hB1'.cell 7
      have q1_8 := hB1'.cell 8
      have q1_9 := hB1'.cell 9
      simp only [List.getElem?_cons_zero, List.getElem?_cons_succ] at q0_0 q0_1 q0_2 q0_3 q1_0 q1_1 q1_2 q1_3 q1_4 q1_5 q1_6 q1_7 q1_8 q1_9
      have hltA := hB0'.lt
      have hltB := hB1'.lt
      go_wp2_with fail
      refine (HF.out _ ((x.trans x2).alloc _)).mono ?_
      rintro e w3 ⟨rfl, x3⟩
      have hB0x := hB0'.ext (((Ext.refl w2).alloc _).trans x3)
      have hB1x := hB1'.ext (((Ext.refl w2).alloc _).trans x3)
      have hxc3 := hxc'.trans (((Ext.refl w2).alloc _).trans x3)
      clear q0_0 q0_1 q0_2 q0_3 q1_0 q1_1 q1_2 q1_3 q1_4 q1_5 q1_6 q1_7 q1_8 q1_9
      have q0_0 := hB0x.cell 0
      have q0_1 := hB0x.cell 1
      have q0_2 := hB0x.cell 2
      have q0_3 := hB0x.cell 3
      have q1_0 := hB1x.cell 0
      have q1_1 := hB1x.cell 1
      have q1_2 := hB1x.cell 2
      have q1_3 := hB1x.cell 3
      have q1_4 := hB1x.cell 4
      have q1_5 := hB1x.cell 5
      have q1_6 := hB1x.cell 6
      have q1_7 := hB1x.cell 7
      have q1_8 := hB1x.cell 8
      have q1_9 := hB1x.cell 9
      simp only [List.getElem?_cons_zero, List.getElem?_cons_succ] at q0_0 q0_1 q0_2 q0_3 q1_0 q1_1 q1_2 q1_3 q1_4 q1_5 q1_6 q1_7 q1_8 q1_9
      have BT := (Blk.new w2 45 [.int .i64 floor, .int .i64 xt1, .int .i64 (src1 + 1), .slice A2 n9 c2]).ext x3
      have t0 := BT.cell 0
      have t1 := BT.cell 1
      have t2 := BT.cell 2
      have t3 := BT.cell 3
      simp only [List.getElem?_cons_zero, List.getElem?_cons_succ] at t0 t1 t2 t3
      clear BT hB0x hB1x hB0' hB1'
      have h7 := H7.out
      subst h7
      have e1 : IntKind.i64.wrap (src1 + 1) = src1 + 1 := IntWalk.i64_in _ (by omega)
      go_wp2
      go_ret
      exact ⟨rfl, hxc3⟩
    · have h5' := h5
      clear h5'
      have hR := Rs.of_own (l := [voteR (z : Int) (src1 + 1)]) ho (by intro f hf; simp only [List.mem_singleton] at hf; subst hf; exact voteR_ok _ _ _)
      have et : ((z : Nat) : Int) = (z : Int) := by omega
      have ew : (((src1 + 1).toNat : Nat) : Int) = (src1 + 1) := by omega
      have hst := HSV.out (z) ((src1 + 1).toNat) A6 c6 we x (by rw [et, ew]; exact hR) (by omega) (by omega) (by omega)
      rw [et, ew] at hst
      have HST := Lib.hid hst
      clear hst et ew hR ho
      have H5 := Lib.hid h5
      clear h5
      have H7 := Lib.hid h7
      clear h7
      have q0_0 := hB0'.cell 0
      have q0_1 := hB0'.cell 1
      have q0_2 := hB0'.cell 2
      have q0_3 := hB0'.cell 3
      have q1_0 := hB1'.cell 0
      have q1_1 := hB1'.cell 1
      have q1_2 := hB1'.cell 2
      have q1_3 := hB1'.cell 3
      have q1_4 := hB1'.cell 4
      have q1_5 := hB1'.cell 5
      have q1_6 := hB1'.cell 6
      have q1_7 := hB1'.cell 7
      have q1_8 := hB1'.cell 8
      have q1_9 := hB1'.cell 9
      simp only [List.getElem?_cons_zero, List.getElem?_cons_succ] at q0_0 q0_1 q0_2 q0_3 q1_0 q1_1 q1_2 q1_3 q1_4 q1_5 q1_6 q1_7 q1_8 q1_9
      go_wp2_with fail
      refine HST.out.mono ?_
      clear HST
      rintro e w2 ⟨v2, rfl, hown2, x2⟩
      obtain ⟨A2, c2, rfl, _⟩ := own_form hown2
      clear q0_0 q0_1 q0_2 q0_3 q1_0 q1_1 q1_2 q1_3 q1_4 q1_5 q1_6 q1_7 q1_8 q1_9 hown2
      replace hB0' := hB0'.ext x2
      replace hB1' := hB1'.ext x2
      replace hxc' := hxc'.trans x2
      have q0_0 := hB0'.cell 0
      have q0_1 := hB0'.cell 1
      have q0_2 := hB0'.cell 2
      have q0_3 := hB0'.cell 3
      have q1_0 := hB1'.cell 0
      have q1_1 := hB1'.cell 1
      have q1_2 := hB1'.cell 2
      have q1_3 := hB1'.cell 3
      have q1_4 := hB1'.cell 4
      have q1_5 := hB1'.cell 5
      have q1_6 := hB1'.cell 6
      have q1_7 := hB1'.cell 7
      have q1_8 := hB1'.cell 8
      have q1_9 := hB1'.cell 9
      simp only [List.getElem?_cons_zero, List.getElem?_cons_succ] at q0_0 q0_1 q0_2 q0_3 q1_0 q1_1 q1_2 q1_3 q1_4 q1_5 q1_6 q1_7 q1_8 q1_9
      have hltA := hB0'.lt
      have hltB := hB1'.lt
      go_wp2_with fail
      refine (HF.out _ ((x.trans x2).alloc _)).mono ?_
      rintro e w3 ⟨rfl, x3⟩
      have hB0x := hB0'.ext (((Ext.refl w2).alloc _).trans x3)
      have hB1x := hB1'.ext (((Ext.refl w2).alloc _).trans x3)
      have hxc3 := hxc'.trans (((Ext.refl w2).alloc _).trans x3)
      clear q0_0 q0_1 q0_2 q0_3 q1_0 q1_1 q1_2 q1_3 q1_4 q1_5 q1_6 q1_7 q1_8 q1_9
      have q0_0 := hB0x.cell 0
      have q0_1 := hB0x.cell 1
      have q0_2 := hB0x.cell 2
      have q0_3 := hB0x.cell 3
      have q1_0 := hB1x.cell 0
      have q1_1 := hB1x.cell 1
      have q1_2 := hB1x.cell 2
      have q1_3 := hB1x.cell 3
      have q1_4 := hB1x.cell 4
      have q1_5 := hB1x.cell 5
      have q1_6 := hB1x.cell 6
      have q1_7 := hB1x.cell 7
      have q1_8 := hB1x.cell 8
      have q1_9 := hB1x.cell 9
      simp only [List.getElem?_cons_zero, List.getElem?_cons_succ] at q0_0 q0_1 q0_2 q0_3 q1_0 q1_1 q1_2 q1_3 q1_4 q1_5 q1_6 q1_7 q1_8 q1_9
      have BT := (Blk.new w2 45 [.int .i64 floor, .int .i64 (z : Int), .int .i64 (src1 + 1), .slice A2 n9 c2]).ext x3
      have t0 := BT.cell 0
      have t1 := BT.cell 1
      have t2 := BT.cell 2
      have t3 := BT.cell 3
      simp only [List.getElem?_cons_zero, List.getElem?_cons_succ] at t0 t1 t2 t3
      clear BT hB0x hB1x hB0' hB1'
      have h7 := H7.out
      subst h7
      have e1 : IntKind.i64.wrap (src1 + 1) = src1 + 1 := IntWalk.i64_in _ (by omega)
      go_wp2
      go_ret
      exact ⟨rfl, hxc3⟩
  · cases hq
    have hR := Rs.of_own (l := [voteR xt1 0]) ho (by intro f hf; simp only [List.mem_singleton] at hf; subst hf; exact voteR_ok _ _ _)
    have et : ((xt1.toNat : Nat) : Int) = xt1 := by omega
    have ew : ((0 : Nat) : Int) = 0 := by omega
    have hst := HSV.out (xt1.toNat) (0) A6 c6 we x (by rw [et, ew]; exact hR) (by omega) (by omega) (by omega)
    rw [et, ew] at hst
    have HST := Lib.hid hst
    clear hst et ew hR ho
    have q0_0 := hB0'.cell 0
    have q0_1 := hB0'.cell 1
    have q0_2 := hB0'.cell 2
    have q0_3 := hB0'.cell 3
    have q1_0 := hB1'.cell 0
    have q1_1 := hB1'.cell 1
    have q1_2 := hB1'.cell 2
    have q1_3 := hB1'.cell 3
    have q1_4 := hB1'.cell 4
    have q1_5 := hB1'.cell 5
    have q1_6 := hB1'.cell 6
    have q1_7 := hB1'.cell 7
    have q1_8 := hB1'.cell 8
    have q1_9 := hB1'.cell 9
    simp only [List.getElem?_cons_zero, List.getElem?_cons_succ] at q0_0 q0_1 q0_2 q0_3 q1_0 q1_1 q1_2 q1_3 q1_4 q1_5 q1_6 q1_7 q1_8 q1_9
    go_wp2_with fail
    refine HST.out.mono ?_
    clear HST
    rintro e w2 ⟨v2, rfl, hown2, x2⟩
    obtain ⟨A2, c2, rfl, _⟩ := own_form hown2
    clear q0_0 q0_1 q0_2 q0_3 q1_0 q1_1 q1_2 q1_3 q1_4 q1_5 q1_6 q1_7 q1_8 q1_9 hown2
    replace hB0' := hB0'.ext x2
    replace hB1' := hB1'.ext x2
    replace hxc' := hxc'.trans x2
    have q0_0 := hB0'.cell 0
    have q0_1 := hB0'.cell 1
    have q0_2 := hB0'.cell 2
    have q0_3 := hB0'.cell 3
    have q1_0 := hB1'.cell 0
    have q1_1 := hB1'.cell 1
    have q1_2 := hB1'.cell 2
    have q1_3 := hB1'.cell 3
    have q1_4 := hB1'.cell 4
    have q1_5 := hB1'.cell 5
    have q1_6 := hB1'.cell 6
    have q1_7 := hB1'.cell 7
    have q1_8 := hB1'.cell 8
    have q1_9 := hB1'.cell 9
    simp only [List.getElem?_cons_zero, List.getElem?_cons_succ] at q0_0 q0_1 q0_2 q0_3 q1_0 q1_1 q1_2 q1_3 q1_4 q1_5 q1_6 q1_7 q1_8 q1_9
    have hltA := hB0'.lt
    have hltB := hB1'.lt
    go_wp2_with fail
    refine (HF.out _ ((x.trans x2).alloc _)).mono ?_
    rintro e w3 ⟨rfl, x3⟩
    have hB0x := hB0'.ext (((Ext.refl w2).alloc _).trans x3)
    have hB1x := hB1'.ext (((Ext.refl w2).alloc _).trans x3)
    have hxc3 := hxc'.trans (((Ext.refl w2).alloc _).trans x3)
    clear q0_0 q0_1 q0_2 q0_3 q1_0 q1_1 q1_2 q1_3 q1_4 q1_5 q1_6 q1_7 q1_8 q1_9
    have q0_0 := hB0x.cell 0
    have q0_1 := hB0x.cell 1
    have q0_2 := hB0x.cell 2
    have q0_3 := hB0x.cell 3
    have q1_0 := hB1x.cell 0
    have q1_1 := hB1x.cell 1
    have q1_2 := hB1x.cell 2
    have q1_3 := hB1x.cell 3
    have q1_4 := hB1x.cell 4
    have q1_5 := hB1x.cell 5
    have q1_6 := hB1x.cell 6
    have q1_7 := hB1x.cell 7
    have q1_8 := hB1x.cell 8
    have q1_9 := hB1x.cell 9
    simp only [List.getElem?_cons_zero, List.getElem?_cons_succ] at q0_0 q0_1 q0_2 q0_3 q1_0 q1_1 q1_2 q1_3 q1_4 q1_5 q1_6 q1_7 q1_8 q1_9
    have BT := (Blk.new w2 45 [.int .i64 floor, .int .i64 xt1, .int .i64 0, .slice A2 n9 c2]).ext x3
    have t0 := BT.cell 0
    have t1 := BT.cell 1
    have t2 := BT.cell 2
    have t3 := BT.cell 3
    simp only [List.getElem?_cons_zero, List.getElem?_cons_succ] at t0 t1 t2 t3
    clear BT hB0x hB1x hB0' hB1'
    have g1 := beq_f (show (0 : Int) ≠ src1 + 1 by omega)
    go_wp2
    go_ret
    exact ⟨rfl, hxc3⟩
end Go.Proofs.Ytcdnjhcddbkciaa

