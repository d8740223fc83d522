/- The walk of the law ElectAll. -/
import Derived.Test.YtcdnjhcddbkciaaElF
import Derived.Test.YtcdnjhcddbkciaaElG
import Derived.Test.YtcdnjhcddbkciaaElD
namespace Go.Proofs.Ytcdnjhcddbkciaa
open Go.RowKit

theorem standL_ok (st me : Int) (w : World) : ∀ f ∈ (standL st me).1, f.Ok w := by
  intro f hf
  unfold standL at hf
  split at hf
  · simp at hf
  · split at hf
    · simp at hf
    · simp only [List.mem_singleton] at hf; subst hf; exact voteR_ok _ _ _
theorem standL_len (st me : Int) : (standL st me).1.length ≤ 1 := by
  unfold standL; split
  · simp
  · split <;> simp
theorem newerL_len (st t : Int) : (newerL st t).length ≤ 1 := by unfold newerL; split <;> simp
theorem answerL_ok (s : SV) (x : LV) (w : World) : (∀ f ∈ (answerL s x).1, f.Ok w) ∧ (answerL s x).1.length ≤ 1 := by
  unfold answerL
  split
  · simp
  · split
    · split
      · simp
      · refine ⟨?_, by simp⟩
        intro f hf; simp only [List.mem_singleton] at hf; subst hf; exact voteR_ok _ _ _
    · exact ⟨newerL_ok _ _ _, newerL_len _ _⟩
theorem Bl.upto {w : World} {A : Option Addr} {n : Nat} {l : List Bool} (h : Bl w A n l) {hi : Nat} (hh : hi ≤ n) : Bl w A hi (l.take hi) := by
  have := Rd.part h (lo := 0) (m := hi) (by omega) A (fun _ b off e => by simpa using e)
  unfold Bl
  rw [List.map_take]
  simpa using this

set_option maxRecDepth 100000 in
set_option maxHeartbeats 6400000 in
theorem law_ElectAll_a (s : SV) (x1 : LV) (yn : Int) (D : Option Addr) (p q : Nat) (yl : List Bool)  (w : World) (hs : s.Ok w) (hx1 : x1.Ok w) (hy : Bl w D p yl) (hpq : p ≤ q) (hqm : q ≤ maxLen) (h20 : 20 < p) :
    Calls Try.prog 13 #[s.val, x1.val, .agg #[.int .i64 yn, .slice D p q]] w fun e w' => e = .returned (.bool true) ∧ Ext w w' := by
  have hS := fun w' (h : Ext w w') => law18_stable s.floor s.term s.vote s.A s.n s.c s.l w' (hs.es.ext h) hs.le hs.cap
  have hok1 := cutL_ok (m := 70) (k := 250) hs.es.ok
  obtain ⟨hu0, hu1, hu2⟩ : I64 s.floor ∧ I64 s.term ∧ I64 s.vote := ⟨hs.u0, hs.u1, hs.u2⟩
  have HS := Lib.hid hS; clear hS
  have Hok1 := Lib.hid hok1; clear hok1
  clear hs
  obtain ⟨floor, term, vote, A, n, c, l⟩ := s
  have hL1 := fun w' (h : Ext w w') => law18_letter x1.kind x1.src x1.dst x1.term x1.a x1.b x1.c x1.bin x1.ok x1.A x1.n x1.cp x1.l w' (hx1.es.ext h) hx1.le hx1.cap
  have hokx1 := cutL_ok (m := 6) (k := 250) hx1.es.ok
  have HL1 := Lib.hid hL1; clear hL1
  have Hokx1 := Lib.hid hokx1; clear hokx1
  obtain ⟨kind1, src1, dst1, xt1, la1, lb1, lc1, bin1, ok1, B1, m1, d1, l1⟩ := x1
  unfold SV.val LV.val
  dsimp only at HS Hok1 hu0 hu1 hu2 HL1 Hokx1 ⊢
  have HV : Hid (∀ (w' : World) A' n' c' l' t', I64 t' → Es w' A' n' l' → n' ≤ c' → c' ≤ maxLen → (⟨floor, t', vote, A', n', c', l'⟩ : SV).Ok w') := Lib.hid (fun w' B' m' d' l' t' ht' h1 h2 h3 => ⟨h1, h2, h3, hu0, ht', hu2⟩)
  have HU1 : Hid (∀ (w' : World) B' m' d' l', Es w' B' m' l' → m' ≤ d' → d' ≤ maxLen → (⟨kind1, src1, dst1, xt1, la1, lb1, lc1, bin1, ok1, B', m', d', l'⟩ : LV).Ok w') := Lib.hid (fun w' B' m' d' l' h1 h2 h3 => ⟨h1, h2, h3, hx1.u0, hx1.u1, hx1.u2, hx1.u3, hx1.u4, hx1.u5, hx1.u6, hx1.u7⟩)
  clear hx1
  clear hu0 hu2
  have hB0 : Blk (((w.alloc (.cells #[.int .i64 floor, .int .i64 term, .int .i64 vote, .slice A n c] 45)).alloc (.cells #[.int .i64 kind1, .int .i64 src1, .int .i64 dst1, .int .i64 xt1, .int .i64 la1, .int .i64 lb1, .int .i64 lc1, .int .i64 bin1, .bool ok1, .slice B1 m1 d1] 47)).alloc (.cells #[.int .i64 yn, .slice D p q] 62)) (w.heap.size) 45 [.int .i64 floor, .int .i64 term, .int .i64 vote, .slice A n c] := by
    have h0 := Blk.new w 45 [.int .i64 floor, .int .i64 term, .int .i64 vote, .slice A n c]
    rw [show w.heap.size = w.heap.size by simp] at h0
    exact ((h0.alloc _).alloc _)
  have hB1 : Blk (((w.alloc (.cells #[.int .i64 floor, .int .i64 term, .int .i64 vote, .slice A n c] 45)).alloc (.cells #[.int .i64 kind1, .int .i64 src1, .int .i64 dst1, .int .i64 xt1, .int .i64 la1, .int .i64 lb1, .int .i64 lc1, .int .i64 bin1, .bool ok1, .slice B1 m1 d1] 47)).alloc (.cells #[.int .i64 yn, .slice D p q] 62)) (w.heap.size + 1) 47 [.int .i64 kind1, .int .i64 src1, .int .i64 dst1, .int .i64 xt1, .int .i64 la1, .int .i64 lb1, .int .i64 lc1, .int .i64 bin1, .bool ok1, .slice B1 m1 d1] := by
    have h0 := Blk.new (w.alloc (.cells #[.int .i64 floor, .int .i64 term, .int .i64 vote, .slice A n c] 45)) 47 [.int .i64 kind1, .int .i64 src1, .int .i64 dst1, .int .i64 xt1, .int .i64 la1, .int .i64 lb1, .int .i64 lc1, .int .i64 bin1, .bool ok1, .slice B1 m1 d1]
    rw [show (w.alloc (.cells #[.int .i64 floor, .int .i64 term, .int .i64 vote, .slice A n c] 45)).heap.size = w.heap.size + 1 by simp] at h0
    exact (h0.alloc _)
  have hB2 : Blk (((w.alloc (.cells #[.int .i64 floor, .int .i64 term, .int .i64 vote, .slice A n c] 45)).alloc (.cells #[.int .i64 kind1, .int .i64 src1, .int .i64 dst1, .int .i64 xt1, .int .i64 la1, .int .i64 lb1, .int .i64 lc1, .int .i64 bin1, .bool ok1, .slice B1 m1 d1] 47)).alloc (.cells #[.int .i64 yn, .slice D p q] 62)) (w.heap.size + 1 + 1) 62 [.int .i64 yn, .slice D p q] := by
    have h0 := Blk.new ((w.alloc (.cells #[.int .i64 floor, .int .i64 term, .int .i64 vote, .slice A n c] 45)).alloc (.cells #[.int .i64 kind1, .int .i64 src1, .int .i64 dst1, .int .i64 xt1, .int .i64 la1, .int .i64 lb1, .int .i64 lc1, .int .i64 bin1, .bool ok1, .slice B1 m1 d1] 47)) 62 [.int .i64 yn, .slice D p q]
    rw [show ((w.alloc (.cells #[.int .i64 floor, .int .i64 term, .int .i64 vote, .slice A n c] 45)).alloc (.cells #[.int .i64 kind1, .int .i64 src1, .int .i64 dst1, .int .i64 xt1, .int .i64 la1, .int .i64 lb1, .int .i64 lc1, .int .i64 bin1, .bool ok1, .slice B1 m1 d1] 47)).heap.size = w.heap.size + 1 + 1 by simp] at h0
    exact h0
  have hxc : Ext w (((w.alloc (.cells #[.int .i64 floor, .int .i64 term, .int .i64 vote, .slice A n c] 45)).alloc (.cells #[.int .i64 kind1, .int .i64 src1, .int .i64 dst1, .int .i64 xt1, .int .i64 la1, .int .i64 lb1, .int .i64 lc1, .int .i64 bin1, .bool ok1, .slice B1 m1 d1] 47)).alloc (.cells #[.int .i64 yn, .slice D p q] 62)) := (((Ext.refl w).alloc _).alloc _).alloc _
  go_enter Try.func13, Try.ntmps13
  go_wp2_with fail
  refine (law18_shown _).mono ?_
  rintro e w1 ⟨rfl, x1⟩
  replace hB0 := hB0.ext x1
  replace hB1 := hB1.ext x1
  replace hB2 := hB2.ext x1
  replace hxc := hxc.trans x1
  clear x1
  have hlt0 := hB0.lt
  have hlt1 := hB1.lt
  have hlt2 := hB2.lt
  have q0_0 := hB0.cell 0
  have q0_1 := hB0.cell 1
  have q0_2 := hB0.cell 2
  have q0_3 := hB0.cell 3
  have q1_0 := hB1.cell 0
  have q1_1 := hB1.cell 1
  have q1_2 := hB1.cell 2
  have q1_3 := hB1.cell 3
  have q1_4 := hB1.cell 4
  have q1_5 := hB1.cell 5
  have q1_6 := hB1.cell 6
  have q1_7 := hB1.cell 7
  have q1_8 := hB1.cell 8
  have q1_9 := hB1.cell 9
  have q2_0 := hB2.cell 0
  have q2_1 := hB2.cell 1
  simp only [List.getElem?_cons_zero, List.getElem?_cons_succ] at q0_0 q0_1 q0_2 q0_3 q1_0 q1_1 q1_2 q1_3 q1_4 q1_5 q1_6 q1_7 q1_8 q1_9 q2_0 q2_1
  go_wp2_with fail
  refine (HS.out _ hxc).mono ?_
  rintro e w2 ⟨v2, rfl, hown0, x2_⟩
  clear q0_0 q0_1 q0_2 q0_3 q1_0 q1_1 q1_2 q1_3 q1_4 q1_5 q1_6 q1_7 q1_8 q1_9 q2_0 q2_1
  obtain ⟨A9, c9, rfl, hc9, hcm9⟩ := own_form2 hown0
  have hn9 : min 70 n ≤ 70 := by omega
  generalize min 70 n = n9 at *
  replace hB0 := hB0.ext x2_
  replace hB1 := hB1.ext x2_
  replace hB2 := hB2.ext x2_
  have hsz2 := x2_.size
  replace hxc := hxc.trans x2_
  clear x2_
  have q0_0 := hB0.cell 0
  have q0_1 := hB0.cell 1
  have q0_2 := hB0.cell 2
  have q0_3 := hB0.cell 3
  have q1_0 := hB1.cell 0
  have q1_1 := hB1.cell 1
  have q1_2 := hB1.cell 2
  have q1_3 := hB1.cell 3
  have q1_4 := hB1.cell 4
  have q1_5 := hB1.cell 5
  have q1_6 := hB1.cell 6
  have q1_7 := hB1.cell 7
  have q1_8 := hB1.cell 8
  have q1_9 := hB1.cell 9
  have q2_0 := hB2.cell 0
  have q2_1 := hB2.cell 1
  simp only [List.getElem?_cons_zero, List.getElem?_cons_succ] at q0_0 q0_1 q0_2 q0_3 q1_0 q1_1 q1_2 q1_3 q1_4 q1_5 q1_6 q1_7 q1_8 q1_9 q2_0 q2_1
  have f0_0 := hB0.frozen 0
  have f0_1 := hB0.frozen 1
  have f0_2 := hB0.frozen 2
  have f0_3 := hB0.frozen 3
  have f1_0 := hB1.frozen 0
  have f1_1 := hB1.frozen 1
  have f1_2 := hB1.frozen 2
  have f1_3 := hB1.frozen 3
  have f1_4 := hB1.frozen 4
  have f1_5 := hB1.frozen 5
  have f1_6 := hB1.frozen 6
  have f1_7 := hB1.frozen 7
  have f1_8 := hB1.frozen 8
  have f1_9 := hB1.frozen 9
  have f2_0 := hB2.frozen 0
  have f2_1 := hB2.frozen 1
  go_wp2_with fail
  replace hB0 := hB0.set4 (.slice A9 n9 c9)
  replace hB1 := hB1.far4 (g' := w.heap.size) (by omega) (.int .i64 floor) (.int .i64 term) (.int .i64 vote) (.slice A9 n9 c9)
  replace hB2 := hB2.far4 (g' := w.heap.size) (by omega) (.int .i64 floor) (.int .i64 term) (.int .i64 vote) (.slice A9 n9 c9)
  replace hxc := hxc.set4 (g := w.heap.size) (by omega) (.int .i64 floor) (.int .i64 term) (.int .i64 vote) (.slice A9 n9 c9)
  replace hown0 := own_set4 hown0 (g := w.heap.size) (by omega) (.int .i64 floor) (.int .i64 term) (.int .i64 vote) (.slice A9 n9 c9)
  clear q0_0 q0_1 q0_2 q0_3 q1_0 q1_1 q1_2 q1_3 q1_4 q1_5 q1_6 q1_7 q1_8 q1_9 q2_0 q2_1 f0_0 f0_1 f0_2 f0_3 f1_0 f1_1 f1_2 f1_3 f1_4 f1_5 f1_6 f1_7 f1_8 f1_9 f2_0 f2_1
  generalize ((((w2.setCell ⟨w.heap.size, 0, none⟩ (.int .i64 floor)).setCell ⟨w.heap.size, 1, none⟩ (.int .i64 term)).setCell ⟨w.heap.size, 2, none⟩ (.int .i64 vote)).setCell ⟨w.heap.size, 3, none⟩ (.slice A9 n9 c9)) = W2 at *
  have hlt0_2 := hB0.lt
  have hlt1_2 := hB1.lt
  have hlt2_2 := hB2.lt
  have q0_0 := hB0.cell 0
  have q0_1 := hB0.cell 1
  have q0_2 := hB0.cell 2
  have q0_3 := hB0.cell 3
  have q1_0 := hB1.cell 0
  have q1_1 := hB1.cell 1
  have q1_2 := hB1.cell 2
  have q1_3 := hB1.cell 3
  have q1_4 := hB1.cell 4
  have q1_5 := hB1.cell 5
  have q1_6 := hB1.cell 6
  have q1_7 := hB1.cell 7
  have q1_8 := hB1.cell 8
  have q1_9 := hB1.cell 9
  have q2_0 := hB2.cell 0
  have q2_1 := hB2.cell 1
  simp only [List.getElem?_cons_zero, List.getElem?_cons_succ] at q0_0 q0_1 q0_2 q0_3 q1_0 q1_1 q1_2 q1_3 q1_4 q1_5 q1_6 q1_7 q1_8 q1_9 q2_0 q2_1
  go_wp2_with fail
  refine (HL1.out _ hxc).mono ?_
  rintro e w3 ⟨v3, rfl, hown1, x3_⟩
  clear q0_0 q0_1 q0_2 q0_3 q1_0 q1_1 q1_2 q1_3 q1_4 q1_5 q1_6 q1_7 q1_8 q1_9 q2_0 q2_1
  obtain ⟨B19, d19, rfl, hd19, hd1m9⟩ := own_form2 hown1
  have hm19 : min 6 m1 ≤ 6 := by omega
  generalize min 6 m1 = m19 at *
  replace hB0 := hB0.ext x3_
  replace hB1 := hB1.ext x3_
  replace hB2 := hB2.ext x3_
  replace hown0 := own_ext hown0 x3_
  have hsz3 := x3_.size
  replace hxc := hxc.trans x3_
  clear x3_
  have q0_0 := hB0.cell 0
  have q0_1 := hB0.cell 1
  have q0_2 := hB0.cell 2
  have q0_3 := hB0.cell 3
  have q1_0 := hB1.cell 0
  have q1_1 := hB1.cell 1
  have q1_2 := hB1.cell 2
  have q1_3 := hB1.cell 3
  have q1_4 := hB1.cell 4
  have q1_5 := hB1.cell 5
  have q1_6 := hB1.cell 6
  have q1_7 := hB1.cell 7
  have q1_8 := hB1.cell 8
  have q1_9 := hB1.cell 9
  have q2_0 := hB2.cell 0
  have q2_1 := hB2.cell 1
  simp only [List.getElem?_cons_zero, List.getElem?_cons_succ] at q0_0 q0_1 q0_2 q0_3 q1_0 q1_1 q1_2 q1_3 q1_4 q1_5 q1_6 q1_7 q1_8 q1_9 q2_0 q2_1
  have f0_0 := hB0.frozen 0
  have f0_1 := hB0.frozen 1
  have f0_2 := hB0.frozen 2
  have f0_3 := hB0.frozen 3
  have f1_0 := hB1.frozen 0
  have f1_1 := hB1.frozen 1
  have f1_2 := hB1.frozen 2
  have f1_3 := hB1.frozen 3
  have f1_4 := hB1.frozen 4
  have f1_5 := hB1.frozen 5
  have f1_6 := hB1.frozen 6
  have f1_7 := hB1.frozen 7
  have f1_8 := hB1.frozen 8
  have f1_9 := hB1.frozen 9
  have f2_0 := hB2.frozen 0
  have f2_1 := hB2.frozen 1
  go_wp2_with fail
  replace hB0 := hB0.far10 (g' := w.heap.size + 1) (by omega) (.int .i64 kind1) (.int .i64 src1) (.int .i64 dst1) (.int .i64 xt1) (.int .i64 la1) (.int .i64 lb1) (.int .i64 lc1) (.int .i64 bin1) (.bool ok1) (.slice B19 m19 d19)
  replace hB1 := hB1.set10 (.slice B19 m19 d19)
  replace hB2 := hB2.far10 (g' := w.heap.size + 1) (by omega) (.int .i64 kind1) (.int .i64 src1) (.int .i64 dst1) (.int .i64 xt1) (.int .i64 la1) (.int .i64 lb1) (.int .i64 lc1) (.int .i64 bin1) (.bool ok1) (.slice B19 m19 d19)
  replace hxc := hxc.set10 (g := w.heap.size + 1) (by omega) (.int .i64 kind1) (.int .i64 src1) (.int .i64 dst1) (.int .i64 xt1) (.int .i64 la1) (.int .i64 lb1) (.int .i64 lc1) (.int .i64 bin1) (.bool ok1) (.slice B19 m19 d19)
  replace hown0 := own_set10 hown0 (g := w.heap.size + 1) (by omega) (.int .i64 kind1) (.int .i64 src1) (.int .i64 dst1) (.int .i64 xt1) (.int .i64 la1) (.int .i64 lb1) (.int .i64 lc1) (.int .i64 bin1) (.bool ok1) (.slice B19 m19 d19)
  replace hown1 := own_set10 hown1 (g := w.heap.size + 1) (by omega) (.int .i64 kind1) (.int .i64 src1) (.int .i64 dst1) (.int .i64 xt1) (.int .i64 la1) (.int .i64 lb1) (.int .i64 lc1) (.int .i64 bin1) (.bool ok1) (.slice B19 m19 d19)
  clear q0_0 q0_1 q0_2 q0_3 q1_0 q1_1 q1_2 q1_3 q1_4 q1_5 q1_6 q1_7 q1_8 q1_9 q2_0 q2_1 f0_0 f0_1 f0_2 f0_3 f1_0 f1_1 f1_2 f1_3 f1_4 f1_5 f1_6 f1_7 f1_8 f1_9 f2_0 f2_1
  generalize ((((((((((w3.setCell ⟨w.heap.size + 1, 0, none⟩ (.int .i64 kind1)).setCell ⟨w.heap.size + 1, 1, none⟩ (.int .i64 src1)).setCell ⟨w.heap.size + 1, 2, none⟩ (.int .i64 dst1)).setCell ⟨w.heap.size + 1, 3, none⟩ (.int .i64 xt1)).setCell ⟨w.heap.size + 1, 4, none⟩ (.int .i64 la1)).setCell ⟨w.heap.size + 1, 5, none⟩ (.int .i64 lb1)).setCell ⟨w.heap.size + 1, 6, none⟩ (.int .i64 lc1)).setCell ⟨w.heap.size + 1, 7, none⟩ (.int .i64 bin1)).setCell ⟨w.heap.size + 1, 8, none⟩ (.bool ok1)).setCell ⟨w.heap.size + 1, 9, none⟩ (.slice B19 m19 d19)) = W3 at *
  have hlt0_3 := hB0.lt
  have hlt1_3 := hB1.lt
  have hlt2_3 := hB2.lt
  replace hB0 := hB0.far (p := ⟨w.heap.size + 1 + 1, 1, none⟩) (by show w.heap.size ≠ w.heap.size + 1 + 1; omega) (.slice D 20 q)
  replace hB1 := hB1.far (p := ⟨w.heap.size + 1 + 1, 1, none⟩) (by show w.heap.size + 1 ≠ w.heap.size + 1 + 1; omega) (.slice D 20 q)
  replace hB2 := hB2.set_ 1 (.slice D 20 q)
  simp only [List.set_cons_succ, List.set_cons_zero] at hB2
  replace hxc := hxc.setCell (p := ⟨w.heap.size + 1 + 1, 1, none⟩) (by simp; omega) (.slice D 20 q)
  replace hown0 := own_set hown0 (p := ⟨w.heap.size + 1 + 1, 1, none⟩) (by simp; omega) (.slice D 20 q)
  replace hown1 := own_set hown1 (p := ⟨w.heap.size + 1 + 1, 1, none⟩) (by simp; omega) (.slice D 20 q)
  generalize (W3.setCell ⟨w.heap.size + 1 + 1, 1, none⟩ (.slice D 20 q)) = W9 at *
  have hE : Es W9 A9 n9 (cutL 70 250 l) := Es.of_own hown0 fun f hf => (Hok1.out f hf).ext hxc
  have hE1 : Es W9 B19 m19 (cutL 6 250 l1) := Es.of_own hown1 fun f hf => (Hokx1.out f hf).ext hxc
  have hOS := HV.out W9 A9 n9 c9 (cutL 70 250 l) term hu1 hE hc9 hcm9
  have hOX := HU1.out W9 B19 m19 d19 (cutL 6 250 l1) hE1 hd19 hd1m9
  have hY : Bl W9 D 20 (yl.take 20) := (hy.upto (by omega)).ext hxc
  clear hown0 hown1 Hok1 Hokx1 HS HL1 HV HU1 hE hE1 hy
  have hu1' := Lib.hid hu1; clear hu1
  generalize cutL 70 250 l = L0 at *
  generalize cutL 6 250 l1 = L1 at *
  have HST := Lib.hid (standL_ok term yn)
  have hstl := standL_len term yn
  have hans := answerL_ok ⟨floor, term, vote, A9, n9, c9, L0⟩ ⟨kind1, src1, dst1, xt1, la1, lb1, lc1, bin1, ok1, B19, m19, d19, L1⟩
  have HAO := Lib.hid (fun w => (hans w).1)
  have hal := (hans w).2
  clear hans
  have Hnew := Lib.hid (newerL_ok term yn)
  have hnl := newerL_len term yn
  refine (elect_Stand ⟨floor, term, vote, A9, n9, c9, L0⟩ yn _ hu1'.out).mono ?_
  rintro e we1 ⟨va, rfl, hoa, x10_⟩
  replace hB0 := hB0.ext x10_
  replace hB1 := hB1.ext x10_
  replace hB2 := hB2.ext x10_
  replace hOS := hOS.ext x10_
  replace hOX := hOX.ext x10_
  replace hY := hY.ext x10_
  replace hxc := hxc.trans x10_
  clear x10_
  obtain ⟨Aa, ka, rfl, _⟩ := own_form hoa
  have Ra := Rs.of_own hoa (HST.out _)
  clear hoa
  have q0_0 := hB0.cell 0
  have q0_1 := hB0.cell 1
  have q0_2 := hB0.cell 2
  have q0_3 := hB0.cell 3
  have q1_0 := hB1.cell 0
  have q1_1 := hB1.cell 1
  have q1_2 := hB1.cell 2
  have q1_3 := hB1.cell 3
  have q1_4 := hB1.cell 4
  have q1_5 := hB1.cell 5
  have q1_6 := hB1.cell 6
  have q1_7 := hB1.cell 7
  have q1_8 := hB1.cell 8
  have q1_9 := hB1.cell 9
  have q2_0 := hB2.cell 0
  have q2_1 := hB2.cell 1
  simp only [List.getElem?_cons_zero, List.getElem?_cons_succ] at q0_0 q0_1 q0_2 q0_3 q1_0 q1_1 q1_2 q1_3 q1_4 q1_5 q1_6 q1_7 q1_8 q1_9 q2_0 q2_1
  go_wp2_with fail
  refine (ref18_Stand ⟨floor, term, vote, A9, n9, c9, L0⟩ yn _ hu1'.out).mono ?_
  rintro e we2 ⟨vb, rfl, hob, x11_⟩
  clear q0_0 q0_1 q0_2 q0_3 q1_0 q1_1 q1_2 q1_3 q1_4 q1_5 q1_6 q1_7 q1_8 q1_9 q2_0 q2_1
  replace hB0 := hB0.ext x11_
  replace hB1 := hB1.ext x11_
  replace hB2 := hB2.ext x11_
  replace hOS := hOS.ext x11_
  replace hOX := hOX.ext x11_
  replace hY := hY.ext x11_
  replace Ra := Ra.ext x11_
  replace hxc := hxc.trans x11_
  clear x11_
  obtain ⟨Ab, kb, rfl, _⟩ := own_form hob
  have Rb := Rs.of_own hob (HST.out _)
  clear hob
  have q0_0 := hB0.cell 0
  have q0_1 := hB0.cell 1
  have q0_2 := hB0.cell 2
  have q0_3 := hB0.cell 3
  have q1_0 := hB1.cell 0
  have q1_1 := hB1.cell 1
  have q1_2 := hB1.cell 2
  have q1_3 := hB1.cell 3
  have q1_4 := hB1.cell 4
  have q1_5 := hB1.cell 5
  have q1_6 := hB1.cell 6
  have q1_7 := hB1.cell 7
  have q1_8 := hB1.cell 8
  have q1_9 := hB1.cell 9
  have q2_0 := hB2.cell 0
  have q2_1 := hB2.cell 1
  simp only [List.getElem?_cons_zero, List.getElem?_cons_succ] at q0_0 q0_1 q0_2 q0_3 q1_0 q1_1 q1_2 q1_3 q1_4 q1_5 q1_6 q1_7 q1_8 q1_9 q2_0 q2_1
  go_wp2_with fail
  refine (elect_Answer ⟨floor, term, vote, A9, n9, c9, L0⟩ ⟨kind1, src1, dst1, xt1, la1, lb1, lc1, bin1, ok1, B19, m19, d19, L1⟩ _ hOS hOX (by dsimp only; omega) (by dsimp only; omega)).mono ?_
  rintro e we3 ⟨vc, rfl, hoc, x12_⟩
  clear q0_0 q0_1 q0_2 q0_3 q1_0 q1_1 q1_2 q1_3 q1_4 q1_5 q1_6 q1_7 q1_8 q1_9 q2_0 q2_1
  replace hB0 := hB0.ext x12_
  replace hB1 := hB1.ext x12_
  replace hB2 := hB2.ext x12_
  replace hOS := hOS.ext x12_
  replace hOX := hOX.ext x12_
  replace hY := hY.ext x12_
  replace Ra := Ra.ext x12_
  replace Rb := Rb.ext x12_
  replace hxc := hxc.trans x12_
  clear x12_
  obtain ⟨Ac, kc, rfl, _⟩ := own_form hoc
  have Rc := Rs.of_own hoc (HAO.out _)
  clear hoc
  have q0_0 := hB0.cell 0
  have q0_1 := hB0.cell 1
  have q0_2 := hB0.cell 2
  have q0_3 := hB0.cell 3
  have q1_0 := hB1.cell 0
  have q1_1 := hB1.cell 1
  have q1_2 := hB1.cell 2
  have q1_3 := hB1.cell 3
  have q1_4 := hB1.cell 4
  have q1_5 := hB1.cell 5
  have q1_6 := hB1.cell 6
  have q1_7 := hB1.cell 7
  have q1_8 := hB1.cell 8
  have q1_9 := hB1.cell 9
  have q2_0 := hB2.cell 0
  have q2_1 := hB2.cell 1
  simp only [List.getElem?_cons_zero, List.getElem?_cons_succ] at q0_0 q0_1 q0_2 q0_3 q1_0 q1_1 q1_2 q1_3 q1_4 q1_5 q1_6 q1_7 q1_8 q1_9 q2_0 q2_1
  go_wp2_with fail
  refine (ref18_Answer ⟨floor, term, vote, A9, n9, c9, L0⟩ ⟨kind1, src1, dst1, xt1, la1, lb1, lc1, bin1, ok1, B19, m19, d19, L1⟩ _ hOS hOX (by dsimp only; omega) (by dsimp only; omega)).mono ?_
  rintro e we4 ⟨vd, rfl, hod, x13_⟩
  clear q0_0 q0_1 q0_2 q0_3 q1_0 q1_1 q1_2 q1_3 q1_4 q1_5 q1_6 q1_7 q1_8 q1_9 q2_0 q2_1
  replace hB0 := hB0.ext x13_
  replace hB1 := hB1.ext x13_
  replace hB2 := hB2.ext x13_
  replace hOS := hOS.ext x13_
  replace hOX := hOX.ext x13_
  replace hY := hY.ext x13_
  replace Ra := Ra.ext x13_
  replace Rb := Rb.ext x13_
  replace Rc := Rc.ext x13_
  replace hxc := hxc.trans x13_
  clear x13_
  obtain ⟨Ad, kd, rfl, _⟩ := own_form hod
  have Rd := Rs.of_own hod (HAO.out _)
  clear hod
  have q0_0 := hB0.cell 0
  have q0_1 := hB0.cell 1
  have q0_2 := hB0.cell 2
  have q0_3 := hB0.cell 3
  have q1_0 := hB1.cell 0
  have q1_1 := hB1.cell 1
  have q1_2 := hB1.cell 2
  have q1_3 := hB1.cell 3
  have q1_4 := hB1.cell 4
  have q1_5 := hB1.cell 5
  have q1_6 := hB1.cell 6
  have q1_7 := hB1.cell 7
  have q1_8 := hB1.cell 8
  have q1_9 := hB1.cell 9
  have q2_0 := hB2.cell 0
  have q2_1 := hB2.cell 1
  simp only [List.getElem?_cons_zero, List.getElem?_cons_succ] at q0_0 q0_1 q0_2 q0_3 q1_0 q1_1 q1_2 q1_3 q1_4 q1_5 q1_6 q1_7 q1_8 q1_9 q2_0 q2_1
  go_wp2_with fail
  refine (ref18_Same _ _ _ _ _ _ _ Ra Rb (by omega)).mono ?_
  rintro e we5 ⟨rfl, x14_⟩
  clear q0_0 q0_1 q0_2 q0_3 q1_0 q1_1 q1_2 q1_3 q1_4 q1_5 q1_6 q1_7 q1_8 q1_9 q2_0 q2_1
  replace hB0 := hB0.ext x14_
  replace hB1 := hB1.ext x14_
  replace hB2 := hB2.ext x14_
  replace hOS := hOS.ext x14_
  replace hOX := hOX.ext x14_
  replace hY := hY.ext x14_
  replace Ra := Ra.ext x14_
  replace Rb := Rb.ext x14_
  replace Rc := Rc.ext x14_
  replace Rd := Rd.ext x14_
  replace hxc := hxc.trans x14_
  clear x14_
  have q0_0 := hB0.cell 0
  have q0_1 := hB0.cell 1
  have q0_2 := hB0.cell 2
  have q0_3 := hB0.cell 3
  have q1_0 := hB1.cell 0
  have q1_1 := hB1.cell 1
  have q1_2 := hB1.cell 2
  have q1_3 := hB1.cell 3
  have q1_4 := hB1.cell 4
  have q1_5 := hB1.cell 5
  have q1_6 := hB1.cell 6
  have q1_7 := hB1.cell 7
  have q1_8 := hB1.cell 8
  have q1_9 := hB1.cell 9
  have q2_0 := hB2.cell 0
  have q2_1 := hB2.cell 1
  simp only [List.getElem?_cons_zero, List.getElem?_cons_succ] at q0_0 q0_1 q0_2 q0_3 q1_0 q1_1 q1_2 q1_3 q1_4 q1_5 q1_6 q1_7 q1_8 q1_9 q2_0 q2_1
  go_wp2_with fail
  refine (ref18_Same _ _ _ _ _ _ _ Rc Rd (by omega)).mono ?_
  rintro e we6 ⟨rfl, x15_⟩
  clear q0_0 q0_1 q0_2 q0_3 q1_0 q1_1 q1_2 q1_3 q1_4 q1_5 q1_6 q1_7 q1_8 q1_9 q2_0 q2_1
  replace hB0 := hB0.ext x15_
  replace hB1 := hB1.ext x15_
  replace hB2 := hB2.ext x15_
  replace hOS := hOS.ext x15_
  replace hOX := hOX.ext x15_
  replace hY := hY.ext x15_
  replace Ra := Ra.ext x15_
  replace Rb := Rb.ext x15_
  replace Rc := Rc.ext x15_
  replace Rd := Rd.ext x15_
  replace hxc := hxc.trans x15_
  clear x15_
  have q0_0 := hB0.cell 0
  have q0_1 := hB0.cell 1
  have q0_2 := hB0.cell 2
  have q0_3 := hB0.cell 3
  have q1_0 := hB1.cell 0
  have q1_1 := hB1.cell 1
  have q1_2 := hB1.cell 2
  have q1_3 := hB1.cell 3
  have q1_4 := hB1.cell 4
  have q1_5 := hB1.cell 5
  have q1_6 := hB1.cell 6
  have q1_7 := hB1.cell 7
  have q1_8 := hB1.cell 8
  have q1_9 := hB1.cell 9
  have q2_0 := hB2.cell 0
  have q2_1 := hB2.cell 1
  simp only [List.getElem?_cons_zero, List.getElem?_cons_succ] at q0_0 q0_1 q0_2 q0_3 q1_0 q1_1 q1_2 q1_3 q1_4 q1_5 q1_6 q1_7 q1_8 q1_9 q2_0 q2_1
  go_wp2_with fail
  go_region_held3 (fun w' => w'.cell? ⟨w.heap.size, 0, none⟩ = some (.int .i64 floor) ∧ w'.cell? ⟨w.heap.size, 1, none⟩ = some (.int .i64 term) ∧ w'.cell? ⟨w.heap.size, 2, none⟩ = some (.int .i64 vote) ∧ w'.cell? ⟨w.heap.size, 3, none⟩ = some (.slice A9 n9 c9) ∧ w'.cell? ⟨w.heap.size + 1 + 1, 0, none⟩ = some (.int .i64 yn))
    (first | go_keep | (exact ⟨xe.cell q0_0, xe.cell q0_1, xe.cell q0_2, xe.cell q0_3, xe.cell q2_0⟩) | (exact ⟨xf.cell (xe.cell q0_0), xf.cell (xe.cell q0_1), xf.cell (xe.cell q0_2), xf.cell (xe.cell q0_3), xf.cell (xe.cell q2_0)⟩) | (exact ⟨xg.cell (xf.cell (xe.cell q0_0)), xg.cell (xf.cell (xe.cell q0_1)), xg.cell (xf.cell (xe.cell q0_2)), xg.cell (xf.cell (xe.cell q0_3)), xg.cell (xf.cell (xe.cell q2_0))⟩))
    (first
      | (go_at_call 46; refine (elect_Newer ⟨floor, term, vote, A9, n9, c9, L0⟩ yn _).mono ?_; rintro e we7 ⟨ve, rfl, hoe, xe⟩; obtain ⟨Ae, ke, rfl, _⟩ := own_form hoe; have Re := Rs.of_own hoe (Hnew.out _); clear hoe)
      | (go_at_call 47; refine (ref18_Newer ⟨floor, term, vote, A9, n9, c9, L0⟩ yn _).mono ?_; rintro e we8 ⟨vf, rfl, hof, xf⟩; obtain ⟨Af, kf, rfl, _⟩ := own_form hof; have Rf := Rs.of_own hof (Hnew.out _); have Re2 := Re.ext xf; clear hof Re)
      | (go_at_call 45; refine (ref18_Same _ _ _ _ _ _ _ Re2 Rf (by omega)).mono ?_; rintro e we9 ⟨rfl, xg⟩))
  have xall := (((Ext.refl _).drew.trans xe).trans xf).trans xg
  clear q0_0 q0_1 q0_2 q0_3 q1_0 q1_1 q1_2 q1_3 q1_4 q1_5 q1_6 q1_7 q1_8 q1_9 q2_0 q2_1 xe xf xg Re2 Rf
  replace hB0 := hB0.ext xall
  replace hB1 := hB1.ext xall
  replace hB2 := hB2.ext xall
  replace hY := hY.ext xall
  replace hxc := hxc.trans xall
  clear xall
  have q0_0 := hB0.cell 0
  have q0_1 := hB0.cell 1
  have q0_2 := hB0.cell 2
  have q0_3 := hB0.cell 3
  have q1_0 := hB1.cell 0
  have q1_1 := hB1.cell 1
  have q1_2 := hB1.cell 2
  have q1_3 := hB1.cell 3
  have q1_4 := hB1.cell 4
  have q1_5 := hB1.cell 5
  have q1_6 := hB1.cell 6
  have q1_7 := hB1.cell 7
  have q1_8 := hB1.cell 8
  have q1_9 := hB1.cell 9
  have q2_0 := hB2.cell 0
  have q2_1 := hB2.cell 1
  simp only [List.getElem?_cons_zero, List.getElem?_cons_succ] at q0_0 q0_1 q0_2 q0_3 q1_0 q1_1 q1_2 q1_3 q1_4 q1_5 q1_6 q1_7 q1_8 q1_9 q2_0 q2_1
  have HY := Lib.hid (fun w' (h : Ext _ w') => hY.ext h)
  clear q0_0 q0_1 q0_2 q0_3 q1_0 q1_1 q1_2 q1_3 q1_4 q1_5 q1_6 q1_7 q1_8 q1_9 q2_0 hB0 hB1 hB2 hY
  go_wp2_with fail
  go_region_held3 (fun w' => w'.cell? ⟨w.heap.size + 1 + 1, 1, none⟩ = some (.slice D 20 q))
    (first | go_keep | (exact q2_1))
    (first
      | (go_at_call 41; refine (elect_Wins D 20 q (yl.take 20) _ (HY.out _ (Ext.refl _).drew) (by omega)).mono ?_; rintro e wf1 ⟨rfl, rfl⟩)
      | (go_at_call 48; refine (ref18_Wins D 20 q (yl.take 20) _ (HY.out _ (Ext.refl _).drew) (by omega)).mono ?_; rintro e wf2 ⟨rfl, rfl⟩))
  go_wp2
  go_ret
  exact ⟨rfl, hxc.drew⟩

set_option maxRecDepth 100000 in
set_option maxHeartbeats 6400000 in
theorem law_ElectAll_b (s : SV) (x1 : LV) (yn : Int) (D : Option Addr) (p q : Nat) (yl : List Bool)  (w : World) (hs : s.Ok w) (hx1 : x1.Ok w) (hy : Bl w D p yl) (hpq : p ≤ q) (hqm : q ≤ maxLen) (h20 : p ≤ 20) :
    Calls Try.prog 13 #[s.val, x1.val, .agg #[.int .i64 yn, .slice D p q]] w fun e w' => e = .returned (.bool true) ∧ Ext w w' := by
  have hS := fun w' (h : Ext w w') => law18_stable s.floor s.term s.vote s.A s.n s.c s.l w' (hs.es.ext h) hs.le hs.cap
  have hok1 := cutL_ok (m := 70) (k := 250) hs.es.ok
  obtain ⟨hu0, hu1, hu2⟩ : I64 s.floor ∧ I64 s.term ∧ I64 s.vote := ⟨hs.u0, hs.u1, hs.u2⟩
  have HS := Lib.hid hS; clear hS
  have Hok1 := Lib.hid hok1; clear hok1
  clear hs
  obtain ⟨floor, term, vote, A, n, c, l⟩ := s
  have hL1 := fun w' (h : Ext w w') => law18_letter x1.kind x1.src x1.dst x1.term x1.a x1.b x1.c x1.bin x1.ok x1.A x1.n x1.cp x1.l w' (hx1.es.ext h) hx1.le hx1.cap
  have hokx1 := cutL_ok (m := 6) (k := 250) hx1.es.ok
  have HL1 := Lib.hid hL1; clear hL1
  have Hokx1 := Lib.hid hokx1; clear hokx1
  obtain ⟨kind1, src1, dst1, xt1, la1, lb1, lc1, bin1, ok1, B1, m1, d1, l1⟩ := x1
  unfold SV.val LV.val
  dsimp only at HS Hok1 hu0 hu1 hu2 HL1 Hokx1 ⊢
  have HV : Hid (∀ (w' : World) A' n' c' l' t', I64 t' → Es w' A' n' l' → n' ≤ c' → c' ≤ maxLen → (⟨floor, t', vote, A', n', c', l'⟩ : SV).Ok w') := Lib.hid (fun w' B' m' d' l' t' ht' h1 h2 h3 => ⟨h1, h2, h3, hu0, ht', hu2⟩)
  have HU1 : Hid (∀ (w' : World) B' m' d' l', Es w' B' m' l' → m' ≤ d' → d' ≤ maxLen → (⟨kind1, src1, dst1, xt1, la1, lb1, lc1, bin1, ok1, B', m', d', l'⟩ : LV).Ok w') := Lib.hid (fun w' B' m' d' l' h1 h2 h3 => ⟨h1, h2, h3, hx1.u0, hx1.u1, hx1.u2, hx1.u3, hx1.u4, hx1.u5, hx1.u6, hx1.u7⟩)
  clear hx1
  clear hu0 hu2
  have hB0 : Blk (((w.alloc (.cells #[.int .i64 floor, .int .i64 term, .int .i64 vote, .slice A n c] 45)).alloc (.cells #[.int .i64 kind1, .int .i64 src1, .int .i64 dst1, .int .i64 xt1, .int .i64 la1, .int .i64 lb1, .int .i64 lc1, .int .i64 bin1, .bool ok1, .slice B1 m1 d1] 47)).alloc (.cells #[.int .i64 yn, .slice D p q] 62)) (w.heap.size) 45 [.int .i64 floor, .int .i64 term, .int .i64 vote, .slice A n c] := by
    have h0 := Blk.new w 45 [.int .i64 floor, .int .i64 term, .int .i64 vote, .slice A n c]
    rw [show w.heap.size = w.heap.size by simp] at h0
    exact ((h0.alloc _).alloc _)
  have hB1 : Blk (((w.alloc (.cells #[.int .i64 floor, .int .i64 term, .int .i64 vote, .slice A n c] 45)).alloc (.cells #[.int .i64 kind1, .int .i64 src1, .int .i64 dst1, .int .i64 xt1, .int .i64 la1, .int .i64 lb1, .int .i64 lc1, .int .i64 bin1, .bool ok1, .slice B1 m1 d1] 47)).alloc (.cells #[.int .i64 yn, .slice D p q] 62)) (w.heap.size + 1) 47 [.int .i64 kind1, .int .i64 src1, .int .i64 dst1, .int .i64 xt1, .int .i64 la1, .int .i64 lb1, .int .i64 lc1, .int .i64 bin1, .bool ok1, .slice B1 m1 d1] := by
    have h0 := Blk.new (w.alloc (.cells #[.int .i64 floor, .int .i64 term, .int .i64 vote, .slice A n c] 45)) 47 [.int .i64 kind1, .int .i64 src1, .int .i64 dst1, .int .i64 xt1, .int .i64 la1, .int .i64 lb1, .int .i64 lc1, .int .i64 bin1, .bool ok1, .slice B1 m1 d1]
    rw [show (w.alloc (.cells #[.int .i64 floor, .int .i64 term, .int .i64 vote, .slice A n c] 45)).heap.size = w.heap.size + 1 by simp] at h0
    exact (h0.alloc _)
  have hB2 : Blk (((w.alloc (.cells #[.int .i64 floor, .int .i64 term, .int .i64 vote, .slice A n c] 45)).alloc (.cells #[.int .i64 kind1, .int .i64 src1, .int .i64 dst1, .int .i64 xt1, .int .i64 la1, .int .i64 lb1, .int .i64 lc1, .int .i64 bin1, .bool ok1, .slice B1 m1 d1] 47)).alloc (.cells #[.int .i64 yn, .slice D p q] 62)) (w.heap.size + 1 + 1) 62 [.int .i64 yn, .slice D p q] := by
    have h0 := Blk.new ((w.alloc (.cells #[.int .i64 floor, .int .i64 term, .int .i64 vote, .slice A n c] 45)).alloc (.cells #[.int .i64 kind1, .int .i64 src1, .int .i64 dst1, .int .i64 xt1, .int .i64 la1, .int .i64 lb1, .int .i64 lc1, .int .i64 bin1, .bool ok1, .slice B1 m1 d1] 47)) 62 [.int .i64 yn, .slice D p q]
    rw [show ((w.alloc (.cells #[.int .i64 floor, .int .i64 term, .int .i64 vote, .slice A n c] 45)).alloc (.cells #[.int .i64 kind1, .int .i64 src1, .int .i64 dst1, .int .i64 xt1, .int .i64 la1, .int .i64 lb1, .int .i64 lc1, .int .i64 bin1, .bool ok1, .slice B1 m1 d1] 47)).heap.size = w.heap.size + 1 + 1 by simp] at h0
    exact h0
  have hxc : Ext w (((w.alloc (.cells #[.int .i64 floor, .int .i64 term, .int .i64 vote, .slice A n c] 45)).alloc (.cells #[.int .i64 kind1, .int .i64 src1, .int .i64 dst1, .int .i64 xt1, .int .i64 la1, .int .i64 lb1, .int .i64 lc1, .int .i64 bin1, .bool ok1, .slice B1 m1 d1] 47)).alloc (.cells #[.int .i64 yn, .slice D p q] 62)) := (((Ext.refl w).alloc _).alloc _).alloc _
  go_enter Try.func13, Try.ntmps13
  go_wp2_with fail
  refine (law18_shown _).mono ?_
  rintro e w1 ⟨rfl, x1⟩
  replace hB0 := hB0.ext x1
  replace hB1 := hB1.ext x1
  replace hB2 := hB2.ext x1
  replace hxc := hxc.trans x1
  clear x1
  have hlt0 := hB0.lt
  have hlt1 := hB1.lt
  have hlt2 := hB2.lt
  have q0_0 := hB0.cell 0
  have q0_1 := hB0.cell 1
  have q0_2 := hB0.cell 2
  have q0_3 := hB0.cell 3
  have q1_0 := hB1.cell 0
  have q1_1 := hB1.cell 1
  have q1_2 := hB1.cell 2
  have q1_3 := hB1.cell 3
  have q1_4 := hB1.cell 4
  have q1_5 := hB1.cell 5
  have q1_6 := hB1.cell 6
  have q1_7 := hB1.cell 7
  have q1_8 := hB1.cell 8
  have q1_9 := hB1.cell 9
  have q2_0 := hB2.cell 0
  have q2_1 := hB2.cell 1
  simp only [List.getElem?_cons_zero, List.getElem?_cons_succ] at q0_0 q0_1 q0_2 q0_3 q1_0 q1_1 q1_2 q1_3 q1_4 q1_5 q1_6 q1_7 q1_8 q1_9 q2_0 q2_1
  go_wp2_with fail
  refine (HS.out _ hxc).mono ?_
  rintro e w2 ⟨v2, rfl, hown0, x2_⟩
  clear q0_0 q0_1 q0_2 q0_3 q1_0 q1_1 q1_2 q1_3 q1_4 q1_5 q1_6 q1_7 q1_8 q1_9 q2_0 q2_1
  obtain ⟨A9, c9, rfl, hc9, hcm9⟩ := own_form2 hown0
  have hn9 : min 70 n ≤ 70 := by omega
  generalize min 70 n = n9 at *
  replace hB0 := hB0.ext x2_
  replace hB1 := hB1.ext x2_
  replace hB2 := hB2.ext x2_
  have hsz2 := x2_.size
  replace hxc := hxc.trans x2_
  clear x2_
  have q0_0 := hB0.cell 0
  have q0_1 := hB0.cell 1
  have q0_2 := hB0.cell 2
  have q0_3 := hB0.cell 3
  have q1_0 := hB1.cell 0
  have q1_1 := hB1.cell 1
  have q1_2 := hB1.cell 2
  have q1_3 := hB1.cell 3
  have q1_4 := hB1.cell 4
  have q1_5 := hB1.cell 5
  have q1_6 := hB1.cell 6
  have q1_7 := hB1.cell 7
  have q1_8 := hB1.cell 8
  have q1_9 := hB1.cell 9
  have q2_0 := hB2.cell 0
  have q2_1 := hB2.cell 1
  simp only [List.getElem?_cons_zero, List.getElem?_cons_succ] at q0_0 q0_1 q0_2 q0_3 q1_0 q1_1 q1_2 q1_3 q1_4 q1_5 q1_6 q1_7 q1_8 q1_9 q2_0 q2_1
  have f0_0 := hB0.frozen 0
  have f0_1 := hB0.frozen 1
  have f0_2 := hB0.frozen 2
  have f0_3 := hB0.frozen 3
  have f1_0 := hB1.frozen 0
  have f1_1 := hB1.frozen 1
  have f1_2 := hB1.frozen 2
  have f1_3 := hB1.frozen 3
  have f1_4 := hB1.frozen 4
  have f1_5 := hB1.frozen 5
  have f1_6 := hB1.frozen 6
  have f1_7 := hB1.frozen 7
  have f1_8 := hB1.frozen 8
  have f1_9 := hB1.frozen 9
  have f2_0 := hB2.frozen 0
  have f2_1 := hB2.frozen 1
  go_wp2_with fail
  replace hB0 := hB0.set4 (.slice A9 n9 c9)
  replace hB1 := hB1.far4 (g' := w.heap.size) (by omega) (.int .i64 floor) (.int .i64 term) (.int .i64 vote) (.slice A9 n9 c9)
  replace hB2 := hB2.far4 (g' := w.heap.size) (by omega) (.int .i64 floor) (.int .i64 term) (.int .i64 vote) (.slice A9 n9 c9)
  replace hxc := hxc.set4 (g := w.heap.size) (by omega) (.int .i64 floor) (.int .i64 term) (.int .i64 vote) (.slice A9 n9 c9)
  replace hown0 := own_set4 hown0 (g := w.heap.size) (by omega) (.int .i64 floor) (.int .i64 term) (.int .i64 vote) (.slice A9 n9 c9)
  clear q0_0 q0_1 q0_2 q0_3 q1_0 q1_1 q1_2 q1_3 q1_4 q1_5 q1_6 q1_7 q1_8 q1_9 q2_0 q2_1 f0_0 f0_1 f0_2 f0_3 f1_0 f1_1 f1_2 f1_3 f1_4 f1_5 f1_6 f1_7 f1_8 f1_9 f2_0 f2_1
  generalize ((((w2.setCell ⟨w.heap.size, 0, none⟩ (.int .i64 floor)).setCell ⟨w.heap.size, 1, none⟩ (.int .i64 term)).setCell ⟨w.heap.size, 2, none⟩ (.int .i64 vote)).setCell ⟨w.heap.size, 3, none⟩ (.slice A9 n9 c9)) = W2 at *
  have hlt0_2 := hB0.lt
  have hlt1_2 := hB1.lt
  have hlt2_2 := hB2.lt
  have q0_0 := hB0.cell 0
  have q0_1 := hB0.cell 1
  have q0_2 := hB0.cell 2
  have q0_3 := hB0.cell 3
  have q1_0 := hB1.cell 0
  have q1_1 := hB1.cell 1
  have q1_2 := hB1.cell 2
  have q1_3 := hB1.cell 3
  have q1_4 := hB1.cell 4
  have q1_5 := hB1.cell 5
  have q1_6 := hB1.cell 6
  have q1_7 := hB1.cell 7
  have q1_8 := hB1.cell 8
  have q1_9 := hB1.cell 9
  have q2_0 := hB2.cell 0
  have q2_1 := hB2.cell 1
  simp only [List.getElem?_cons_zero, List.getElem?_cons_succ] at q0_0 q0_1 q0_2 q0_3 q1_0 q1_1 q1_2 q1_3 q1_4 q1_5 q1_6 q1_7 q1_8 q1_9 q2_0 q2_1
  go_wp2_with fail
  refine (HL1.out _ hxc).mono ?_
  rintro e w3 ⟨v3, rfl, hown1, x3_⟩
  clear q0_0 q0_1 q0_2 q0_3 q1_0 q1_1 q1_2 q1_3 q1_4 q1_5 q1_6 q1_7 q1_8 q1_9 q2_0 q2_1
  obtain ⟨B19, d19, rfl, hd19, hd1m9⟩ := own_form2 hown1
  have hm19 : min 6 m1 ≤ 6 := by omega
  generalize min 6 m1 = m19 at *
  replace hB0 := hB0.ext x3_
  replace hB1 := hB1.ext x3_
  replace hB2 := hB2.ext x3_
  replace hown0 := own_ext hown0 x3_
  have hsz3 := x3_.size
  replace hxc := hxc.trans x3_
  clear x3_
  have q0_0 := hB0.cell 0
  have q0_1 := hB0.cell 1
  have q0_2 := hB0.cell 2
  have q0_3 := hB0.cell 3
  have q1_0 := hB1.cell 0
  have q1_1 := hB1.cell 1
  have q1_2 := hB1.cell 2
  have q1_3 := hB1.cell 3
  have q1_4 := hB1.cell 4
  have q1_5 := hB1.cell 5
  have q1_6 := hB1.cell 6
  have q1_7 := hB1.cell 7
  have q1_8 := hB1.cell 8
  have q1_9 := hB1.cell 9
  have q2_0 := hB2.cell 0
  have q2_1 := hB2.cell 1
  simp only [List.getElem?_cons_zero, List.getElem?_cons_succ] at q0_0 q0_1 q0_2 q0_3 q1_0 q1_1 q1_2 q1_3 q1_4 q1_5 q1_6 q1_7 q1_8 q1_9 q2_0 q2_1
  have f0_0 := hB0.frozen 0
  have f0_1 := hB0.frozen 1
  have f0_2 := hB0.frozen 2
  have f0_3 := hB0.frozen 3
  have f1_0 := hB1.frozen 0
  have f1_1 := hB1.frozen 1
  have f1_2 := hB1.frozen 2
  have f1_3 := hB1.frozen 3
  have f1_4 := hB1.frozen 4
  have f1_5 := hB1.frozen 5
  have f1_6 := hB1.frozen 6
  have f1_7 := hB1.frozen 7
  have f1_8 := hB1.frozen 8
  have f1_9 := hB1.frozen 9
  have f2_0 := hB2.frozen 0
  have f2_1 := hB2.frozen 1
  go_wp2_with fail
  replace hB0 := hB0.far10 (g' := w.heap.size + 1) (by omega) (.int .i64 kind1) (.int .i64 src1) (.int .i64 dst1) (.int .i64 xt1) (.int .i64 la1) (.int .i64 lb1) (.int .i64 lc1) (.int .i64 bin1) (.bool ok1) (.slice B19 m19 d19)
  replace hB1 := hB1.set10 (.slice B19 m19 d19)
  replace hB2 := hB2.far10 (g' := w.heap.size + 1) (by omega) (.int .i64 kind1) (.int .i64 src1) (.int .i64 dst1) (.int .i64 xt1) (.int .i64 la1) (.int .i64 lb1) (.int .i64 lc1) (.int .i64 bin1) (.bool ok1) (.slice B19 m19 d19)
  replace hxc := hxc.set10 (g := w.heap.size + 1) (by omega) (.int .i64 kind1) (.int .i64 src1) (.int .i64 dst1) (.int .i64 xt1) (.int .i64 la1) (.int .i64 lb1) (.int .i64 lc1) (.int .i64 bin1) (.bool ok1) (.slice B19 m19 d19)
  replace hown0 := own_set10 hown0 (g := w.heap.size + 1) (by omega) (.int .i64 kind1) (.int .i64 src1) (.int .i64 dst1) (.int .i64 xt1) (.int .i64 la1) (.int .i64 lb1) (.int .i64 lc1) (.int .i64 bin1) (.bool ok1) (.slice B19 m19 d19)
  replace hown1 := own_set10 hown1 (g := w.heap.size + 1) (by omega) (.int .i64 kind1) (.int .i64 src1) (.int .i64 dst1) (.int .i64 xt1) (.int .i64 la1) (.int .i64 lb1) (.int .i64 lc1) (.int .i64 bin1) (.bool ok1) (.slice B19 m19 d19)
  clear q0_0 q0_1 q0_2 q0_3 q1_0 q1_1 q1_2 q1_3 q1_4 q1_5 q1_6 q1_7 q1_8 q1_9 q2_0 q2_1 f0_0 f0_1 f0_2 f0_3 f1_0 f1_1 f1_2 f1_3 f1_4 f1_5 f1_6 f1_7 f1_8 f1_9 f2_0 f2_1
  generalize ((((((((((w3.setCell ⟨w.heap.size + 1, 0, none⟩ (.int .i64 kind1)).setCell ⟨w.heap.size + 1, 1, none⟩ (.int .i64 src1)).setCell ⟨w.heap.size + 1, 2, none⟩ (.int .i64 dst1)).setCell ⟨w.heap.size + 1, 3, none⟩ (.int .i64 xt1)).setCell ⟨w.heap.size + 1, 4, none⟩ (.int .i64 la1)).setCell ⟨w.heap.size + 1, 5, none⟩ (.int .i64 lb1)).setCell ⟨w.heap.size + 1, 6, none⟩ (.int .i64 lc1)).setCell ⟨w.heap.size + 1, 7, none⟩ (.int .i64 bin1)).setCell ⟨w.heap.size + 1, 8, none⟩ (.bool ok1)).setCell ⟨w.heap.size + 1, 9, none⟩ (.slice B19 m19 d19)) = W3 at *
  have hlt0_3 := hB0.lt
  have hlt1_3 := hB1.lt
  have hlt2_3 := hB2.lt
  have hE : Es W3 A9 n9 (cutL 70 250 l) := Es.of_own hown0 fun f hf => (Hok1.out f hf).ext hxc
  have hE1 : Es W3 B19 m19 (cutL 6 250 l1) := Es.of_own hown1 fun f hf => (Hokx1.out f hf).ext hxc
  have hOS := HV.out W3 A9 n9 c9 (cutL 70 250 l) term hu1 hE hc9 hcm9
  have hOX := HU1.out W3 B19 m19 d19 (cutL 6 250 l1) hE1 hd19 hd1m9
  have hY : Bl W3 D p yl := hy.ext hxc
  clear hown0 hown1 Hok1 Hokx1 HS HL1 HV HU1 hE hE1 hy
  have hu1' := Lib.hid hu1; clear hu1
  generalize cutL 70 250 l = L0 at *
  generalize cutL 6 250 l1 = L1 at *
  have HST := Lib.hid (standL_ok term yn)
  have hstl := standL_len term yn
  have hans := answerL_ok ⟨floor, term, vote, A9, n9, c9, L0⟩ ⟨kind1, src1, dst1, xt1, la1, lb1, lc1, bin1, ok1, B19, m19, d19, L1⟩
  have HAO := Lib.hid (fun w => (hans w).1)
  have hal := (hans w).2
  clear hans
  have Hnew := Lib.hid (newerL_ok term yn)
  have hnl := newerL_len term yn
  refine (elect_Stand ⟨floor, term, vote, A9, n9, c9, L0⟩ yn _ hu1'.out).mono ?_
  rintro e we1 ⟨va, rfl, hoa, x10_⟩
  replace hB0 := hB0.ext x10_
  replace hB1 := hB1.ext x10_
  replace hB2 := hB2.ext x10_
  replace hOS := hOS.ext x10_
  replace hOX := hOX.ext x10_
  replace hY := hY.ext x10_
  replace hxc := hxc.trans x10_
  clear x10_
  obtain ⟨Aa, ka, rfl, _⟩ := own_form hoa
  have Ra := Rs.of_own hoa (HST.out _)
  clear hoa
  have q0_0 := hB0.cell 0
  have q0_1 := hB0.cell 1
  have q0_2 := hB0.cell 2
  have q0_3 := hB0.cell 3
  have q1_0 := hB1.cell 0
  have q1_1 := hB1.cell 1
  have q1_2 := hB1.cell 2
  have q1_3 := hB1.cell 3
  have q1_4 := hB1.cell 4
  have q1_5 := hB1.cell 5
  have q1_6 := hB1.cell 6
  have q1_7 := hB1.cell 7
  have q1_8 := hB1.cell 8
  have q1_9 := hB1.cell 9
  have q2_0 := hB2.cell 0
  have q2_1 := hB2.cell 1
  simp only [List.getElem?_cons_zero, List.getElem?_cons_succ] at q0_0 q0_1 q0_2 q0_3 q1_0 q1_1 q1_2 q1_3 q1_4 q1_5 q1_6 q1_7 q1_8 q1_9 q2_0 q2_1
  go_wp2_with fail
  refine (ref18_Stand ⟨floor, term, vote, A9, n9, c9, L0⟩ yn _ hu1'.out).mono ?_
  rintro e we2 ⟨vb, rfl, hob, x11_⟩
  clear q0_0 q0_1 q0_2 q0_3 q1_0 q1_1 q1_2 q1_3 q1_4 q1_5 q1_6 q1_7 q1_8 q1_9 q2_0 q2_1
  replace hB0 := hB0.ext x11_
  replace hB1 := hB1.ext x11_
  replace hB2 := hB2.ext x11_
  replace hOS := hOS.ext x11_
  replace hOX := hOX.ext x11_
  replace hY := hY.ext x11_
  replace Ra := Ra.ext x11_
  replace hxc := hxc.trans x11_
  clear x11_
  obtain ⟨Ab, kb, rfl, _⟩ := own_form hob
  have Rb := Rs.of_own hob (HST.out _)
  clear hob
  have q0_0 := hB0.cell 0
  have q0_1 := hB0.cell 1
  have q0_2 := hB0.cell 2
  have q0_3 := hB0.cell 3
  have q1_0 := hB1.cell 0
  have q1_1 := hB1.cell 1
  have q1_2 := hB1.cell 2
  have q1_3 := hB1.cell 3
  have q1_4 := hB1.cell 4
  have q1_5 := hB1.cell 5
  have q1_6 := hB1.cell 6
  have q1_7 := hB1.cell 7
  have q1_8 := hB1.cell 8
  have q1_9 := hB1.cell 9
  have q2_0 := hB2.cell 0
  have q2_1 := hB2.cell 1
  simp only [List.getElem?_cons_zero, List.getElem?_cons_succ] at q0_0 q0_1 q0_2 q0_3 q1_0 q1_1 q1_2 q1_3 q1_4 q1_5 q1_6 q1_7 q1_8 q1_9 q2_0 q2_1
  go_wp2_with fail
  refine (elect_Answer ⟨floor, term, vote, A9, n9, c9, L0⟩ ⟨kind1, src1, dst1, xt1, la1, lb1, lc1, bin1, ok1, B19, m19, d19, L1⟩ _ hOS hOX (by dsimp only; omega) (by dsimp only; omega)).mono ?_
  rintro e we3 ⟨vc, rfl, hoc, x12_⟩
  clear q0_0 q0_1 q0_2 q0_3 q1_0 q1_1 q1_2 q1_3 q1_4 q1_5 q1_6 q1_7 q1_8 q1_9 q2_0 q2_1
  replace hB0 := hB0.ext x12_
  replace hB1 := hB1.ext x12_
  replace hB2 := hB2.ext x12_
  replace hOS := hOS.ext x12_
  replace hOX := hOX.ext x12_
  replace hY := hY.ext x12_
  replace Ra := Ra.ext x12_
  replace Rb := Rb.ext x12_
  replace hxc := hxc.trans x12_
  clear x12_
  obtain ⟨Ac, kc, rfl, _⟩ := own_form hoc
  have Rc := Rs.of_own hoc (HAO.out _)
  clear hoc
  have q0_0 := hB0.cell 0
  have q0_1 := hB0.cell 1
  have q0_2 := hB0.cell 2
  have q0_3 := hB0.cell 3
  have q1_0 := hB1.cell 0
  have q1_1 := hB1.cell 1
  have q1_2 := hB1.cell 2
  have q1_3 := hB1.cell 3
  have q1_4 := hB1.cell 4
  have q1_5 := hB1.cell 5
  have q1_6 := hB1.cell 6
  have q1_7 := hB1.cell 7
  have q1_8 := hB1.cell 8
  have q1_9 := hB1.cell 9
  have q2_0 := hB2.cell 0
  have q2_1 := hB2.cell 1
  simp only [List.getElem?_cons_zero, List.getElem?_cons_succ] at q0_0 q0_1 q0_2 q0_3 q1_0 q1_1 q1_2 q1_3 q1_4 q1_5 q1_6 q1_7 q1_8 q1_9 q2_0 q2_1
  go_wp2_with fail
  refine (ref18_Answer ⟨floor, term, vote, A9, n9, c9, L0⟩ ⟨kind1, src1, dst1, xt1, la1, lb1, lc1, bin1, ok1, B19, m19, d19, L1⟩ _ hOS hOX (by dsimp only; omega) (by dsimp only; omega)).mono ?_
  rintro e we4 ⟨vd, rfl, hod, x13_⟩
  clear q0_0 q0_1 q0_2 q0_3 q1_0 q1_1 q1_2 q1_3 q1_4 q1_5 q1_6 q1_7 q1_8 q1_9 q2_0 q2_1
  replace hB0 := hB0.ext x13_
  replace hB1 := hB1.ext x13_
  replace hB2 := hB2.ext x13_
  replace hOS := hOS.ext x13_
  replace hOX := hOX.ext x13_
  replace hY := hY.ext x13_
  replace Ra := Ra.ext x13_
  replace Rb := Rb.ext x13_
  replace Rc := Rc.ext x13_
  replace hxc := hxc.trans x13_
  clear x13_
  obtain ⟨Ad, kd, rfl, _⟩ := own_form hod
  have Rd := Rs.of_own hod (HAO.out _)
  clear hod
  have q0_0 := hB0.cell 0
  have q0_1 := hB0.cell 1
  have q0_2 := hB0.cell 2
  have q0_3 := hB0.cell 3
  have q1_0 := hB1.cell 0
  have q1_1 := hB1.cell 1
  have q1_2 := hB1.cell 2
  have q1_3 := hB1.cell 3
  have q1_4 := hB1.cell 4
  have q1_5 := hB1.cell 5
  have q1_6 := hB1.cell 6
  have q1_7 := hB1.cell 7
  have q1_8 := hB1.cell 8
  have q1_9 := hB1.cell 9
  have q2_0 := hB2.cell 0
  have q2_1 := hB2.cell 1
  simp only [List.getElem?_cons_zero, List.getElem?_cons_succ] at q0_0 q0_1 q0_2 q0_3 q1_0 q1_1 q1_2 q1_3 q1_4 q1_5 q1_6 q1_7 q1_8 q1_9 q2_0 q2_1
  go_wp2_with fail
  refine (ref18_Same _ _ _ _ _ _ _ Ra Rb (by omega)).mono ?_
  rintro e we5 ⟨rfl, x14_⟩
  clear q0_0 q0_1 q0_2 q0_3 q1_0 q1_1 q1_2 q1_3 q1_4 q1_5 q1_6 q1_7 q1_8 q1_9 q2_0 q2_1
  replace hB0 := hB0.ext x14_
  replace hB1 := hB1.ext x14_
  replace hB2 := hB2.ext x14_
  replace hOS := hOS.ext x14_
  replace hOX := hOX.ext x14_
  replace hY := hY.ext x14_
  replace Ra := Ra.ext x14_
  replace Rb := Rb.ext x14_
  replace Rc := Rc.ext x14_
  replace Rd := Rd.ext x14_
  replace hxc := hxc.trans x14_
  clear x14_
  have q0_0 := hB0.cell 0
  have q0_1 := hB0.cell 1
  have q0_2 := hB0.cell 2
  have q0_3 := hB0.cell 3
  have q1_0 := hB1.cell 0
  have q1_1 := hB1.cell 1
  have q1_2 := hB1.cell 2
  have q1_3 := hB1.cell 3
  have q1_4 := hB1.cell 4
  have q1_5 := hB1.cell 5
  have q1_6 := hB1.cell 6
  have q1_7 := hB1.cell 7
  have q1_8 := hB1.cell 8
  have q1_9 := hB1.cell 9
  have q2_0 := hB2.cell 0
  have q2_1 := hB2.cell 1
  simp only [List.getElem?_cons_zero, List.getElem?_cons_succ] at q0_0 q0_1 q0_2 q0_3 q1_0 q1_1 q1_2 q1_3 q1_4 q1_5 q1_6 q1_7 q1_8 q1_9 q2_0 q2_1
  go_wp2_with fail
  refine (ref18_Same _ _ _ _ _ _ _ Rc Rd (by omega)).mono ?_
  rintro e we6 ⟨rfl, x15_⟩
  clear q0_0 q0_1 q0_2 q0_3 q1_0 q1_1 q1_2 q1_3 q1_4 q1_5 q1_6 q1_7 q1_8 q1_9 q2_0 q2_1
  replace hB0 := hB0.ext x15_
  replace hB1 := hB1.ext x15_
  replace hB2 := hB2.ext x15_
  replace hOS := hOS.ext x15_
  replace hOX := hOX.ext x15_
  replace hY := hY.ext x15_
  replace Ra := Ra.ext x15_
  replace Rb := Rb.ext x15_
  replace Rc := Rc.ext x15_
  replace Rd := Rd.ext x15_
  replace hxc := hxc.trans x15_
  clear x15_
  have q0_0 := hB0.cell 0
  have q0_1 := hB0.cell 1
  have q0_2 := hB0.cell 2
  have q0_3 := hB0.cell 3
  have q1_0 := hB1.cell 0
  have q1_1 := hB1.cell 1
  have q1_2 := hB1.cell 2
  have q1_3 := hB1.cell 3
  have q1_4 := hB1.cell 4
  have q1_5 := hB1.cell 5
  have q1_6 := hB1.cell 6
  have q1_7 := hB1.cell 7
  have q1_8 := hB1.cell 8
  have q1_9 := hB1.cell 9
  have q2_0 := hB2.cell 0
  have q2_1 := hB2.cell 1
  simp only [List.getElem?_cons_zero, List.getElem?_cons_succ] at q0_0 q0_1 q0_2 q0_3 q1_0 q1_1 q1_2 q1_3 q1_4 q1_5 q1_6 q1_7 q1_8 q1_9 q2_0 q2_1
  go_wp2_with fail
  go_region_held3 (fun w' => w'.cell? ⟨w.heap.size, 0, none⟩ = some (.int .i64 floor) ∧ w'.cell? ⟨w.heap.size, 1, none⟩ = some (.int .i64 term) ∧ w'.cell? ⟨w.heap.size, 2, none⟩ = some (.int .i64 vote) ∧ w'.cell? ⟨w.heap.size, 3, none⟩ = some (.slice A9 n9 c9) ∧ w'.cell? ⟨w.heap.size + 1 + 1, 0, none⟩ = some (.int .i64 yn))
    (first | go_keep | (exact ⟨xe.cell q0_0, xe.cell q0_1, xe.cell q0_2, xe.cell q0_3, xe.cell q2_0⟩) | (exact ⟨xf.cell (xe.cell q0_0), xf.cell (xe.cell q0_1), xf.cell (xe.cell q0_2), xf.cell (xe.cell q0_3), xf.cell (xe.cell q2_0)⟩) | (exact ⟨xg.cell (xf.cell (xe.cell q0_0)), xg.cell (xf.cell (xe.cell q0_1)), xg.cell (xf.cell (xe.cell q0_2)), xg.cell (xf.cell (xe.cell q0_3)), xg.cell (xf.cell (xe.cell q2_0))⟩))
    (first
      | (go_at_call 46; refine (elect_Newer ⟨floor, term, vote, A9, n9, c9, L0⟩ yn _).mono ?_; rintro e we7 ⟨ve, rfl, hoe, xe⟩; obtain ⟨Ae, ke, rfl, _⟩ := own_form hoe; have Re := Rs.of_own hoe (Hnew.out _); clear hoe)
      | (go_at_call 47; refine (ref18_Newer ⟨floor, term, vote, A9, n9, c9, L0⟩ yn _).mono ?_; rintro e we8 ⟨vf, rfl, hof, xf⟩; obtain ⟨Af, kf, rfl, _⟩ := own_form hof; have Rf := Rs.of_own hof (Hnew.out _); have Re2 := Re.ext xf; clear hof Re)
      | (go_at_call 45; refine (ref18_Same _ _ _ _ _ _ _ Re2 Rf (by omega)).mono ?_; rintro e we9 ⟨rfl, xg⟩))
  have xall := (((Ext.refl _).drew.trans xe).trans xf).trans xg
  clear q0_0 q0_1 q0_2 q0_3 q1_0 q1_1 q1_2 q1_3 q1_4 q1_5 q1_6 q1_7 q1_8 q1_9 q2_0 q2_1 xe xf xg Re2 Rf
  replace hB0 := hB0.ext xall
  replace hB1 := hB1.ext xall
  replace hB2 := hB2.ext xall
  replace hY := hY.ext xall
  replace hxc := hxc.trans xall
  clear xall
  have q0_0 := hB0.cell 0
  have q0_1 := hB0.cell 1
  have q0_2 := hB0.cell 2
  have q0_3 := hB0.cell 3
  have q1_0 := hB1.cell 0
  have q1_1 := hB1.cell 1
  have q1_2 := hB1.cell 2
  have q1_3 := hB1.cell 3
  have q1_4 := hB1.cell 4
  have q1_5 := hB1.cell 5
  have q1_6 := hB1.cell 6
  have q1_7 := hB1.cell 7
  have q1_8 := hB1.cell 8
  have q1_9 := hB1.cell 9
  have q2_0 := hB2.cell 0
  have q2_1 := hB2.cell 1
  simp only [List.getElem?_cons_zero, List.getElem?_cons_succ] at q0_0 q0_1 q0_2 q0_3 q1_0 q1_1 q1_2 q1_3 q1_4 q1_5 q1_6 q1_7 q1_8 q1_9 q2_0 q2_1
  have HY := Lib.hid (fun w' (h : Ext _ w') => hY.ext h)
  clear q0_0 q0_1 q0_2 q0_3 q1_0 q1_1 q1_2 q1_3 q1_4 q1_5 q1_6 q1_7 q1_8 q1_9 q2_0 hB0 hB1 hB2 hY
  go_wp2_with fail
  go_region_held3 (fun w' => w'.cell? ⟨w.heap.size + 1 + 1, 1, none⟩ = some (.slice D p q))
    (first | go_keep | (exact q2_1))
    (first
      | (go_at_call 41; refine (elect_Wins D p q yl _ (HY.out _ (Ext.refl _).drew) (by omega)).mono ?_; rintro e wf1 ⟨rfl, rfl⟩)
      | (go_at_call 48; refine (ref18_Wins D p q yl _ (HY.out _ (Ext.refl _).drew) (by omega)).mono ?_; rintro e wf2 ⟨rfl, rfl⟩))
  go_wp2
  go_ret
  exact ⟨rfl, hxc.drew⟩

theorem law_ElectAll (s : SV) (x1 : LV) (yn : Int) (D : Option Addr) (p q : Nat) (yl : List Bool) (w : World) (hs : s.Ok w) (hx1 : x1.Ok w) (hy : Bl w D p yl) (hpq : p ≤ q) (hqm : q ≤ maxLen) :
    Calls Try.prog 13 #[s.val, x1.val, .agg #[.int .i64 yn, .slice D p q]] w fun e w' => e = .returned (.bool true) ∧ Ext w w' := by
  by_cases h : 20 < p
  · exact law_ElectAll_a s x1 yn D p q yl w hs hx1 hy hpq hqm h
  · exact law_ElectAll_b s x1 yn D p q yl w hs hx1 hy hpq hqm (by omega)
end Go.Proofs.Ytcdnjhcddbkciaa

