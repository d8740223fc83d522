/- The walk of the law ElectFresh. -/
import Derived.Test.YtcdnjhcddbkciaaElB
import Derived.Test.YtcdnjhcddbkciaaElE
namespace Go.Proofs.Ytcdnjhcddbkciaa
open Go.RowKit

theorem Blk.set4 {w : World} {g : Nat} {t : TypeId} {a b c d : Value} (h : Blk w g t [a, b, c, d]) (v : Value) :
    Blk ((((w.setCell ⟨g, 0, none⟩ a).setCell ⟨g, 1, none⟩ b).setCell ⟨g, 2, none⟩ c).setCell ⟨g, 3, none⟩ v) g t [a, b, c, v] := by
  have := (((h.set_ 0 a).set_ 1 b).set_ 2 c).set_ 3 v
  simpa using this
theorem Blk.set10 {w : World} {g : Nat} {t : TypeId} {a b c d e f i j k l : Value} (h : Blk w g t [a, b, c, d, e, f, i, j, k, l]) (v : Value) :
    Blk ((((((((((w.setCell ⟨g, 0, none⟩ a).setCell ⟨g, 1, none⟩ b).setCell ⟨g, 2, none⟩ c).setCell ⟨g, 3, none⟩ d).setCell ⟨g, 4, none⟩ e).setCell ⟨g, 5, none⟩ f).setCell ⟨g, 6, none⟩ i).setCell ⟨g, 7, none⟩ j).setCell ⟨g, 8, none⟩ k).setCell ⟨g, 9, none⟩ v) g t [a, b, c, d, e, f, i, j, k, v] := by
  have := (((((((((h.set_ 0 a).set_ 1 b).set_ 2 c).set_ 3 d).set_ 4 e).set_ 5 f).set_ 6 i).set_ 7 j).set_ 8 k).set_ 9 v
  simpa using this
theorem Blk.far4 {w : World} {g g' : Nat} {t : TypeId} {l : List Value} (h : Blk w g t l) (hg : g ≠ g') (a b c d : Value) :
    Blk ((((w.setCell ⟨g', 0, none⟩ a).setCell ⟨g', 1, none⟩ b).setCell ⟨g', 2, none⟩ c).setCell ⟨g', 3, none⟩ d) g t l := (((h.far (p := ⟨g', 0, none⟩) hg a).far (p := ⟨g', 1, none⟩) hg b).far (p := ⟨g', 2, none⟩) hg c).far (p := ⟨g', 3, none⟩) hg d
theorem Blk.far10 {w : World} {g g' : Nat} {t : TypeId} {l : List Value} (h : Blk w g t l) (hg : g ≠ g') (a b c d e f i j k v : Value) :
    Blk ((((((((((w.setCell ⟨g', 0, none⟩ a).setCell ⟨g', 1, none⟩ b).setCell ⟨g', 2, none⟩ c).setCell ⟨g', 3, none⟩ d).setCell ⟨g', 4, none⟩ e).setCell ⟨g', 5, none⟩ f).setCell ⟨g', 6, none⟩ i).setCell ⟨g', 7, none⟩ j).setCell ⟨g', 8, none⟩ k).setCell ⟨g', 9, none⟩ v) g t l :=
  (((((((((h.far (p := ⟨g', 0, none⟩) hg a).far (p := ⟨g', 1, none⟩) hg b).far (p := ⟨g', 2, none⟩) hg c).far (p := ⟨g', 3, none⟩) hg d).far (p := ⟨g', 4, none⟩) hg e).far (p := ⟨g', 5, none⟩) hg f).far (p := ⟨g', 6, none⟩) hg i).far (p := ⟨g', 7, none⟩) hg j).far (p := ⟨g', 8, none⟩) hg k).far (p := ⟨g', 9, none⟩) hg v
theorem Ext.set4 {a w : World} {g : Nat} (h : Ext a w) (hg : a.heap.size ≤ g) (x y z v : Value) : Ext a ((((w.setCell ⟨g, 0, none⟩ x).setCell ⟨g, 1, none⟩ y).setCell ⟨g, 2, none⟩ z).setCell ⟨g, 3, none⟩ v) :=
  (((h.setCell (p := ⟨g, 0, none⟩) hg x).setCell (p := ⟨g, 1, none⟩) hg y).setCell (p := ⟨g, 2, none⟩) hg z).setCell (p := ⟨g, 3, none⟩) hg v
theorem Ext.set10 {w0 w : World} {g : Nat} (h : Ext w0 w) (hg : w0.heap.size ≤ g) (a b c d e f i j k v : Value) :
    Ext w0 ((((((((((w.setCell ⟨g, 0, none⟩ a).setCell ⟨g, 1, none⟩ b).setCell ⟨g, 2, none⟩ c).setCell ⟨g, 3, none⟩ d).setCell ⟨g, 4, none⟩ e).setCell ⟨g, 5, none⟩ f).setCell ⟨g, 6, none⟩ i).setCell ⟨g, 7, none⟩ j).setCell ⟨g, 8, none⟩ k).setCell ⟨g, 9, none⟩ v) :=
  (((((((((h.setCell (p := ⟨g, 0, none⟩) hg a).setCell (p := ⟨g, 1, none⟩) hg b).setCell (p := ⟨g, 2, none⟩) hg c).setCell (p := ⟨g, 3, none⟩) hg d).setCell (p := ⟨g, 4, none⟩) hg e).setCell (p := ⟨g, 5, none⟩) hg f).setCell (p := ⟨g, 6, none⟩) hg i).setCell (p := ⟨g, 7, none⟩) hg j).setCell (p := ⟨g, 8, none⟩) hg k).setCell (p := ⟨g, 9, none⟩) hg v
theorem own_set4 {w : World} {base : Nat} {e : TypeId} {size n : Nat} {v : Value} {xs : List Value} (h : w.ownsRow base e size v n xs) {g : Nat} (hg : g < base) (x y z u : Value) :
    ((((w.setCell ⟨g, 0, none⟩ x).setCell ⟨g, 1, none⟩ y).setCell ⟨g, 2, none⟩ z).setCell ⟨g, 3, none⟩ u).ownsRow base e size v n xs :=
  own_set (own_set (own_set (own_set h (p := ⟨g, 0, none⟩) hg x) (p := ⟨g, 1, none⟩) hg y) (p := ⟨g, 2, none⟩) hg z) (p := ⟨g, 3, none⟩) hg u
theorem own_set10 {w : World} {base : Nat} {t : TypeId} {size n : Nat} {u : Value} {xs : List Value} (h : w.ownsRow base t size u n xs) {g : Nat} (hg : g < base) (a b c d e f i j k v : Value) :
    ((((((((((w.setCell ⟨g, 0, none⟩ a).setCell ⟨g, 1, none⟩ b).setCell ⟨g, 2, none⟩ c).setCell ⟨g, 3, none⟩ d).setCell ⟨g, 4, none⟩ e).setCell ⟨g, 5, none⟩ f).setCell ⟨g, 6, none⟩ i).setCell ⟨g, 7, none⟩ j).setCell ⟨g, 8, none⟩ k).setCell ⟨g, 9, none⟩ v).ownsRow base t size u n xs :=
  own_set (own_set (own_set (own_set (own_set (own_set (own_set (own_set (own_set (own_set h (p := ⟨g, 0, none⟩) hg a) (p := ⟨g, 1, none⟩) hg b) (p := ⟨g, 2, none⟩) hg c) (p := ⟨g, 3, none⟩) hg d) (p := ⟨g, 4, none⟩) hg e) (p := ⟨g, 5, none⟩) hg f) (p := ⟨g, 6, none⟩) hg i) (p := ⟨g, 7, none⟩) hg j) (p := ⟨g, 8, none⟩) hg k) (p := ⟨g, 9, none⟩) hg v

theorem own_form2 {w : World} {base : Nat} {e : TypeId} {size n : Nat} {v : Value} {xs : List Value} (h : w.ownsRow base e size v n xs) : ∃ A c, v = .slice A n c ∧ n ≤ c ∧ c ≤ maxLen := by
  rcases h.2 with ⟨rfl, h0⟩ | ⟨g, cap, cur, rfl, hb, hg, hc, hm, _⟩
  · exact ⟨none, 0, by rw [h0], by omega, by unfold maxLen; omega⟩
  · exact ⟨_, _, rfl, hc, hm⟩
/-- what Answer says, for the law -/
theorem answer_fresh (s : SV) (x : LV) : ((answerL s x).2.1 = false ∧ (answerL s x).2.2 ≤ 1) ∨ ((answerL s x).2.1 = true ∧ (answerL s x).2.2 = 0 ∧ s.term ≤ x.term ∧ (lastT s.l < x.b ∨ (x.b = lastT s.l ∧ (s.l.length : Int) ≤ x.a))) := by
  have hf : ∀ l a b, freshB l a b = true → lastT l < b ∨ (b = lastT l ∧ (l.length : Int) ≤ a) := by
    intro l a b h; simpa [freshB] using h
  rcases answer_cases s x with ⟨_, h⟩ | ⟨_, _, h⟩ | ⟨_, _, _, _, hc⟩
  · rw [h]; exact .inl ⟨rfl, by simp⟩
  · rw [h]; exact .inl ⟨rfl, by simp⟩
  · rcases hc with ⟨_, h⟩ | ⟨_, _, _, h⟩ | ⟨_, _, _, h⟩ | ⟨_, _, _, h⟩ | ⟨_, _, _, h⟩ | ⟨_, _, _, h⟩ | ⟨_, _, h⟩ | ⟨_, _, h⟩
    · rw [h]; exact .inl ⟨rfl, by simp⟩
    · rename_i h1 h2 h3; rw [h]; exact .inr ⟨rfl, rfl, by omega, hf _ _ _ h3⟩
    · rw [h]; exact .inl ⟨rfl, by simp⟩
    · rename_i h1 h2 h3; rw [h]; exact .inr ⟨rfl, rfl, by omega, hf _ _ _ h3⟩
    · rw [h]; exact .inl ⟨rfl, by simp⟩
    · rw [h]; exact .inl ⟨rfl, by simp⟩
    · rename_i h1 h3; rw [h]; exact .inr ⟨rfl, rfl, by omega, hf _ _ _ h3⟩
    · rw [h]; exact .inl ⟨rfl, by simp⟩

set_option maxRecDepth 100000 in
set_option maxHeartbeats 3200000 in
theorem law_ElectFresh (s : SV) (x : LV) (w : World) (hs : s.Ok w) (hx : x.Ok w) :
    Calls Try.prog 12 #[s.val, x.val] w fun e w' => e = .returned (.bool true) ∧ Ext w w' := by
  have hS := fun w' (h : Ext w w') => law18_stable s.floor s.term s.vote s.A s.n s.c s.l w' (hs.es.ext h) hs.le hs.cap
  have hL := fun w' (h : Ext w w') => law18_letter x.kind x.src x.dst x.term x.a x.b x.c x.bin x.ok x.A x.n x.cp x.l w' (hx.es.ext h) hx.le hx.cap
  have hok1 := cutL_ok (m := 70) (k := 250) hs.es.ok
  have hok2 := cutL_ok (m := 6) (k := 250) hx.es.ok
  have hlen1 := hs.es.len
  have hlen2 := hx.es.len
  obtain ⟨hu0, hu1, hu2⟩ : I64 s.floor ∧ I64 s.term ∧ I64 s.vote := ⟨hs.u0, hs.u1, hs.u2⟩
  have hxu := hx
  have HS := Lib.hid hS; clear hS
  have HL := Lib.hid hL; clear hL
  have Hok1 := Lib.hid hok1; clear hok1
  have Hok2 := Lib.hid hok2; clear hok2
  clear hs hx
  obtain ⟨floor, term, vote, A, n, c, l⟩ := s
  obtain ⟨kind, src, dst, xt, la, lb, lc, bin, ok, B, m, d, l2⟩ := x
  unfold SV.val LV.val
  dsimp only at HS HL Hok1 Hok2 hlen1 hlen2 hu0 hu1 hu2 ⊢
  have HU : Hid (∀ (w' : World) B' m' d' l', Es w' B' m' l' → m' ≤ d' → d' ≤ maxLen → (⟨kind, src, dst, xt, la, lb, lc, bin, ok, B', m', d', l'⟩ : LV).Ok w') := Lib.hid (fun w' B' m' d' l' h1 h2 h3 => ⟨h1, h2, h3, hxu.u0, hxu.u1, hxu.u2, hxu.u3, hxu.u4, hxu.u5, hxu.u6, hxu.u7⟩)
  have HV : Hid (∀ (w' : World) A' n' c' l', Es w' A' n' l' → n' ≤ c' → c' ≤ maxLen → (⟨floor, term, vote, A', n', c', l'⟩ : SV).Ok w') := Lib.hid (fun w' B' m' d' l' h1 h2 h3 => ⟨h1, h2, h3, hu0, hu1, hu2⟩)
  clear hxu hu0 hu1 hu2
  have hB1 : Blk ((w.alloc (.cells #[.int .i64 floor, .int .i64 term, .int .i64 vote, .slice A n c] 45)).alloc (.cells #[.int .i64 kind, .int .i64 src, .int .i64 dst, .int .i64 xt, .int .i64 la, .int .i64 lb, .int .i64 lc, .int .i64 bin, .bool ok, .slice B m d] 47)) w.heap.size 45 [.int .i64 floor, .int .i64 term, .int .i64 vote, .slice A n c] := (Blk.new w _ [.int .i64 floor, .int .i64 term, .int .i64 vote, .slice A n c]).alloc _
  have hB2 : Blk ((w.alloc (.cells #[.int .i64 floor, .int .i64 term, .int .i64 vote, .slice A n c] 45)).alloc (.cells #[.int .i64 kind, .int .i64 src, .int .i64 dst, .int .i64 xt, .int .i64 la, .int .i64 lb, .int .i64 lc, .int .i64 bin, .bool ok, .slice B m d] 47)) (w.heap.size + 1) 47 [.int .i64 kind, .int .i64 src, .int .i64 dst, .int .i64 xt, .int .i64 la, .int .i64 lb, .int .i64 lc, .int .i64 bin, .bool ok, .slice B m d] := by
    have := Blk.new (w.alloc (.cells #[.int .i64 floor, .int .i64 term, .int .i64 vote, .slice A n c] 45)) 47 [.int .i64 kind, .int .i64 src, .int .i64 dst, .int .i64 xt, .int .i64 la, .int .i64 lb, .int .i64 lc, .int .i64 bin, .bool ok, .slice B m d]
    simpa using this
  have hx0 : Ext w ((w.alloc (.cells #[.int .i64 floor, .int .i64 term, .int .i64 vote, .slice A n c] 45)).alloc (.cells #[.int .i64 kind, .int .i64 src, .int .i64 dst, .int .i64 xt, .int .i64 la, .int .i64 lb, .int .i64 lc, .int .i64 bin, .bool ok, .slice B m d] 47)) := ((Ext.refl w).alloc _).alloc _
  go_enter Try.func12, Try.ntmps12
  go_wp2_with fail
  refine (law18_shown _).mono ?_
  rintro e w1 ⟨rfl, x1⟩
  replace hB1 := hB1.ext x1
  replace hB2 := hB2.ext x1
  have hx1 := hx0.trans x1
  have hlt1 := hB1.lt
  have hlt2 := hB2.lt
  clear hx0 x1
  have a0 := hB1.cell 0
  have a1 := hB1.cell 1
  have a2 := hB1.cell 2
  have a3 := hB1.cell 3
  simp only [List.getElem?_cons_zero, List.getElem?_cons_succ] at a0 a1 a2 a3
  go_wp2_with fail
  refine (HS.out _ hx1).mono ?_
  rintro e w2 ⟨v2, rfl, hown2, x2⟩
  obtain ⟨A2, c2, rfl, hc2, hcm2⟩ := own_form2 hown2
  have hn2 : min 70 n ≤ 70 := by omega
  generalize min 70 n = n2 at *
  replace hB1 := hB1.ext x2
  replace hB2 := hB2.ext x2
  have hx2 := hx1.trans x2
  clear a0 a1 a2 a3 hx1 x2
  have a0 := hB1.cell 0
  have a1 := hB1.cell 1
  have a2 := hB1.cell 2
  have a3 := hB1.cell 3
  have f0 := hB1.frozen 0
  have f1 := hB1.frozen 1
  have f2 := hB1.frozen 2
  have f3 := hB1.frozen 3
  have b0 := hB2.cell 0
  have b1 := hB2.cell 1
  have b2 := hB2.cell 2
  have b3 := hB2.cell 3
  have b4 := hB2.cell 4
  have b5 := hB2.cell 5
  have b6 := hB2.cell 6
  have b7 := hB2.cell 7
  have b8 := hB2.cell 8
  have b9 := hB2.cell 9
  simp only [List.getElem?_cons_zero, List.getElem?_cons_succ] at a0 a1 a2 a3 b0 b1 b2 b3 b4 b5 b6 b7 b8 b9
  go_wp2_with fail
  have g1 := hB1.set4 (.slice A2 n2 c2)
  have g2 := hB2.far4 (g' := w.heap.size) (by omega) (.int .i64 floor) (.int .i64 term) (.int .i64 vote) (.slice A2 n2 c2)
  have hx3 := hx2.set4 (g := w.heap.size) (Nat.le_refl _) (.int .i64 floor) (.int .i64 term) (.int .i64 vote) (.slice A2 n2 c2)
  have own3 := own_set4 hown2 (g := w.heap.size) (by omega) (.int .i64 floor) (.int .i64 term) (.int .i64 vote) (.slice A2 n2 c2)
  clear hB1 hB2 hx2 hown2 a0 a1 a2 a3 f0 f1 f2 f3 b0 b1 b2 b3 b4 b5 b6 b7 b8 b9
  generalize ((((w2.setCell ⟨w.heap.size, 0, none⟩ (.int .i64 floor)).setCell ⟨w.heap.size, 1, none⟩ (.int .i64 term)).setCell ⟨w.heap.size, 2, none⟩ (.int .i64 vote)).setCell ⟨w.heap.size, 3, none⟩ (.slice A2 n2 c2)) = W3 at *
  refine (HL.out _ hx3).mono ?_
  rintro e w4 ⟨v4, rfl, hown4, x4⟩
  obtain ⟨B4, d4, rfl, hd4, hdm4⟩ := own_form2 hown4
  have hm4 : min 6 m ≤ 6 := by omega
  generalize min 6 m = m4 at *
  have hB1 := g1.ext x4
  have hB2 := g2.ext x4
  have hx4 := hx3.trans x4
  have own4 := own_ext own3 x4
  have hlt3 := g2.lt
  clear g1 g2 hx3 own3 x4
  have a0 := hB1.cell 0
  have a1 := hB1.cell 1
  have a2 := hB1.cell 2
  have a3 := hB1.cell 3
  have b0 := hB2.cell 0
  have b1 := hB2.cell 1
  have b2 := hB2.cell 2
  have b3 := hB2.cell 3
  have b4 := hB2.cell 4
  have b5 := hB2.cell 5
  have b6 := hB2.cell 6
  have b7 := hB2.cell 7
  have b8 := hB2.cell 8
  have b9 := hB2.cell 9
  have f0 := hB2.frozen 0
  have f1 := hB2.frozen 1
  have f2 := hB2.frozen 2
  have f3 := hB2.frozen 3
  have f4 := hB2.frozen 4
  have f5 := hB2.frozen 5
  have f6 := hB2.frozen 6
  have f7 := hB2.frozen 7
  have f8 := hB2.frozen 8
  have f9 := hB2.frozen 9
  simp only [List.getElem?_cons_zero, List.getElem?_cons_succ] at a0 a1 a2 a3 b0 b1 b2 b3 b4 b5 b6 b7 b8 b9
  go_wp2_with fail
  have g1 := hB1.far10 (g' := w.heap.size + 1) (by omega) (.int .i64 kind) (.int .i64 src) (.int .i64 dst) (.int .i64 xt) (.int .i64 la) (.int .i64 lb) (.int .i64 lc) (.int .i64 bin) (.bool ok) (.slice B4 m4 d4)
  have g2 := hB2.set10 (.slice B4 m4 d4)
  have hx5 := hx4.set10 (g := w.heap.size + 1) (by omega) (.int .i64 kind) (.int .i64 src) (.int .i64 dst) (.int .i64 xt) (.int .i64 la) (.int .i64 lb) (.int .i64 lc) (.int .i64 bin) (.bool ok) (.slice B4 m4 d4)
  have own5 := own_set10 own4 (g := w.heap.size + 1) (by omega) (.int .i64 kind) (.int .i64 src) (.int .i64 dst) (.int .i64 xt) (.int .i64 la) (.int .i64 lb) (.int .i64 lc) (.int .i64 bin) (.bool ok) (.slice B4 m4 d4)
  have own6 := own_set10 hown4 (g := w.heap.size + 1) (by omega) (.int .i64 kind) (.int .i64 src) (.int .i64 dst) (.int .i64 xt) (.int .i64 la) (.int .i64 lb) (.int .i64 lc) (.int .i64 bin) (.bool ok) (.slice B4 m4 d4)
  clear hB1 hB2 hx4 hown4 own4 a0 a1 a2 a3 b0 b1 b2 b3 b4 b5 b6 b7 b8 b9 f0 f1 f2 f3 f4 f5 f6 f7 f8 f9
  generalize ((((((((((w4.setCell ⟨w.heap.size + 1, 0, none⟩ (.int .i64 kind)).setCell ⟨w.heap.size + 1, 1, none⟩ (.int .i64 src)).setCell ⟨w.heap.size + 1, 2, none⟩ (.int .i64 dst)).setCell ⟨w.heap.size + 1, 3, none⟩ (.int .i64 xt)).setCell ⟨w.heap.size + 1, 4, none⟩ (.int .i64 la)).setCell ⟨w.heap.size + 1, 5, none⟩ (.int .i64 lb)).setCell ⟨w.heap.size + 1, 6, none⟩ (.int .i64 lc)).setCell ⟨w.heap.size + 1, 7, none⟩ (.int .i64 bin)).setCell ⟨w.heap.size + 1, 8, none⟩ (.bool ok)).setCell ⟨w.heap.size + 1, 9, none⟩ (.slice B4 m4 d4)) = W5 at *
  have hE1 : Es W5 A2 n2 (cutL 70 250 l) := Es.of_own own5 fun f hf => (Hok1.out f hf).ext hx5
  have hE2 : Es W5 B4 m4 (cutL 6 250 l2) := Es.of_own own6 fun f hf => (Hok2.out f hf).ext hx5
  have hans := elect_Answer ⟨floor, term, vote, A2, n2, c2, cutL 70 250 l⟩ ⟨kind, src, dst, xt, la, lb, lc, bin, ok, B4, m4, d4, cutL 6 250 l2⟩ W5 (HV.out _ _ _ _ _ hE1 hc2 hcm2) (HU.out _ _ _ _ _ hE2 hd4 hdm4) (by dsimp only; omega) (by dsimp only; omega)
  have haf := answer_fresh ⟨floor, term, vote, A2, n2, c2, cutL 70 250 l⟩ ⟨kind, src, dst, xt, la, lb, lc, bin, ok, B4, m4, d4, cutL 6 250 l2⟩
  unfold SV.val LV.val AnsPost at hans
  dsimp only at hans haf
  have hlc := hE1.len
  have a0 := g1.cell 0
  have a1 := g1.cell 1
  have a2 := g1.cell 2
  have a3 := g1.cell 3
  have b0 := g2.cell 0
  have b1 := g2.cell 1
  have b2 := g2.cell 2
  have b3 := g2.cell 3
  have b4 := g2.cell 4
  have b5 := g2.cell 5
  have b6 := g2.cell 6
  have b7 := g2.cell 7
  have b8 := g2.cell 8
  have b9 := g2.cell 9
  simp only [List.getElem?_cons_zero, List.getElem?_cons_succ] at a0 a1 a2 a3 b0 b1 b2 b3 b4 b5 b6 b7 b8 b9
  generalize answerL ⟨floor, term, vote, A2, n2, c2, cutL 70 250 l⟩ ⟨kind, src, dst, xt, la, lb, lc, bin, ok, B4, m4, d4, cutL 6 250 l2⟩ = ANS at *
  obtain ⟨RL, g, k⟩ := ANS
  dsimp only at hans haf
  clear Hok1 Hok2 HU HV HS HL own5 own6 hE2 hlen1 hlen2 g1 g2 hlt1 hlt2 hlt3
  generalize cutL 70 250 l = L1 at *
  have HANS := Lib.hid hans; clear hans
  rcases haf with ⟨rfl, hk1⟩ | ⟨rfl, rfl, ht, hf⟩
  · rcases (show k = 0 ∨ k = 1 by omega) with rfl | rfl
    · go_wp2_with fail
      refine HANS.out.mono ?_
      clear HANS
      rintro e w6 ⟨v6, rfl, ho6, x6⟩
      obtain ⟨A6, c6, rfl, _⟩ := own_form ho6
      replace a1 := x6.cell a1
      replace a3 := x6.cell a3
      replace b3 := x6.cell b3
      replace b4 := x6.cell b4
      replace b5 := x6.cell b5
      have hx6 := hx5.trans x6
      have hE := hE1.ext x6
      clear hE1 x6 hx5 ho6 a0 a2 b0 b1 b2 b6 b7 b8 b9
      rcases Nat.eq_zero_or_pos n2 with rfl | hn0
      · have hl1 : L1 = [] := List.eq_nil_of_length_eq_zero hlc
        subst hl1
        clear hlc hE
        go_wp2
        go_ret
        exact ⟨rfl, hx6⟩
      · obtain ⟨q, rfl⟩ : ∃ q, n2 = q + 1 := ⟨n2 - 1, by omega⟩
        obtain ⟨bb, off, rfl, k0, k1⟩ := hE.at_ (i := q) (by omega)
        have hlt := lastT_at L1 q hlc
        generalize L1[q].term = t at *
        have e1 : IntKind.i64.wrap (((q + 1 : Nat) : Int) - 1) = q := by rw [show ((q + 1 : Nat) : Int) - 1 = q by omega]; exact IntWalk.i64_in _ (by omega)
        have hq0 : (0 : Int) ≤ q := by omega
        have hq1 : (q : Int) < ((q + 1 : Nat) : Int) := by omega
        clear hlc hE k1 hlt
        go_wp2
        go_ret
        exact ⟨rfl, hx6⟩
    · go_wp2_with fail
      refine HANS.out.mono ?_
      clear HANS
      rintro e w6 ⟨v6, rfl, ho6, x6⟩
      obtain ⟨A6, c6, rfl, _⟩ := own_form ho6
      replace a1 := x6.cell a1
      replace a3 := x6.cell a3
      replace b3 := x6.cell b3
      replace b4 := x6.cell b4
      replace b5 := x6.cell b5
      have hx6 := hx5.trans x6
      have hE := hE1.ext x6
      clear hE1 x6 hx5 ho6 a0 a2 b0 b1 b2 b6 b7 b8 b9
      rcases Nat.eq_zero_or_pos n2 with rfl | hn0
      · have hl1 : L1 = [] := List.eq_nil_of_length_eq_zero hlc
        subst hl1
        clear hlc hE
        go_wp2
        go_ret
        exact ⟨rfl, hx6⟩
      · obtain ⟨q, rfl⟩ : ∃ q, n2 = q + 1 := ⟨n2 - 1, by omega⟩
        obtain ⟨bb, off, rfl, k0, k1⟩ := hE.at_ (i := q) (by omega)
        have hlt := lastT_at L1 q hlc
        generalize L1[q].term = t at *
        have e1 : IntKind.i64.wrap (((q + 1 : Nat) : Int) - 1) = q := by rw [show ((q + 1 : Nat) : Int) - 1 = q by omega]; exact IntWalk.i64_in _ (by omega)
        have hq0 : (0 : Int) ≤ q := by omega
        have hq1 : (q : Int) < ((q + 1 : Nat) : Int) := by omega
        clear hlc hE k1 hlt
        go_wp2
        go_ret
        exact ⟨rfl, hx6⟩
  · rcases hf with hf | hf
    · go_wp2_with fail
      refine HANS.out.mono ?_
      clear HANS
      rintro e w6 ⟨v6, rfl, ho6, x6⟩
      obtain ⟨A6, c6, rfl, _⟩ := own_form ho6
      replace a1 := x6.cell a1
      replace a3 := x6.cell a3
      replace b3 := x6.cell b3
      replace b4 := x6.cell b4
      replace b5 := x6.cell b5
      have hx6 := hx5.trans x6
      have hE := hE1.ext x6
      clear hE1 x6 hx5 ho6 a0 a2 b0 b1 b2 b6 b7 b8 b9
      rcases Nat.eq_zero_or_pos n2 with rfl | hn0
      · have hl1 : L1 = [] := List.eq_nil_of_length_eq_zero hlc
        subst hl1
        rw [show lastT [] = 0 from rfl] at hf
        have hf' : (0 : Int) < lb := hf
        clear hf
        clear hlc hE
        go_wp2
        go_ret
        exact ⟨rfl, hx6⟩
      · obtain ⟨q, rfl⟩ : ∃ q, n2 = q + 1 := ⟨n2 - 1, by omega⟩
        obtain ⟨bb, off, rfl, k0, k1⟩ := hE.at_ (i := q) (by omega)
        have hlt := lastT_at L1 q hlc
        rw [hlt] at hf
        generalize L1[q].term = t at *
        have e1 : IntKind.i64.wrap (((q + 1 : Nat) : Int) - 1) = q := by rw [show ((q + 1 : Nat) : Int) - 1 = q by omega]; exact IntWalk.i64_in _ (by omega)
        have hq0 : (0 : Int) ≤ q := by omega
        have hq1 : (q : Int) < ((q + 1 : Nat) : Int) := by omega
        clear hlc hE k1 hlt
        go_wp2
        go_ret
        exact ⟨rfl, hx6⟩
    · go_wp2_with fail
      refine HANS.out.mono ?_
      clear HANS
      rintro e w6 ⟨v6, rfl, ho6, x6⟩
      obtain ⟨A6, c6, rfl, _⟩ := own_form ho6
      replace a1 := x6.cell a1
      replace a3 := x6.cell a3
      replace b3 := x6.cell b3
      replace b4 := x6.cell b4
      replace b5 := x6.cell b5
      have hx6 := hx5.trans x6
      have hE := hE1.ext x6
      clear hE1 x6 hx5 ho6 a0 a2 b0 b1 b2 b6 b7 b8 b9
      rcases Nat.eq_zero_or_pos n2 with rfl | hn0
      · have hl1 : L1 = [] := List.eq_nil_of_length_eq_zero hlc
        subst hl1
        rw [show lastT [] = 0 from rfl] at hf
        obtain ⟨rfl, hf2⟩ := hf
        have hf3 : (0 : Int) ≤ la := by simpa using hf2
        clear hf2
        clear hlc hE
        go_wp2
        go_ret
        exact ⟨rfl, hx6⟩
      · obtain ⟨q, rfl⟩ : ∃ q, n2 = q + 1 := ⟨n2 - 1, by omega⟩
        obtain ⟨bb, off, rfl, k0, k1⟩ := hE.at_ (i := q) (by omega)
        have hlt := lastT_at L1 q hlc
        obtain ⟨hf, hf2⟩ := hf
        rw [hlt] at hf
        rw [hlc] at hf2
        generalize L1[q].term = t at *
        subst hf
        have e1 : IntKind.i64.wrap (((q + 1 : Nat) : Int) - 1) = q := by rw [show ((q + 1 : Nat) : Int) - 1 = q by omega]; exact IntWalk.i64_in _ (by omega)
        have hq0 : (0 : Int) ≤ q := by omega
        have hq1 : (q : Int) < ((q + 1 : Nat) : Int) := by omega
        clear hlc hE k1 hlt
        go_wp2
        go_ret
        exact ⟨rfl, hx6⟩
end Go.Proofs.Ytcdnjhcddbkciaa
