/- The walk of the law StateParts. (Printed by wip/tools/stparts.py.) -/
import Derived.Test.YtiildgoaiookhaaStX
import Derived.Test.YtiildgoaiookhaaStPa
import Derived.Test.YtiildgoaiookhaaApp
namespace Go.Proofs.Ytiildgoaiookhaa
open Go.RowKit

theorem Blk.rd {w : World} {g : Nat} {t : TypeId} {l : List Value} (h : Blk w g t l) {n size : Nat} (hn : l.length = n * size) : Rd w (some ⟨g, 0, none⟩) n size l :=
  ⟨hn, fun _ => ⟨g, 0, rfl, h.lt, fun j u hu => by rw [Nat.zero_add, h.cell j]; exact hu⟩⟩
theorem lessSes_ok {t : KV} {W w' : World} (hok : t.Ok W) (hx : Ext W w') {B i n : Nat} {A : Option Addr} {c : Nat} (ho : w'.ownsRow B 45 4 (.slice A n c) n (thingsOf (t.ses.take i ++ t.ses.drop (i + 1)))) : (lessSes t i A n c).Ok w' := by
  have hc := own_cap ho
  have h := hok.ext hx
  refine ⟨h.u0, h.u1, h.u2, h.u3, ?_, hc.1, hc.2, h.t2, h.le2, h.cap2, h.t3, h.le3, h.cap3⟩
  exact Ts.of_own ho (fun f hf => by
    rcases List.mem_append.1 hf with hf | hf
    · exact h.t1.ok f (List.mem_of_mem_take hf)
    · exact h.t1.ok f (List.mem_of_mem_drop hf)) (by omega)
theorem lessSes_few {t : KV} (h : t.Few) {i n : Nat} {A : Option Addr} {c : Nat} (hn : n ≤ 1000000) : (lessSes t i A n c).Few := ⟨hn, h.n2, h.n3, h.ch⟩
theorem lessOps_ok {t : KV} {W w' : World} (hok : t.Ok W) (hx : Ext W w') {B i n : Nat} {A : Option Addr} {c : Nat} (ho : w'.ownsRow B 47 2 (.slice A n c) n (thingsOf (t.ops.take i ++ t.ops.drop (i + 1)))) : (lessOps t i A n c).Ok w' := by
  have hc := own_cap ho
  have h := hok.ext hx
  refine ⟨h.u0, h.u1, h.u2, h.u3, h.t1, h.le1, h.cap1, ?_, hc.1, hc.2, h.t3, h.le3, h.cap3⟩
  exact Ts.of_own ho (fun f hf => by
    rcases List.mem_append.1 hf with hf | hf
    · exact h.t2.ok f (List.mem_of_mem_take hf)
    · exact h.t2.ok f (List.mem_of_mem_drop hf)) (by omega)
theorem lessOps_few {t : KV} (h : t.Few) {i n : Nat} {A : Option Addr} {c : Nat} (hn : n ≤ 1000000) : (lessOps t i A n c).Few := ⟨h.n1, hn, h.n3, h.ch⟩
theorem lessSns_ok {t : KV} {W w' : World} (hok : t.Ok W) (hx : Ext W w') {B i n : Nat} {A : Option Addr} {c : Nat} (ho : w'.ownsRow B 33 5 (.slice A n c) n (thingsOf (t.sns.take i ++ t.sns.drop (i + 1)))) : (lessSns t i A n c).Ok w' := by
  have hc := own_cap ho
  have h := hok.ext hx
  refine ⟨h.u0, h.u1, h.u2, h.u3, h.t1, h.le1, h.cap1, h.t2, h.le2, h.cap2, ?_, hc.1, hc.2⟩
  exact Ts.of_own ho (fun f hf => by
    rcases List.mem_append.1 hf with hf | hf
    · exact h.t3.ok f (List.mem_of_mem_take hf)
    · exact h.t3.ok f (List.mem_of_mem_drop hf)) (by omega)
theorem lessSns_few {t : KV} (h : t.Few) {i n : Nat} {A : Option Addr} {c : Nat} (hn : n ≤ 1000000) : (lessSns t i A n c).Few := ⟨h.n1, h.n2, hn, fun f hf => by
  rcases List.mem_append.1 hf with hf | hf
  · exact h.ch f (List.mem_of_mem_take hf)
  · exact h.ch f (List.mem_of_mem_drop hf)⟩

theorem moreSns_ok {t : KV} {f : NV} {W w' : World} (hok : t.Ok W) (hx : Ext W w') (hf : f ∈ t.sns) {B n : Nat} {A : Option Addr} {c : Nat} (ho : w'.ownsRow B 33 5 (.slice A n c) n (thingsOf (t.sns ++ [f]))) : (moreSns t f A n c).Ok w' := by
  have hc := own_cap ho
  have h := hok.ext hx
  refine ⟨h.u0, h.u1, h.u2, h.u3, h.t1, h.le1, h.cap1, h.t2, h.le2, h.cap2, ?_, hc.1, hc.2⟩
  exact Ts.of_own ho (fun g hg => by
    rcases List.mem_append.1 hg with hg | hg
    · exact h.t3.ok g hg
    · rw [List.mem_singleton.1 hg]; exact h.t3.ok f hf) (by omega)
theorem moreSns_few {t : KV} {f : NV} (h : t.Few) (hf : f ∈ t.sns) {n : Nat} {A : Option Addr} {c : Nat} (hn : n ≤ 1000000) : (moreSns t f A n c).Few := ⟨h.n1, h.n2, hn, fun g hg => by
  rcases List.mem_append.1 hg with hg | hg
  · exact h.ch g hg
  · rw [List.mem_singleton.1 hg]; exact h.ch f hf⟩

/-- the catalogue itself, or one without a thing whose row is the walk's own -/
def OwnL {α : Type} {size : Nat} [Thing α size] (E : TypeId) (f : Nat → Option Addr → Nat → Nat → KV) (l : List α) (t tx : KV) (B : Nat) (w : World) : Prop :=
  tx = t ∨ ∃ i A n c, tx = f i A n c ∧ w.ownsRow B E size (.slice A n c) n (thingsOf (l.take i ++ l.drop (i + 1)))
theorem OwnL.ext {α : Type} {size : Nat} [Thing α size] {E : TypeId} {f : Nat → Option Addr → Nat → Nat → KV} {l : List α} {t tx : KV} {B : Nat} {w w' : World} (h : OwnL (size := size) E f l t tx B w) (hx : Ext w w') : OwnL (size := size) E f l t tx B w' := by
  rcases h with h | ⟨i, A, n, c, e, h⟩
  · exact .inl h
  · exact .inr ⟨i, A, n, c, e, own_ext h hx⟩
theorem OwnL.set {α : Type} {size : Nat} [Thing α size] {E : TypeId} {f : Nat → Option Addr → Nat → Nat → KV} {l : List α} {t tx : KV} {B : Nat} {w : World} (h : OwnL (size := size) E f l t tx B w) (g j : Nat) (hg : g < B) (v : Value) : OwnL (size := size) E f l t tx B (w.setCell ⟨g, j, none⟩ v) := by
  rcases h with h | ⟨i, A, n, c, e, h⟩
  · exact .inl h
  · exact .inr ⟨i, A, n, c, e, own_set h (p := ⟨g, j, none⟩) hg v⟩
theorem OwnL.ses {t tx : KV} {W w' : World} {B : Nat} (h : OwnL (size := 4) 45 (lessSes t) t.ses t tx B w') (hok : t.Ok W) (hx : Ext W w') : tx.Ok w' := by
  rcases h with rfl | ⟨i, A, n, c, rfl, h⟩
  · exact hok.ext hx
  · exact lessSes_ok hok hx h
theorem OwnL.ops {t tx : KV} {W w' : World} {B : Nat} (h : OwnL (size := 2) 47 (lessOps t) t.ops t tx B w') (hok : t.Ok W) (hx : Ext W w') : tx.Ok w' := by
  rcases h with rfl | ⟨i, A, n, c, rfl, h⟩
  · exact hok.ext hx
  · exact lessOps_ok hok hx h
theorem OwnL.sns {t tx : KV} {W w' : World} {B : Nat} (h : OwnL (size := 5) 33 (lessSns t) t.sns t tx B w') (hok : t.Ok W) (hx : Ext W w') : tx.Ok w' := by
  rcases h with rfl | ⟨i, A, n, c, rfl, h⟩
  · exact hok.ext hx
  · exact lessSns_ok hok hx h

set_option maxRecDepth 100000 in
set_option maxHeartbeats 6400000 in
theorem law_StateParts (s : KV) (ver at_ : Nat) (w : World) (hv : ver < 256) (ha : at_ < 256) (hs : s.Ok w) :
    Calls Try.prog 5 #[s.val, .int .u8 ver, .int .u8 at_] w fun e w' => e = .returned (.bool true) ∧ Ext w w' := by
  have hm : Int.tmod (ver : Int) 3 = ((ver % 3 : Nat) : Int) := by rw [Int.tmod_eq_emod_of_nonneg (by omega)]; omega
  have hm3 : ver % 3 < 3 := Nat.mod_lt _ (by omega)
  have hw1 : IntKind.i64.wrap (ver : Int) = (ver : Int) := IntWalk.i64_in _ (by omega)
  have hw2 : IntKind.i64.wrap (at_ : Int) = (at_ : Int) := IntWalk.i64_in _ (by omega)
  unfold KV.val
  have hB0 := Blk.new w 26 [.int .i64 s.ver, .int .i64 s.next, .int .i64 s.keep, .int .i64 s.quota, .slice s.A1 s.n1 s.c1, .slice s.A2 s.n2 s.c2, .slice s.A3 s.n3 s.c3]
  go_enter Try.func5, Try.ntmps5
  go_wp2_with fail
  refine (law07_shown _).mono ?_
  rintro e w1 ⟨rfl, x1⟩
  have hB1 := hB0.ext x1
  have xw1 : Ext w w1 := ((Ext.refl w).alloc _).trans x1
  have d0 := hB1.cell 0
  have d1 := hB1.cell 1
  have d2 := hB1.cell 2
  have d3 := hB1.cell 3
  have d4 := hB1.cell 4
  have d5 := hB1.cell 5
  have d6 := hB1.cell 6
  simp only [List.getElem?_cons_zero, List.getElem?_cons_succ] at d0 d1 d2 d3 d4 d5 d6
  have HL := Lib.hid (law07_less s w1 (hs.ext xw1))
  unfold KV.val at HL
  go_wp2_with fail
  refine HL.out.mono ?_
  clear HL
  rintro e w2 ⟨A, c, rfl, hown, x2⟩
  clear d0 d1 d2 d3 d4 d5 d6
  have hB2 := hB1.ext x2
  have xw2 := xw1.trans x2
  have hlt1 := hB1.lt
  have hown2 := own_st7 hown (g := w.heap.size) hlt1 (.int .i64 (lessK s A c).ver) (.int .i64 (lessK s A c).next) (.int .i64 (lessK s A c).keep) (.int .i64 (lessK s A c).quota) (.slice (lessK s A c).A1 (lessK s A c).n1 (lessK s A c).c1) (.slice (lessK s A c).A2 (lessK s A c).n2 (lessK s A c).c2) (.slice (lessK s A c).A3 (lessK s A c).n3 (lessK s A c).c3)
  have xW : Ext w (put7 w2 w.heap.size (.int .i64 (lessK s A c).ver) (.int .i64 (lessK s A c).next) (.int .i64 (lessK s A c).keep) (.int .i64 (lessK s A c).quota) (.slice (lessK s A c).A1 (lessK s A c).n1 (lessK s A c).c1) (.slice (lessK s A c).A2 (lessK s A c).n2 (lessK s A c).c2) (.slice (lessK s A c).A3 (lessK s A c).n3 (lessK s A c).c3)) := xw2.st7 (Nat.le_refl _) _ _ _ _ _ _ _
  have hok := lessK_ok hs xW hown2
  have hfew := lessK_few s A c
  have hB := hB2.st7 (.int .i64 (lessK s A c).ver) (.int .i64 (lessK s A c).next) (.int .i64 (lessK s A c).keep) (.int .i64 (lessK s A c).quota) (.slice (lessK s A c).A1 (lessK s A c).n1 (lessK s A c).c1) (.slice (lessK s A c).A2 (lessK s A c).n2 (lessK s A c).c2) (.slice (lessK s A c).A3 (lessK s A c).n3 (lessK s A c).c3)
  have h20a : (lessK s A c).n1 ≤ 20 := by dsimp only [lessK]; omega
  have h20b : (lessK s A c).n2 ≤ 20 := by dsimp only [lessK]; omega
  have h20c : (lessK s A c).n3 ≤ 20 := by dsimp only [lessK]; omega
  have d0 := hB2.cell 0
  have d1 := hB2.cell 1
  have d2 := hB2.cell 2
  have d3 := hB2.cell 3
  have d4 := hB2.cell 4
  have d5 := hB2.cell 5
  have d6 := hB2.cell 6
  simp only [List.getElem?_cons_zero, List.getElem?_cons_succ] at d0 d1 d2 d3 d4 d5 d6
  have f0 := hB2.frozen 0
  have f1 := hB2.frozen 1
  have f2 := hB2.frozen 2
  have f3 := hB2.frozen 3
  have f4 := hB2.frozen 4
  have f5 := hB2.frozen 5
  have f6 := hB2.frozen 6
  clear hB0 hB1 hB2 hown hown2 xw1 xw2 x1 hs
  generalize lessK s A c = t at *
  go_upto_region 3 with fail
  rw [st7_def]
  clear d0 d1 d2 d3 d4 d5 d6 f0 f1 f2 f3 f4 f5 f6 x2 hlt1
  generalize put7 w2 w.heap.size (.int .i64 t.ver) (.int .i64 t.next) (.int .i64 t.keep) (.int .i64 t.quota) (.slice t.A1 t.n1 t.c1) (.slice t.A2 t.n2 t.c2) (.slice t.A3 t.n3 t.c3) = W at *
  generalize ver % 3 = v0 at *
  have hw3 : IntKind.i64.wrap (v0 : Int) = (v0 : Int) := IntWalk.i64_in _ (by omega)
  have hw4 : IntKind.i64.wrap (1 + (v0 : Int)) = 1 + (v0 : Int) := IntWalk.i64_in _ (by omega)
  have HP := Lib.hid (fun (u : KV) (w' : World) (hu : u.Ok w') (hf : u.Few) => st_May u (1 + (v0 : Int)) w' hu hf.n1 hf.n2 hf.n3 hf.ch)
  have d0 := hB.cell 0
  have d1 := hB.cell 1
  have d2 := hB.cell 2
  have d3 := hB.cell 3
  have d4 := hB.cell 4
  have d5 := hB.cell 5
  have d6 := hB.cell 6
  simp only [List.getElem?_cons_zero, List.getElem?_cons_succ] at d0 d1 d2 d3 d4 d5 d6
  have f0 := hB.frozen 0
  have f1 := hB.frozen 1
  have f2 := hB.frozen 2
  have f3 := hB.frozen 3
  have f4 := hB.frozen 4
  have f5 := hB.frozen 5
  have f6 := hB.frozen 6
  have H0 := Lib.hid (HP.out t W hok hfew)
  unfold KV.val at H0
  have HB := Lib.hid hB
  clear hB
  go_wp2_with fail
  refine (H0.out).mono ?_
  rintro e w3 ⟨rfl, y3⟩
  clear H0 d0 d1 d2 d3 d4 d5 d6 f0 f1 f2 f3 f4 f5 f6
  by_cases hk : kmay t (1 + (v0 : Int)) = 0
  · rw [hk]
    have hB3 := HB.out.ext y3
    have hlt3 := hB3.lt
    have d0 := hB3.cell 0
    have d1 := hB3.cell 1
    have d2 := hB3.cell 2
    have d3 := hB3.cell 3
    have d4 := hB3.cell 4
    have d5 := hB3.cell 5
    have d6 := hB3.cell 6
    simp only [List.getElem?_cons_zero, List.getElem?_cons_succ] at d0 d1 d2 d3 d4 d5 d6
    go_upto_region 9 with fail
    have hX := (Blk.new w3 26 [.int .i64 t.ver, .int .i64 t.next, .int .i64 t.keep, .int .i64 t.quota, .slice t.A1 t.n1 t.c1, .slice t.A2 t.n2 t.c2, .slice t.A3 t.n3 t.c3]).alloc (.cells #[.int .i64 t.ver, .int .i64 t.next, .int .i64 t.keep, .int .i64 t.quota, .slice t.A1 t.n1 t.c1, .slice t.A2 t.n2 t.c2, .slice t.A3 t.n3 t.c3] 26)
    have hY : Blk ((w3.alloc (.cells #[.int .i64 t.ver, .int .i64 t.next, .int .i64 t.keep, .int .i64 t.quota, .slice t.A1 t.n1 t.c1, .slice t.A2 t.n2 t.c2, .slice t.A3 t.n3 t.c3] 26)).alloc (.cells #[.int .i64 t.ver, .int .i64 t.next, .int .i64 t.keep, .int .i64 t.quota, .slice t.A1 t.n1 t.c1, .slice t.A2 t.n2 t.c2, .slice t.A3 t.n3 t.c3] 26)) (w3.heap.size + 1) 26 [.int .i64 t.ver, .int .i64 t.next, .int .i64 t.keep, .int .i64 t.quota, .slice t.A1 t.n1 t.c1, .slice t.A2 t.n2 t.c2, .slice t.A3 t.n3 t.c3] := by
      have := Blk.new (w3.alloc (.cells #[.int .i64 t.ver, .int .i64 t.next, .int .i64 t.keep, .int .i64 t.quota, .slice t.A1 t.n1 t.c1, .slice t.A2 t.n2 t.c2, .slice t.A3 t.n3 t.c3] 26)) 26 [.int .i64 t.ver, .int .i64 t.next, .int .i64 t.keep, .int .i64 t.quota, .slice t.A1 t.n1 t.c1, .slice t.A2 t.n2 t.c2, .slice t.A3 t.n3 t.c3]
      simpa using this
    have y4 := (y3.alloc (.cells #[.int .i64 t.ver, .int .i64 t.next, .int .i64 t.keep, .int .i64 t.quota, .slice t.A1 t.n1 t.c1, .slice t.A2 t.n2 t.c2, .slice t.A3 t.n3 t.c3] 26)).alloc (.cells #[.int .i64 t.ver, .int .i64 t.next, .int .i64 t.keep, .int .i64 t.quota, .slice t.A1 t.n1 t.c1, .slice t.A2 t.n2 t.c2, .slice t.A3 t.n3 t.c3] 26)
    have hXW : W.heap.size ≤ w3.heap.size := y3.size
    clear d0 d1 d2 d3 d4 d5 d6
    generalize hW1 : (w3.alloc (.cells #[.int .i64 t.ver, .int .i64 t.next, .int .i64 t.keep, .int .i64 t.quota, .slice t.A1 t.n1 t.c1, .slice t.A2 t.n2 t.c2, .slice t.A3 t.n3 t.c3] 26)).alloc (.cells #[.int .i64 t.ver, .int .i64 t.next, .int .i64 t.keep, .int .i64 t.quota, .slice t.A1 t.n1 t.c1, .slice t.A2 t.n2 t.c2, .slice t.A3 t.n3 t.c3] 26) = W1 at *
    clear hW1 y3 hB3
    generalize w3.heap.size = X at *
    have hXY : X < X + 1 := by omega
    generalize X + 1 = Y at *
    have hB4 := HB.out.ext y4
    have hlt4 := hB4.lt
    have d0 := hB4.cell 0
    have d1 := hB4.cell 1
    have d2 := hB4.cell 2
    have d3 := hB4.cell 3
    have d4 := hB4.cell 4
    have d5 := hB4.cell 5
    have d6 := hB4.cell 6
    simp only [List.getElem?_cons_zero, List.getElem?_cons_succ] at d0 d1 d2 d3 d4 d5 d6
    go_upto_region 11 with fail
    have hx5 := (hX.alloc (.cells #[.int .i64 t.ver, .int .i64 t.next, .int .i64 t.keep, .int .i64 t.quota, .slice t.A1 t.n1 t.c1, .slice t.A2 t.n2 t.c2, .slice t.A3 t.n3 t.c3] 26)).alloc (.cells #[.int .i64 t.ver, .int .i64 t.next, .int .i64 t.keep, .int .i64 t.quota, .slice t.A1 t.n1 t.c1, .slice t.A2 t.n2 t.c2, .slice t.A3 t.n3 t.c3] 26)
    have hy5 := (hY.alloc (.cells #[.int .i64 t.ver, .int .i64 t.next, .int .i64 t.keep, .int .i64 t.quota, .slice t.A1 t.n1 t.c1, .slice t.A2 t.n2 t.c2, .slice t.A3 t.n3 t.c3] 26)).alloc (.cells #[.int .i64 t.ver, .int .i64 t.next, .int .i64 t.keep, .int .i64 t.quota, .slice t.A1 t.n1 t.c1, .slice t.A2 t.n2 t.c2, .slice t.A3 t.n3 t.c3] 26)
    have hz5 := (Blk.new W1 26 [.int .i64 t.ver, .int .i64 t.next, .int .i64 t.keep, .int .i64 t.quota, .slice t.A1 t.n1 t.c1, .slice t.A2 t.n2 t.c2, .slice t.A3 t.n3 t.c3]).alloc (.cells #[.int .i64 t.ver, .int .i64 t.next, .int .i64 t.keep, .int .i64 t.quota, .slice t.A1 t.n1 t.c1, .slice t.A2 t.n2 t.c2, .slice t.A3 t.n3 t.c3] 26)
    have hv5 : Blk ((W1.alloc (.cells #[.int .i64 t.ver, .int .i64 t.next, .int .i64 t.keep, .int .i64 t.quota, .slice t.A1 t.n1 t.c1, .slice t.A2 t.n2 t.c2, .slice t.A3 t.n3 t.c3] 26)).alloc (.cells #[.int .i64 t.ver, .int .i64 t.next, .int .i64 t.keep, .int .i64 t.quota, .slice t.A1 t.n1 t.c1, .slice t.A2 t.n2 t.c2, .slice t.A3 t.n3 t.c3] 26)) (W1.heap.size + 1) 26 [.int .i64 t.ver, .int .i64 t.next, .int .i64 t.keep, .int .i64 t.quota, .slice t.A1 t.n1 t.c1, .slice t.A2 t.n2 t.c2, .slice t.A3 t.n3 t.c3] := by
      have := Blk.new (W1.alloc (.cells #[.int .i64 t.ver, .int .i64 t.next, .int .i64 t.keep, .int .i64 t.quota, .slice t.A1 t.n1 t.c1, .slice t.A2 t.n2 t.c2, .slice t.A3 t.n3 t.c3] 26)) 26 [.int .i64 t.ver, .int .i64 t.next, .int .i64 t.keep, .int .i64 t.quota, .slice t.A1 t.n1 t.c1, .slice t.A2 t.n2 t.c2, .slice t.A3 t.n3 t.c3]
      simpa using this
    have y5 := (y4.alloc (.cells #[.int .i64 t.ver, .int .i64 t.next, .int .i64 t.keep, .int .i64 t.quota, .slice t.A1 t.n1 t.c1, .slice t.A2 t.n2 t.c2, .slice t.A3 t.n3 t.c3] 26)).alloc (.cells #[.int .i64 t.ver, .int .i64 t.next, .int .i64 t.keep, .int .i64 t.quota, .slice t.A1 t.n1 t.c1, .slice t.A2 t.n2 t.c2, .slice t.A3 t.n3 t.c3] 26)
    have hYZ : Y < W1.heap.size := hY.lt
    clear d0 d1 d2 d3 d4 d5 d6 hX hY hB4 hlt4 y4
    generalize hW2 : (W1.alloc (.cells #[.int .i64 t.ver, .int .i64 t.next, .int .i64 t.keep, .int .i64 t.quota, .slice t.A1 t.n1 t.c1, .slice t.A2 t.n2 t.c2, .slice t.A3 t.n3 t.c3] 26)).alloc (.cells #[.int .i64 t.ver, .int .i64 t.next, .int .i64 t.keep, .int .i64 t.quota, .slice t.A1 t.n1 t.c1, .slice t.A2 t.n2 t.c2, .slice t.A3 t.n3 t.c3] 26) = W2 at *
    clear hW2
    generalize W1.heap.size = Z at *
    have hZT : Z < Z + 1 := by omega
    generalize Z + 1 = V at *
    have hXB : w.heap.size < X := by omega
    have hBs : w.heap.size < W2.heap.size := by have := hx5.lt; omega
    obtain ⟨B0, hB1, hB2⟩ : ∃ B0, V < B0 ∧ B0 ≤ W2.heap.size := ⟨_, hv5.lt, Nat.le_refl _⟩
    have hZB : V > Z := hZT
    have d4 := (HB.out.ext y5).cell 4
    simp only [List.getElem?_cons_zero, List.getElem?_cons_succ] at d4
    go_upto_if 38 with fail
    clear d4
    go_cut [14] (fun _ wx => ∃ tx : KV, Blk wx X 26 [.int .i64 tx.ver, .int .i64 tx.next, .int .i64 tx.keep, .int .i64 tx.quota, .slice tx.A1 tx.n1 tx.c1, .slice tx.A2 tx.n2 tx.c2, .slice tx.A3 tx.n3 tx.c3] ∧ tx.Few ∧ kmay tx (1 + (v0 : Int)) = 0 ∧ OwnL (size := 4) 45 (lessSes t) t.ses t tx B0 wx ∧ Blk wx Y 26 [.int .i64 t.ver, .int .i64 t.next, .int .i64 t.keep, .int .i64 t.quota, .slice t.A1 t.n1 t.c1, .slice t.A2 t.n2 t.c2, .slice t.A3 t.n3 t.c3] ∧ Blk wx Z 26 [.int .i64 t.ver, .int .i64 t.next, .int .i64 t.keep, .int .i64 t.quota, .slice t.A1 t.n1 t.c1, .slice t.A2 t.n2 t.c2, .slice t.A3 t.n3 t.c3] ∧ Blk wx V 26 [.int .i64 t.ver, .int .i64 t.next, .int .i64 t.keep, .int .i64 t.quota, .slice t.A1 t.n1 t.c1, .slice t.A2 t.n2 t.c2, .slice t.A3 t.n3 t.c3] ∧ Ext W wx ∧ B0 ≤ wx.heap.size)
    case first =>
      by_cases hn : t.n1 = 0
      · have hn' : decide ((0 : Int) < t.n1) = false := dec_f (by omega)
        go_wp2_with fail
        go_meet
        exact ⟨t, hx5, hfew, hk, .inl rfl, hy5, hz5, hv5, y5, hB2⟩
      · have hn' : decide ((0 : Int) < t.n1) = true := dec_t (by omega)
        obtain ⟨i, hi, hin⟩ : ∃ i : Nat, ((at_ : Int) % (t.n1 : Int)) = i ∧ i < t.n1 := ⟨at_ % t.n1, (Int.natCast_emod at_ t.n1).symm, Nat.mod_lt _ (by omega)⟩
        have ht1 := hok.t1.ext y5
        have hle1 := hok.le1
        have hcp1 := hok.cap1
        have hlen1 := ht1.len
        have d4 := (HB.out.ext y5).cell 4
        have e4 := hx5.cell 4
        have z4 := hx5.frozen 4
        simp only [List.getElem?_cons_zero, List.getElem?_cons_succ] at d4 e4
        go_upto_region 13 with fail
        rw [hi]
        clear hi
        obtain ⟨A', c', hc', hsl2, hts⟩ := cut_things (α := CV) (P := Try.prog) sessT t.A1 (show i + 1 ≤ t.n1 by omega) hle1 ((i : Int) + 1) (by omega)
        have ht2 := hts _ _ ht1
        have ht0 := ht1.upto (hi := i) (by omega)
        have hwi : IntKind.i64.wrap ((i : Int) + 1) = (i : Int) + 1 := IntWalk.i64_in _ (by omega)
        have hi0 : (0 : Int) ≤ i := by omega
        have hic : (i : Int) ≤ t.c1 := by omega
        have xD : Ext W2 (W2.alloc (.cells #[] 45)).drew := ((Ext.refl W2).alloc _).drew
        have hE : (W2.alloc (.cells #[] 45)).drew.ownsRow W2.heap.size 45 4 (.slice (some ⟨W2.heap.size, 0, none⟩) 0 0) 0 [] := World.ownsRow.drew (own_empty W2 45 4)
        have htD := ht0.ext xD
        have hzD : W2.heap.size ≤ (W2.alloc (.cells #[] 45)).drew.heap.size := xD.size
        have hltX := hx5.lt
        have hltY := hy5.lt
        have hltZ := hz5.lt
        have hltV := hv5.lt
        have hWW : W.heap.size ≤ W2.heap.size := y5.size
        clear hts
        go_region_held3 (fun w' => w'.cell? ⟨w.heap.size, 4, none⟩ = some (.slice t.A1 t.n1 t.c1) ∧ w'.frozen? ⟨X, 4, none⟩ = false)
          (first
            | (exact ⟨((HB.out.ext y5).ext xD).cell 4, (hx5.ext xD).frozen 4⟩)
            | (exact ⟨(HB.out.ext y6).cell 4, hx6.frozen 4⟩)
            | (exact ⟨(HB.out.ext y7).cell 4, hx7.frozen 4⟩)
            | (exact ⟨((HB.out.ext y7).far (show w.heap.size ≠ X by omega) _).cell 4, (hx7.set_ 4 _).frozen 4⟩)
            | (exact ⟨(HB.out.ext y5).cell 4, hx5.frozen 4⟩)
            | go_keep)
          (first
            | (refine step_app sessT (by omega) _ rfl rfl rfl hE rfl htD.rd (thingsOf_cells _) (by unfold maxLen; omega) (by omega) hzD ?_; intro v3 w3 hown3 hg3 hat3; have hx6 := (hx5.ext xD).grown hg3 (fun e => by have := (hE.lt _ e.symm).1; omega); have hy6 := (hy5.ext xD).grown hg3 (fun e => by have := (hE.lt _ e.symm).1; omega); have hz6 := (hz5.ext xD).grown hg3 (fun e => by have := (hE.lt _ e.symm).1; omega); have hv6 := (hv5.ext xD).grown hg3 (fun e => by have := (hE.lt _ e.symm).1; omega); have x6 := Below.app xD hg3 hzD hE (Nat.le_refl _); have y6 := y5.trans x6; have ht6 := ht2.ext x6; have hsz6 : W2.heap.size ≤ w3.heap.size := x6.size; clear hg3 hat3)
            | (refine step_app sessT (by omega) _ rfl rfl rfl hown3 rfl ht6.rd (thingsOf_cells _) (by unfold maxLen; omega) (by omega) (by omega) ?_; intro v4 w4 hown4 hg4 hat4; have hx7 := hx6.grown hg4 (fun e => by have := (hown3.lt _ e.symm).1; omega); have hy7 := hy6.grown hg4 (fun e => by have := (hown3.lt _ e.symm).1; omega); have hz7 := hz6.grown hg4 (fun e => by have := (hown3.lt _ e.symm).1; omega); have hv7 := hv6.grown hg4 (fun e => by have := (hown3.lt _ e.symm).1; omega); have x7 := Below.app x6 hg4 hsz6 hown3 (Nat.le_refl _); have y7 := y5.trans x7; obtain ⟨A4, c4, rfl, _⟩ := own_form hown4; have e7 := hx7.cell 4; simp only [List.getElem?_cons_zero, List.getElem?_cons_succ] at e7; clear hg4 hat4))
        have hown8 := own_set hown4 (p := ⟨X, 4, none⟩) hltX (.slice A4 (i + (t.n1 - (i + 1))) c4)
        rw [Nat.zero_add, List.nil_append, ← thingsOf_append] at hown8
        have y8 : Ext W (w4.setCell ⟨X, 4, none⟩ (.slice A4 (i + (t.n1 - (i + 1))) c4)) := y7.setCell (show W.heap.size ≤ X by omega) _
        have hz8 : B0 ≤ (w4.setCell ⟨X, 4, none⟩ (.slice A4 (i + (t.n1 - (i + 1))) c4)).heap.size := by
          have h1 : W2.heap.size ≤ w4.heap.size := x7.size
          simp only [World.setCell, Array.size_modify]; omega
        go_wp2_with fail
        go_meet
        exact ⟨lessSes t i A4 (i + (t.n1 - (i + 1))) c4, hx7.set_ 4 _, lessSes_few hfew (by omega), lessSes_may (by omega) (by omega) hk (by omega), .inr ⟨i, A4, _, c4, rfl, own_to hown8 hB2 rfl rfl⟩, hy7.far (show Y ≠ X by omega) _, hz7.far (show Z ≠ X by omega) _, hv7.far (show V ≠ X by omega) _, y8, hz8⟩
    case rest =>
      clear hx5 hy5 hz5 hv5 y5 hB2
      obtain ⟨tx, hx5, fewx, mayx, ownx, hy5, hz5, hv5, y5, hB2⟩ := hcut
      have hBs1 : w.heap.size < wc.heap.size := by have := hx5.lt; omega
      have d4 := (HB.out.ext y5).cell 5
      simp only [List.getElem?_cons_zero, List.getElem?_cons_succ] at d4
      go_upto_if 60 with fail
      clear d4
      go_cut [15] (fun _ wx => ∃ tx : KV, ∃ ty : KV, Blk wx X 26 [.int .i64 tx.ver, .int .i64 tx.next, .int .i64 tx.keep, .int .i64 tx.quota, .slice tx.A1 tx.n1 tx.c1, .slice tx.A2 tx.n2 tx.c2, .slice tx.A3 tx.n3 tx.c3] ∧ tx.Few ∧ kmay tx (1 + (v0 : Int)) = 0 ∧ OwnL (size := 4) 45 (lessSes t) t.ses t tx B0 wx ∧ Blk wx Y 26 [.int .i64 ty.ver, .int .i64 ty.next, .int .i64 ty.keep, .int .i64 ty.quota, .slice ty.A1 ty.n1 ty.c1, .slice ty.A2 ty.n2 ty.c2, .slice ty.A3 ty.n3 ty.c3] ∧ ty.Few ∧ kmay ty (1 + (v0 : Int)) = 0 ∧ OwnL (size := 2) 47 (lessOps t) t.ops t ty B0 wx ∧ Blk wx Z 26 [.int .i64 t.ver, .int .i64 t.next, .int .i64 t.keep, .int .i64 t.quota, .slice t.A1 t.n1 t.c1, .slice t.A2 t.n2 t.c2, .slice t.A3 t.n3 t.c3] ∧ Blk wx V 26 [.int .i64 t.ver, .int .i64 t.next, .int .i64 t.keep, .int .i64 t.quota, .slice t.A1 t.n1 t.c1, .slice t.A2 t.n2 t.c2, .slice t.A3 t.n3 t.c3] ∧ Ext W wx ∧ B0 ≤ wx.heap.size)
      case first =>
        by_cases hn : t.n2 = 0
        · have hn' : decide ((0 : Int) < t.n2) = false := dec_f (by omega)
          go_wp2_with fail
          go_meet
          exact ⟨tx, t, hx5, fewx, mayx, ownx, hy5, hfew, hk, .inl rfl, hz5, hv5, y5, hB2⟩
        · have hn' : decide ((0 : Int) < t.n2) = true := dec_t (by omega)
          obtain ⟨i, hi, hin⟩ : ∃ i : Nat, ((at_ : Int) % (t.n2 : Int)) = i ∧ i < t.n2 := ⟨at_ % t.n2, (Int.natCast_emod at_ t.n2).symm, Nat.mod_lt _ (by omega)⟩
          have ht1 := hok.t2.ext y5
          have hle1 := hok.le2
          have hcp1 := hok.cap2
          have hlen1 := ht1.len
          have d4 := (HB.out.ext y5).cell 5
          have e4 := hy5.cell 5
          have z4 := hy5.frozen 5
          simp only [List.getElem?_cons_zero, List.getElem?_cons_succ] at d4 e4
          go_upto_region 16 with fail
          rw [hi]
          clear hi
          obtain ⟨A', c', hc', hsl2, hts⟩ := cut_things (α := OV) (P := Try.prog) opensT t.A2 (show i + 1 ≤ t.n2 by omega) hle1 ((i : Int) + 1) (by omega)
          have ht2 := hts _ _ ht1
          have ht0 := ht1.upto (hi := i) (by omega)
          have hwi : IntKind.i64.wrap ((i : Int) + 1) = (i : Int) + 1 := IntWalk.i64_in _ (by omega)
          have hi0 : (0 : Int) ≤ i := by omega
          have hic : (i : Int) ≤ t.c2 := by omega
          have xD : Ext wc (wc.alloc (.cells #[] 47)).drew := ((Ext.refl wc).alloc _).drew
          have hE : (wc.alloc (.cells #[] 47)).drew.ownsRow wc.heap.size 47 2 (.slice (some ⟨wc.heap.size, 0, none⟩) 0 0) 0 [] := World.ownsRow.drew (own_empty wc 47 2)
          have htD := ht0.ext xD
          have hzD : wc.heap.size ≤ (wc.alloc (.cells #[] 47)).drew.heap.size := xD.size
          have hltX := hx5.lt
          have hltY := hy5.lt
          have hltZ := hz5.lt
          have hltV := hv5.lt
          have hWW : W.heap.size ≤ wc.heap.size := y5.size
          clear hts
          go_region_held3 (fun w' => w'.cell? ⟨w.heap.size, 5, none⟩ = some (.slice t.A2 t.n2 t.c2) ∧ w'.frozen? ⟨Y, 5, none⟩ = false)
            (first
              | (exact ⟨((HB.out.ext y5).ext xD).cell 5, (hy5.ext xD).frozen 5⟩)
              | (exact ⟨(HB.out.ext y6).cell 5, hy6.frozen 5⟩)
              | (exact ⟨(HB.out.ext y7).cell 5, hy7.frozen 5⟩)
              | (exact ⟨((HB.out.ext y7).far (show w.heap.size ≠ Y by omega) _).cell 5, (hy7.set_ 5 _).frozen 5⟩)
              | (exact ⟨(HB.out.ext y5).cell 5, hy5.frozen 5⟩)
              | go_keep)
            (first
              | (refine step_app opensT (by omega) _ rfl rfl rfl hE rfl htD.rd (thingsOf_cells _) (by unfold maxLen; omega) (by omega) hzD ?_; intro v3 w3 hown3 hg3 hat3; have hx6 := (hx5.ext xD).grown hg3 (fun e => by have := (hE.lt _ e.symm).1; omega); have hy6 := (hy5.ext xD).grown hg3 (fun e => by have := (hE.lt _ e.symm).1; omega); have hz6 := (hz5.ext xD).grown hg3 (fun e => by have := (hE.lt _ e.symm).1; omega); have hv6 := (hv5.ext xD).grown hg3 (fun e => by have := (hE.lt _ e.symm).1; omega); have x6 := Below.app xD hg3 hzD hE (Nat.le_refl _); have y6 := y5.trans x6; have ht6 := ht2.ext x6; have hsz6 : wc.heap.size ≤ w3.heap.size := x6.size; clear hg3 hat3)
              | (refine step_app opensT (by omega) _ rfl rfl rfl hown3 rfl ht6.rd (thingsOf_cells _) (by unfold maxLen; omega) (by omega) (by omega) ?_; intro v4 w4 hown4 hg4 hat4; have hx7 := hx6.grown hg4 (fun e => by have := (hown3.lt _ e.symm).1; omega); have hy7 := hy6.grown hg4 (fun e => by have := (hown3.lt _ e.symm).1; omega); have hz7 := hz6.grown hg4 (fun e => by have := (hown3.lt _ e.symm).1; omega); have hv7 := hv6.grown hg4 (fun e => by have := (hown3.lt _ e.symm).1; omega); have x7 := Below.app x6 hg4 hsz6 hown3 (Nat.le_refl _); have y7 := y5.trans x7; obtain ⟨A4, c4, rfl, _⟩ := own_form hown4; have e7 := hy7.cell 5; simp only [List.getElem?_cons_zero, List.getElem?_cons_succ] at e7; clear hg4 hat4))
          have hown8 := own_set hown4 (p := ⟨Y, 5, none⟩) hltY (.slice A4 (i + (t.n2 - (i + 1))) c4)
          rw [Nat.zero_add, List.nil_append, ← thingsOf_append] at hown8
          have y8 : Ext W (w4.setCell ⟨Y, 5, none⟩ (.slice A4 (i + (t.n2 - (i + 1))) c4)) := y7.setCell (show W.heap.size ≤ Y by omega) _
          have hz8 : B0 ≤ (w4.setCell ⟨Y, 5, none⟩ (.slice A4 (i + (t.n2 - (i + 1))) c4)).heap.size := by
            have h1 : wc.heap.size ≤ w4.heap.size := x7.size
            simp only [World.setCell, Array.size_modify]; omega
          go_wp2_with fail
          go_meet
          exact ⟨tx, lessOps t i A4 (i + (t.n2 - (i + 1))) c4, hx7.far (show X ≠ Y by omega) _, fewx, mayx, (ownx.ext x7).set Y 5 (by omega) _, hy7.set_ 5 _, lessOps_few hfew (by omega), lessOps_may (by omega) (by omega) hk (by omega), .inr ⟨i, A4, _, c4, rfl, own_to hown8 hB2 rfl rfl⟩, hz7.far (show Z ≠ Y by omega) _, hv7.far (show V ≠ Y by omega) _, y8, hz8⟩
      case rest =>
        clear hx5 hy5 hz5 hv5 y5 hB2 fewx mayx ownx
        obtain ⟨tx, ty, hx5, fewx, mayx, ownx, hy5, fewy, mayy, owny, hz5, hv5, y5, hB2⟩ := hcut
        have hBs2 : w.heap.size < wc.heap.size := by have := hx5.lt; omega
        have d4 := (HB.out.ext y5).cell 6
        simp only [List.getElem?_cons_zero, List.getElem?_cons_succ] at d4
        go_upto_if 82 with fail
        clear d4
        go_cut [16] (fun _ wx => ∃ tx : KV, ∃ ty : KV, ∃ tz : KV, Blk wx X 26 [.int .i64 tx.ver, .int .i64 tx.next, .int .i64 tx.keep, .int .i64 tx.quota, .slice tx.A1 tx.n1 tx.c1, .slice tx.A2 tx.n2 tx.c2, .slice tx.A3 tx.n3 tx.c3] ∧ tx.Few ∧ kmay tx (1 + (v0 : Int)) = 0 ∧ OwnL (size := 4) 45 (lessSes t) t.ses t tx B0 wx ∧ Blk wx Y 26 [.int .i64 ty.ver, .int .i64 ty.next, .int .i64 ty.keep, .int .i64 ty.quota, .slice ty.A1 ty.n1 ty.c1, .slice ty.A2 ty.n2 ty.c2, .slice ty.A3 ty.n3 ty.c3] ∧ ty.Few ∧ kmay ty (1 + (v0 : Int)) = 0 ∧ OwnL (size := 2) 47 (lessOps t) t.ops t ty B0 wx ∧ Blk wx Z 26 [.int .i64 tz.ver, .int .i64 tz.next, .int .i64 tz.keep, .int .i64 tz.quota, .slice tz.A1 tz.n1 tz.c1, .slice tz.A2 tz.n2 tz.c2, .slice tz.A3 tz.n3 tz.c3] ∧ tz.Few ∧ kmay tz (1 + (v0 : Int)) = 0 ∧ OwnL (size := 5) 33 (lessSns t) t.sns t tz B0 wx ∧ Ext W wx ∧ B0 ≤ wx.heap.size)
        case first =>
          by_cases hn : t.n3 = 0
          · have hn' : decide ((0 : Int) < t.n3) = false := dec_f (by omega)
            go_wp2_with fail
            go_meet
            exact ⟨tx, ty, t, hx5, fewx, mayx, ownx, hy5, fewy, mayy, owny, hz5, hfew, hk, .inl rfl, y5, hB2⟩
          · have hn' : decide ((0 : Int) < t.n3) = true := dec_t (by omega)
            obtain ⟨i, hi, hin⟩ : ∃ i : Nat, ((at_ : Int) % (t.n3 : Int)) = i ∧ i < t.n3 := ⟨at_ % t.n3, (Int.natCast_emod at_ t.n3).symm, Nat.mod_lt _ (by omega)⟩
            have ht1 := hok.t3.ext y5
            have hle1 := hok.le3
            have hcp1 := hok.cap3
            have hlen1 := ht1.len
            have d4 := (HB.out.ext y5).cell 6
            have e4 := hz5.cell 6
            have z4 := hz5.frozen 6
            simp only [List.getElem?_cons_zero, List.getElem?_cons_succ] at d4 e4
            go_upto_region 19 with fail
            rw [hi]
            clear hi
            obtain ⟨A', c', hc', hsl2, hts⟩ := cut_things (α := NV) (P := Try.prog) snapsT t.A3 (show i + 1 ≤ t.n3 by omega) hle1 ((i : Int) + 1) (by omega)
            have ht2 := hts _ _ ht1
            have ht0 := ht1.upto (hi := i) (by omega)
            have hwi : IntKind.i64.wrap ((i : Int) + 1) = (i : Int) + 1 := IntWalk.i64_in _ (by omega)
            have hi0 : (0 : Int) ≤ i := by omega
            have hic : (i : Int) ≤ t.c3 := by omega
            have xD : Ext wc (wc.alloc (.cells #[] 33)).drew := ((Ext.refl wc).alloc _).drew
            have hE : (wc.alloc (.cells #[] 33)).drew.ownsRow wc.heap.size 33 5 (.slice (some ⟨wc.heap.size, 0, none⟩) 0 0) 0 [] := World.ownsRow.drew (own_empty wc 33 5)
            have htD := ht0.ext xD
            have hzD : wc.heap.size ≤ (wc.alloc (.cells #[] 33)).drew.heap.size := xD.size
            have hltX := hx5.lt
            have hltY := hy5.lt
            have hltZ := hz5.lt
            have hltV := hv5.lt
            have hWW : W.heap.size ≤ wc.heap.size := y5.size
            clear hts
            go_region_held3 (fun w' => w'.cell? ⟨w.heap.size, 6, none⟩ = some (.slice t.A3 t.n3 t.c3) ∧ w'.frozen? ⟨Z, 6, none⟩ = false)
              (first
                | (exact ⟨((HB.out.ext y5).ext xD).cell 6, (hz5.ext xD).frozen 6⟩)
                | (exact ⟨(HB.out.ext y6).cell 6, hz6.frozen 6⟩)
                | (exact ⟨(HB.out.ext y7).cell 6, hz7.frozen 6⟩)
                | (exact ⟨((HB.out.ext y7).far (show w.heap.size ≠ Z by omega) _).cell 6, (hz7.set_ 6 _).frozen 6⟩)
                | (exact ⟨(HB.out.ext y5).cell 6, hz5.frozen 6⟩)
                | go_keep)
              (first
                | (refine step_app snapsT (by omega) _ rfl rfl rfl hE rfl htD.rd (thingsOf_cells _) (by unfold maxLen; omega) (by omega) hzD ?_; intro v3 w3 hown3 hg3 hat3; have hx6 := (hx5.ext xD).grown hg3 (fun e => by have := (hE.lt _ e.symm).1; omega); have hy6 := (hy5.ext xD).grown hg3 (fun e => by have := (hE.lt _ e.symm).1; omega); have hz6 := (hz5.ext xD).grown hg3 (fun e => by have := (hE.lt _ e.symm).1; omega); have hv6 := (hv5.ext xD).grown hg3 (fun e => by have := (hE.lt _ e.symm).1; omega); have x6 := Below.app xD hg3 hzD hE (Nat.le_refl _); have y6 := y5.trans x6; have ht6 := ht2.ext x6; have hsz6 : wc.heap.size ≤ w3.heap.size := x6.size; clear hg3 hat3)
                | (refine step_app snapsT (by omega) _ rfl rfl rfl hown3 rfl ht6.rd (thingsOf_cells _) (by unfold maxLen; omega) (by omega) (by omega) ?_; intro v4 w4 hown4 hg4 hat4; have hx7 := hx6.grown hg4 (fun e => by have := (hown3.lt _ e.symm).1; omega); have hy7 := hy6.grown hg4 (fun e => by have := (hown3.lt _ e.symm).1; omega); have hz7 := hz6.grown hg4 (fun e => by have := (hown3.lt _ e.symm).1; omega); have hv7 := hv6.grown hg4 (fun e => by have := (hown3.lt _ e.symm).1; omega); have x7 := Below.app x6 hg4 hsz6 hown3 (Nat.le_refl _); have y7 := y5.trans x7; obtain ⟨A4, c4, rfl, _⟩ := own_form hown4; have e7 := hz7.cell 6; simp only [List.getElem?_cons_zero, List.getElem?_cons_succ] at e7; clear hg4 hat4))
            have hown8 := own_set hown4 (p := ⟨Z, 6, none⟩) hltZ (.slice A4 (i + (t.n3 - (i + 1))) c4)
            rw [Nat.zero_add, List.nil_append, ← thingsOf_append] at hown8
            have y8 : Ext W (w4.setCell ⟨Z, 6, none⟩ (.slice A4 (i + (t.n3 - (i + 1))) c4)) := y7.setCell (show W.heap.size ≤ Z by omega) _
            have hz8 : B0 ≤ (w4.setCell ⟨Z, 6, none⟩ (.slice A4 (i + (t.n3 - (i + 1))) c4)).heap.size := by
              have h1 : wc.heap.size ≤ w4.heap.size := x7.size
              simp only [World.setCell, Array.size_modify]; omega
            have hx8 := hx7.far (show X ≠ (⟨Z, 6, none⟩ : Addr).block by dsimp only; omega) (.slice A4 (i + (t.n3 - (i + 1))) c4)
            have hy8 := hy7.far (show Y ≠ (⟨Z, 6, none⟩ : Addr).block by dsimp only; omega) (.slice A4 (i + (t.n3 - (i + 1))) c4)
            have hzz := hz7.set_ 6 (.slice A4 (i + (t.n3 - (i + 1))) c4)
            have hv8 := hv7.far (show V ≠ (⟨Z, 6, none⟩ : Addr).block by dsimp only; omega) (.slice A4 (i + (t.n3 - (i + 1))) c4)
            have ox8 := (ownx.ext x7).set Z 6 (by omega) (.slice A4 (i + (t.n3 - (i + 1))) c4)
            have oy8 := (owny.ext x7).set Z 6 (by omega) (.slice A4 (i + (t.n3 - (i + 1))) c4)
            have oz8 : OwnL (size := 5) 33 (lessSns t) t.sns t (lessSns t i A4 (i + (t.n3 - (i + 1))) c4) B0 (w4.setCell ⟨Z, 6, none⟩ (.slice A4 (i + (t.n3 - (i + 1))) c4)) := .inr ⟨i, A4, _, c4, rfl, own_to hown8 hB2 rfl rfl⟩
            have fewz := lessSns_few hfew (i := i) (A := A4) (c := c4) (show i + (t.n3 - (i + 1)) ≤ 1000000 by omega)
            have mayz := lessSns_may (A := A4) (n := i + (t.n3 - (i + 1))) (c := c4) (by omega) (by omega) hk (show i < t.sns.length by omega)
            generalize hW8 : w4.setCell ⟨Z, 6, none⟩ (.slice A4 (i + (t.n3 - (i + 1))) c4) = W8 at *
            have hB8 := HB.out.ext y8
            have d6 := HB.out.cell 6
            have hlB := hB8.lt
            simp only [List.getElem?_cons_zero, List.getElem?_cons_succ] at d6
            go_upto_region 20 with fail
            have ht8 := hok.t3.ext y8
            obtain ⟨bb, off, hA3, hlt3, hcc⟩ := hok.t3.at_ hin
            have hrd := ht8.rd
            have hlen3 := ht8.len
            have Hf : Hid (t.sns[i]'(by omega) ∈ t.sns) := Lib.hid (List.getElem_mem _)
            rw [hA3] at d6 hrd
            generalize t.sns[i]'(by omega) = f at *
            have HC : Hid (∀ w' : World, Ext W w' → w'.cell? ⟨w.heap.size, 6, none⟩ = some (.slice (some ⟨bb, off, none⟩) t.n3 t.c3) ∧ w'.cell? ⟨bb, off + i * 5, none⟩ = some (.int .i64 f.id) ∧ w'.cell? ⟨bb, off + i * 5 + 1, none⟩ = some (.int .i64 f.set) ∧ w'.cell? ⟨bb, off + i * 5 + 2, none⟩ = some (.slice f.A f.len f.cap) ∧ w'.cell? ⟨bb, off + i * 5 + 3, none⟩ = some (.bool f.held) ∧ w'.cell? ⟨bb, off + i * 5 + 4, none⟩ = some (.string f.tag)) := Lib.hid (fun w' h => ⟨h.cell d6, h.cell (hcc 0 (by omega)), h.cell (hcc 1 (by omega)), h.cell (hcc 2 (by omega)), h.cell (hcc 3 (by omega)), h.cell (hcc 4 (by omega))⟩)
            have xD8 : Ext W8 (W8.alloc (.cells #[] 33)).drew := ((Ext.refl W8).alloc _).drew
            have hE8 : (W8.alloc (.cells #[] 33)).drew.ownsRow W8.heap.size 33 5 (.slice (some ⟨W8.heap.size, 0, none⟩) 0 0) 0 [] := World.ownsRow.drew (own_empty W8 33 5)
            have hzD8 : W8.heap.size ≤ (W8.alloc (.cells #[] 33)).drew.heap.size := xD8.size
            have hltV := hv8.lt
            have xDb : Ext W8 ((W8.alloc (.cells #[] 33)).alloc (.cells #[.int .i64 f.id, .int .i64 f.set, .slice f.A f.len f.cap, .bool f.held, .string f.tag] 33)).drew := (((Ext.refl W8).alloc _).alloc _).drew
            have hEb : World.ownsRow ((W8.alloc (.cells #[] 33)).alloc (.cells #[.int .i64 f.id, .int .i64 f.set, .slice f.A f.len f.cap, .bool f.held, .string f.tag] 33)).drew W8.heap.size 33 5 (.slice (some ⟨W8.heap.size, 0, none⟩) 0 0) 0 [] := World.ownsRow.drew ((own_empty W8 33 5).alloc _)
            have hzDb : W8.heap.size ≤ (((W8.alloc (.cells #[] 33)).alloc (.cells #[.int .i64 f.id, .int .i64 f.set, .slice f.A f.len f.cap, .bool f.held, .string f.tag] 33)).drew).heap.size := xDb.size
            have hNb : Blk ((W8.alloc (.cells #[] 33)).alloc (.cells #[.int .i64 f.id, .int .i64 f.set, .slice f.A f.len f.cap, .bool f.held, .string f.tag] 33)).drew (W8.heap.size + 1) 33 [.int .i64 f.id, .int .i64 f.set, .slice f.A f.len f.cap, .bool f.held, .string f.tag] := by
              have h0 : Blk ((W8.alloc (.cells #[] 33)).alloc (.cells #[.int .i64 f.id, .int .i64 f.set, .slice f.A f.len f.cap, .bool f.held, .string f.tag] 33)) (W8.heap.size + 1) 33 [.int .i64 f.id, .int .i64 f.set, .slice f.A f.len f.cap, .bool f.held, .string f.tag] := by
                have := Blk.new (W8.alloc (.cells #[] 33)) 33 [.int .i64 f.id, .int .i64 f.set, .slice f.A f.len f.cap, .bool f.held, .string f.tag]
                simpa using this
              exact h0.ext (Ext.refl _).drew
            have xDc : Ext W8 (W8.alloc (.cells #[.int .i64 f.id, .int .i64 f.set, .slice f.A f.len f.cap, .bool f.held, .string f.tag] 33)).drew := ((Ext.refl W8).alloc _).drew
            have xDd : Ext W8 ((W8.alloc (.cells #[.int .i64 f.id, .int .i64 f.set, .slice f.A f.len f.cap, .bool f.held, .string f.tag] 33)).alloc (.cells #[] 33)).drew := (((Ext.refl W8).alloc _).alloc _).drew
            have hEd : World.ownsRow ((W8.alloc (.cells #[.int .i64 f.id, .int .i64 f.set, .slice f.A f.len f.cap, .bool f.held, .string f.tag] 33)).alloc (.cells #[] 33)).drew W8.heap.size 33 5 (.slice (some ⟨W8.heap.size + 1, 0, none⟩) 0 0) 0 [] := by
              have h0 := own_empty (W8.alloc (.cells #[.int .i64 f.id, .int .i64 f.set, .slice f.A f.len f.cap, .bool f.held, .string f.tag] 33)) 33 5
              simp only [World.size_alloc] at h0
              exact World.ownsRow.drew (own_base h0 (by omega))
            have hzDd : W8.heap.size ≤ (((W8.alloc (.cells #[.int .i64 f.id, .int .i64 f.set, .slice f.A f.len f.cap, .bool f.held, .string f.tag] 33)).alloc (.cells #[] 33)).drew).heap.size := xDd.size
            have hNd : Blk ((W8.alloc (.cells #[.int .i64 f.id, .int .i64 f.set, .slice f.A f.len f.cap, .bool f.held, .string f.tag] 33)).alloc (.cells #[] 33)).drew W8.heap.size 33 [.int .i64 f.id, .int .i64 f.set, .slice f.A f.len f.cap, .bool f.held, .string f.tag] := ((Blk.new W8 33 [.int .i64 f.id, .int .i64 f.set, .slice f.A f.len f.cap, .bool f.held, .string f.tag]).alloc _).ext (Ext.refl _).drew
            have xR8 : Ext W8 W8.drew := (Ext.refl W8).drew
            have hi8 : (i : Int) < t.n3 := by omega
            have HA3 := Lib.hid hA3
            clear hcc hA3 d6 xD hE htD hzD hlen1 hlen3
            obtain ⟨q0, q1, q2, q3, q4, q5⟩ := HC.out _ y8
            go_region_held3 (fun w' => (w'.cell? ⟨w.heap.size, 6, none⟩ = some (.slice (some ⟨bb, off, none⟩) t.n3 t.c3) ∧ w'.cell? ⟨bb, off + i * 5, none⟩ = some (.int .i64 f.id) ∧ w'.cell? ⟨bb, off + i * 5 + 1, none⟩ = some (.int .i64 f.set) ∧ w'.cell? ⟨bb, off + i * 5 + 2, none⟩ = some (.slice f.A f.len f.cap) ∧ w'.cell? ⟨bb, off + i * 5 + 3, none⟩ = some (.bool f.held) ∧ w'.cell? ⟨bb, off + i * 5 + 4, none⟩ = some (.string f.tag)) ∧ w'.frozen? ⟨V, 6, none⟩ = false)
              (first
                | (exact ⟨HC.out _ (y8.trans xD8), (hv8.ext xD8).frozen 6⟩)
                | (exact ⟨HC.out _ (y8.trans x9), hv9.frozen 6⟩)
                | (exact ⟨HC.out _ (y8.trans xva), hva.frozen 6⟩)
                | (exact ⟨HC.out _ (y8.trans x10), hv10.frozen 6⟩)
                | (exact ⟨HC.out _ (y11 _), (hv10.set_ 6 _).frozen 6⟩)
                | (exact ⟨HC.out _ (y8.trans xR8), (hv8.ext xR8).frozen 6⟩)
                | (exact ⟨HC.out _ (y8.trans xDb), (hv8.ext xDb).frozen 6⟩)
                | (exact ⟨HC.out _ (y8.trans xDc), (hv8.ext xDc).frozen 6⟩)
                | (exact ⟨HC.out _ (y8.trans xDd), (hv8.ext xDd).frozen 6⟩)
                | go_keep)
              (first
                | (refine step_app snapsT (by omega) _ rfl rfl rfl hE8 rfl (hrd.ext xD8) (thingsOf_cells _) (by unfold maxLen; omega) (by omega) hzD8 ?_; intro v5 w5 hown5 hg5 hat5; have hv9 := (hv8.ext xD8).grown hg5 (fun e => by have := (hE8.lt _ e.symm).1; omega); have x9 : Ext W8 w5 := Below.app xD8 hg5 hzD8 hE8 (Nat.le_refl _); have sz9 : W8.heap.size ≤ w5.heap.size := x9.size; have hva := hv9.alloc (.cells #[.int .i64 f.id, .int .i64 f.set, .slice f.A f.len f.cap, .bool f.held, .string f.tag] 33); have xva := x9.alloc (.cells #[.int .i64 f.id, .int .i64 f.set, .slice f.A f.len f.cap, .bool f.held, .string f.tag] 33); clear hg5 hat5)
                | (refine step_app snapsT (by omega) _ rfl rfl rfl hEb rfl (hrd.ext xDb) (thingsOf_cells _) (by unfold maxLen; omega) (by omega) hzDb ?_; intro v5 w5 hown5 hg5 hat5; have hv9 := (hv8.ext xDb).grown hg5 (fun e => by have := (hEb.lt _ e.symm).1; omega); have x9 : Ext W8 w5 := Below.app xDb hg5 hzDb hEb (Nat.le_refl _); have sz9 : W8.heap.size ≤ w5.heap.size := x9.size; have rd9 : Rd w5 (some ⟨W8.heap.size + 1, 0, none⟩) 1 5 [.int .i64 f.id, .int .i64 f.set, .slice f.A f.len f.cap, .bool f.held, .string f.tag] := (hNb.grown hg5 (fun e => by change some (W8.heap.size + 1) = some W8.heap.size at e; injection e with e; omega)).rd rfl; clear hg5 hat5)
                | (refine step_app snapsT (by omega) _ rfl rfl rfl hEd rfl (hrd.ext xDd) (thingsOf_cells _) (by unfold maxLen; omega) (by omega) hzDd ?_; intro v5 w5 hown5 hg5 hat5; have hv9 := (hv8.ext xDd).grown hg5 (fun e => by have := (hEd.lt _ e.symm).1; omega); have x9 : Ext W8 w5 := Below.app xDd hg5 hzDd hEd (Nat.le_refl _); have sz9 : W8.heap.size ≤ w5.heap.size := x9.size; have rd9 : Rd w5 (some ⟨W8.heap.size, 0, none⟩) 1 5 [.int .i64 f.id, .int .i64 f.set, .slice f.A f.len f.cap, .bool f.held, .string f.tag] := (hNd.grown hg5 (fun e => by change some W8.heap.size = some (W8.heap.size + 1) at e; injection e with e; omega)).rd rfl; clear hg5 hat5)
                | (refine step_app snapsT (by omega) _ rfl rfl rfl (hown5.alloc _) rfl (rd_at5 _ (.int .i64 f.id) (.int .i64 f.set) (.slice f.A f.len f.cap) (.bool f.held) (.string f.tag) _ _ (by simp)) (ncells_one _ _ _ _ _ _ _) (by unfold maxLen; omega) (by omega) (by simp; omega) ?_; intro v6 w6 hown6 hg6 hat6; have hv10 := (hv9.alloc (.cells #[.int .i64 f.id, .int .i64 f.set, .slice f.A f.len f.cap, .bool f.held, .string f.tag] 33)).grown hg6 (fun e => by have := (hown5.lt _ e.symm).1; omega); have x10 : Ext W8 w6 := Below.app (x9.alloc (.cells #[.int .i64 f.id, .int .i64 f.set, .slice f.A f.len f.cap, .bool f.held, .string f.tag] 33)) hg6 (by simp; omega) (hown5.alloc _) (Nat.le_refl _); obtain ⟨A6, c6, rfl, _⟩ := own_form hown6; have e10 := hv10.cell 6; simp only [List.getElem?_cons_zero, List.getElem?_cons_succ] at e10; have y11 := fun u => (y8.trans x10).setCell (p := ⟨V, 6, none⟩) (show W.heap.size ≤ V by omega) u; clear hg6 hat6)
                | (refine step_app snapsT (by omega) _ rfl rfl rfl hown5 rfl rd9 (ncells_one _ _ _ _ _ _ _) (by unfold maxLen; omega) (by omega) (by omega) ?_; intro v6 w6 hown6 hg6 hat6; have hv10 := hv9.grown hg6 (fun e => by have := (hown5.lt _ e.symm).1; omega); have x10 : Ext W8 w6 := Below.app x9 hg6 (by omega) hown5 (Nat.le_refl _); obtain ⟨A6, c6, rfl, _⟩ := own_form hown6; have e10 := hv10.cell 6; simp only [List.getElem?_cons_zero, List.getElem?_cons_succ] at e10; have y11 := fun u => (y8.trans x10).setCell (p := ⟨V, 6, none⟩) (show W.heap.size ≤ V by omega) u; clear hg6 hat6))
            all_goals
              have hV11 := hv10.set_ 6 (.slice A6 (t.n3 + 1) c6)
              rw [Nat.zero_add] at hown6
              have hown11 := own_to (own_set hown6 (p := ⟨V, 6, none⟩) hltV (.slice A6 (t.n3 + 1) c6)) (n' := t.n3 + 1) (ys := thingsOf (t.sns ++ [f])) (Nat.le_refl _) (by omega) (by rw [thingsOf_append, thingsOf_one]; rfl)
              have hok11 := moreSns_ok (c := c6) hok (y11 (.slice A6 (t.n3 + 1) c6)) Hf.out hown11
              have HM := Lib.hid (HP.out (moreSns t f A6 (t.n3 + 1) c6) _ hok11 (moreSns_few hfew Hf.out (by omega)))
              rw [moreSns_may (by omega) (by omega) f Hf.out] at HM
              rw [show ((6 : Nat) : Int) = 6 from rfl] at HM
              unfold moreSns KV.val at HM
              have hx12 := (hx8.ext x10).far (show X ≠ (⟨V, 6, none⟩ : Addr).block by dsimp only; omega) (.slice A6 (t.n3 + 1) c6)
              have hy12 := (hy8.ext x10).far (show Y ≠ (⟨V, 6, none⟩ : Addr).block by dsimp only; omega) (.slice A6 (t.n3 + 1) c6)
              have hz12 := (hzz.ext x10).far (show Z ≠ (⟨V, 6, none⟩ : Addr).block by dsimp only; omega) (.slice A6 (t.n3 + 1) c6)
              have ox12 := (ox8.ext x10).set V 6 (by omega) (.slice A6 (t.n3 + 1) c6)
              have oy12 := (oy8.ext x10).set V 6 (by omega) (.slice A6 (t.n3 + 1) c6)
              have oz12 := (oz8.ext x10).set V 6 (by omega) (.slice A6 (t.n3 + 1) c6)
              have y12 := y11 (.slice A6 (t.n3 + 1) c6)
              have hz13 : B0 ≤ (w6.setCell ⟨V, 6, none⟩ (.slice A6 (t.n3 + 1) c6)).heap.size := by
                have h1 := x10.size
                simp only [World.setCell, Array.size_modify]; omega
              clear y11 e10 hown6 hown11 hok11 hv10
              generalize w6.setCell ⟨V, 6, none⟩ (.slice A6 (t.n3 + 1) c6) = W11 at *
              have p0 := hV11.cell 0
              have p1 := hV11.cell 1
              have p2 := hV11.cell 2
              have p3 := hV11.cell 3
              have p4 := hV11.cell 4
              have p5 := hV11.cell 5
              have p6 := hV11.cell 6
              simp only [List.set_cons_succ, List.set_cons_zero, List.getElem?_cons_zero, List.getElem?_cons_succ] at p0 p1 p2 p3 p4 p5 p6
              go_wp2_with fail
              refine (HM.out).mono ?_
              clear HM p0 p1 p2 p3 p4 p5 p6 q0 q1 q2 q3 q4 q5
              rintro e w12 ⟨rfl, x12⟩
              go_wp2_with fail
              go_meet
              exact ⟨tx, ty, lessSns t i A4 (i + (t.n3 - (i + 1))) c4, hx12.ext x12, fewx, mayx, ox12.ext x12, hy12.ext x12, fewy, mayy, oy12.ext x12, hz12.ext x12, fewz, mayz, oz12.ext x12, y12.trans x12, Nat.le_trans hz13 x12.size⟩
        case rest =>
          clear hx5 hy5 hz5 hv5 y5 hB2 fewx mayx ownx fewy mayy owny
          obtain ⟨tx, ty, tz, hx5, fewx, mayx, ownx, hy5, fewy, mayy, owny, hz5, fewz, mayz, ownz, y5, hB2⟩ := hcut
          have hBs3 : w.heap.size < wc.heap.size := by have := hx5.lt; omega
          have hokx := ownx.ses hok y5
          have PX := Lib.hid (fun (w' : World) (h : Ext wc w') => HP.out tx w' (hokx.ext h) fewx)
          rw [mayx, show ((0 : Nat) : Int) = 0 from rfl] at PX
          have hoky := owny.ops hok y5
          have PY := Lib.hid (fun (w' : World) (h : Ext wc w') => HP.out ty w' (hoky.ext h) fewy)
          rw [mayy, show ((0 : Nat) : Int) = 0 from rfl] at PY
          have hokz := ownz.sns hok y5
          have PZ := Lib.hid (fun (w' : World) (h : Ext wc w') => HP.out tz w' (hokz.ext h) fewz)
          rw [mayz, show ((0 : Nat) : Int) = 0 from rfl] at PZ
          unfold KV.val at PX PY PZ
          have HS : Hid (∀ w' : World, Ext wc w' → w'.cell? ⟨X, 0, none⟩ = some (.int .i64 tx.ver) ∧ w'.cell? ⟨X, 1, none⟩ = some (.int .i64 tx.next) ∧ w'.cell? ⟨X, 2, none⟩ = some (.int .i64 tx.keep) ∧ w'.cell? ⟨X, 3, none⟩ = some (.int .i64 tx.quota) ∧ w'.cell? ⟨X, 4, none⟩ = some (.slice tx.A1 tx.n1 tx.c1) ∧ w'.cell? ⟨X, 5, none⟩ = some (.slice tx.A2 tx.n2 tx.c2) ∧ w'.cell? ⟨X, 6, none⟩ = some (.slice tx.A3 tx.n3 tx.c3) ∧ w'.cell? ⟨Y, 0, none⟩ = some (.int .i64 ty.ver) ∧ w'.cell? ⟨Y, 1, none⟩ = some (.int .i64 ty.next) ∧ w'.cell? ⟨Y, 2, none⟩ = some (.int .i64 ty.keep) ∧ w'.cell? ⟨Y, 3, none⟩ = some (.int .i64 ty.quota) ∧ w'.cell? ⟨Y, 4, none⟩ = some (.slice ty.A1 ty.n1 ty.c1) ∧ w'.cell? ⟨Y, 5, none⟩ = some (.slice ty.A2 ty.n2 ty.c2) ∧ w'.cell? ⟨Y, 6, none⟩ = some (.slice ty.A3 ty.n3 ty.c3) ∧ w'.cell? ⟨Z, 0, none⟩ = some (.int .i64 tz.ver) ∧ w'.cell? ⟨Z, 1, none⟩ = some (.int .i64 tz.next) ∧ w'.cell? ⟨Z, 2, none⟩ = some (.int .i64 tz.keep) ∧ w'.cell? ⟨Z, 3, none⟩ = some (.int .i64 tz.quota) ∧ w'.cell? ⟨Z, 4, none⟩ = some (.slice tz.A1 tz.n1 tz.c1) ∧ w'.cell? ⟨Z, 5, none⟩ = some (.slice tz.A2 tz.n2 tz.c2) ∧ w'.cell? ⟨Z, 6, none⟩ = some (.slice tz.A3 tz.n3 tz.c3)) := Lib.hid (fun w' h => ⟨(hx5.ext h).cell 0, (hx5.ext h).cell 1, (hx5.ext h).cell 2, (hx5.ext h).cell 3, (hx5.ext h).cell 4, (hx5.ext h).cell 5, (hx5.ext h).cell 6, (hy5.ext h).cell 0, (hy5.ext h).cell 1, (hy5.ext h).cell 2, (hy5.ext h).cell 3, (hy5.ext h).cell 4, (hy5.ext h).cell 5, (hy5.ext h).cell 6, (hz5.ext h).cell 0, (hz5.ext h).cell 1, (hz5.ext h).cell 2, (hz5.ext h).cell 3, (hz5.ext h).cell 4, (hz5.ext h).cell 5, (hz5.ext h).cell 6⟩)
          have x0 : Ext wc wc.drew := (Ext.refl wc).drew
          have yW := xW.trans y5
          obtain ⟨s0, s1, s2, s3, s4, s5, s6, s7, s8, s9, s10, s11, s12, s13, s14, s15, s16, s17, s18, s19, s20⟩ := HS.out _ (Ext.refl wc)
          clear hokx hoky hokz hx5 hy5 hz5 ownx owny ownz mayx mayy mayz fewx fewy fewz
          go_upto_region 23 with fail
          go_wp2_with fail
          refine (PX.out _ (Ext.refl wc)).mono ?_
          rintro e b0 ⟨rfl, z0'⟩
          have z0 := (Ext.refl wc).trans z0'
          clear z0' s0 s1 s2 s3 s4 s5 s6 s7 s8 s9 s10 s11 s12 s13 s14 s15 s16 s17 s18 s19 s20
          obtain ⟨s0, s1, s2, s3, s4, s5, s6, s7, s8, s9, s10, s11, s12, s13, s14, s15, s16, s17, s18, s19, s20⟩ := HS.out _ z0
          go_wp2_with fail
          refine (PY.out _ z0).mono ?_
          rintro e b1 ⟨rfl, z1'⟩
          have z1 := z0.trans z1'
          clear z1' s0 s1 s2 s3 s4 s5 s6 s7 s8 s9 s10 s11 s12 s13 s14 s15 s16 s17 s18 s19 s20
          obtain ⟨s0, s1, s2, s3, s4, s5, s6, s7, s8, s9, s10, s11, s12, s13, s14, s15, s16, s17, s18, s19, s20⟩ := HS.out _ z1
          go_wp2_with fail
          refine (PZ.out _ z1).mono ?_
          rintro e b2 ⟨rfl, z2'⟩
          have z2 := z1.trans z2'
          clear z2' s0 s1 s2 s3 s4 s5 s6 s7 s8 s9 s10 s11 s12 s13 s14 s15 s16 s17 s18 s19 s20
          go_wp2
          go_ret
          exact ⟨rfl, yW.trans z2⟩
  · have hk' : (kmay t (1 + (v0 : Int)) == 0) = false := by simpa using hk
    clear hk
    go_wp2
    go_ret
    exact ⟨rfl, xW.trans y3⟩
theorem law_StatePartsI (s : KV) (a b : Int) (w : World) (hs : s.Ok w) (a0 : 0 ≤ a) (a1 : a < 256) (b0 : 0 ≤ b) (b1 : b < 256) :
    Calls Try.prog 5 #[s.val, .int .u8 a, .int .u8 b] w fun e w' => e = .returned (.bool true) ∧ Ext w w' := by
  obtain ⟨n, rfl⟩ := Int.eq_ofNat_of_zero_le a0
  obtain ⟨m, rfl⟩ := Int.eq_ofNat_of_zero_le b0
  exact law_StateParts s n m w (by omega) (by omega) hs
end Go.Proofs.Ytiildgoaiookhaa
