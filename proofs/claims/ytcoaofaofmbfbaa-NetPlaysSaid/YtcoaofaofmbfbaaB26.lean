/- Words and walks that the last text of this claim stands on: RqA. No condition. -/
import Derived.Test.YtcoaofaofmbfbaaB25
import Derived.Test.YtcoaofaofmbfbaaB17
import Derived.Test.YtcoaofaofmbfbaaB19
import Derived.Test.YtcoaofaofmbfbaaB18
/- The walk of the law LetterAll. (Printed by wip/tools/rqall.py.) -/
namespace Go.Proofs.Ytcoaofaofmbfbaa
open Go.RowKit

/-- what two say of the same bytes -/
theorem taken_same {b : List UInt8} {x y : LV} {ms Q : List FV} {c1 c2 : Nat} (h : IsTaken b x ms c1) (k : IsTaken b y Q c2) : c1 = c2 ∧ letEq x y = true ∧ fsEq ms Q = true := by
  rcases h with ⟨rfl, h⟩ | ⟨n1, h2, h3, h4, h5⟩
  · obtain ⟨k1, k2, k3, _⟩ := back_whole h k
    exact ⟨k1.symm, k2, k3⟩
  · rcases k with ⟨rfl, k⟩ | ⟨m1, k2, k3, k4, _⟩
    · exact absurd k (h5 _ _)
    · subst h2 h3 k2 k3
      exact ⟨h4.trans k4.symm, letEq_iff.2 rfl, rfl⟩
theorem taken_len {b : List UInt8} {x : LV} {ms : List FV} {c : Nat} (h : IsTaken b x ms c) : ms.length ≤ 16384 := by
  rcases h with ⟨_, h⟩ | ⟨_, _, h, _⟩
  · exact h.many
  · subst h; simp

set_option maxRecDepth 100000 in
set_option maxHeartbeats 6400000 in
theorem law_LetterAll (x y : LV) (A : Option Addr) (n c : Nat) (l : List FV) (D : Option Addr) (m q : Nat) (lb : List UInt8) (w : World) (hx : x.Ok w) (hy : y.Ok w) (hf : Fs w A n l) (hnc : n ≤ c) (hcm : c ≤ maxLen) (hbD : Bs w D m lb) (hmq : m ≤ q) (hqm : q ≤ maxLen) :
    Calls Try.prog 7 #[x.val, y.val, .agg #[.slice A n c, .slice D m q]] w fun e w' => e = .returned (.bool true) ∧ Ext w w' := by
  have hBx : Blk (((w.alloc (.cells #[.int .i64 x.kind, .int .i64 x.src, .int .i64 x.dst, .int .i64 x.term, .int .i64 x.a, .int .i64 x.b, .int .i64 x.c, .int .i64 x.bin, .bool x.ok, .slice x.A x.n x.cp] 26)).alloc (.cells #[.int .i64 y.kind, .int .i64 y.src, .int .i64 y.dst, .int .i64 y.term, .int .i64 y.a, .int .i64 y.b, .int .i64 y.c, .int .i64 y.bin, .bool y.ok, .slice y.A y.n y.cp] 26)).alloc (.cells #[.slice A n c, .slice D m q] 45)) (w.heap.size) 26 [.int .i64 x.kind, .int .i64 x.src, .int .i64 x.dst, .int .i64 x.term, .int .i64 x.a, .int .i64 x.b, .int .i64 x.c, .int .i64 x.bin, .bool x.ok, .slice x.A x.n x.cp] := by
    have h0 := Blk.new w 26 [.int .i64 x.kind, .int .i64 x.src, .int .i64 x.dst, .int .i64 x.term, .int .i64 x.a, .int .i64 x.b, .int .i64 x.c, .int .i64 x.bin, .bool x.ok, .slice x.A x.n x.cp]
    exact ((h0.alloc _).alloc _)
  have hBy : Blk (((w.alloc (.cells #[.int .i64 x.kind, .int .i64 x.src, .int .i64 x.dst, .int .i64 x.term, .int .i64 x.a, .int .i64 x.b, .int .i64 x.c, .int .i64 x.bin, .bool x.ok, .slice x.A x.n x.cp] 26)).alloc (.cells #[.int .i64 y.kind, .int .i64 y.src, .int .i64 y.dst, .int .i64 y.term, .int .i64 y.a, .int .i64 y.b, .int .i64 y.c, .int .i64 y.bin, .bool y.ok, .slice y.A y.n y.cp] 26)).alloc (.cells #[.slice A n c, .slice D m q] 45)) (w.heap.size + 1) 26 [.int .i64 y.kind, .int .i64 y.src, .int .i64 y.dst, .int .i64 y.term, .int .i64 y.a, .int .i64 y.b, .int .i64 y.c, .int .i64 y.bin, .bool y.ok, .slice y.A y.n y.cp] := by
    have h0 := Blk.new (w.alloc (.cells #[.int .i64 x.kind, .int .i64 x.src, .int .i64 x.dst, .int .i64 x.term, .int .i64 x.a, .int .i64 x.b, .int .i64 x.c, .int .i64 x.bin, .bool x.ok, .slice x.A x.n x.cp] 26)) 26 [.int .i64 y.kind, .int .i64 y.src, .int .i64 y.dst, .int .i64 y.term, .int .i64 y.a, .int .i64 y.b, .int .i64 y.c, .int .i64 y.bin, .bool y.ok, .slice y.A y.n y.cp]
    rw [show (w.alloc (.cells #[.int .i64 x.kind, .int .i64 x.src, .int .i64 x.dst, .int .i64 x.term, .int .i64 x.a, .int .i64 x.b, .int .i64 x.c, .int .i64 x.bin, .bool x.ok, .slice x.A x.n x.cp] 26)).heap.size = w.heap.size + 1 by simp] at h0
    exact (h0.alloc _)
  have hBo0 : Blk (((w.alloc (.cells #[.int .i64 x.kind, .int .i64 x.src, .int .i64 x.dst, .int .i64 x.term, .int .i64 x.a, .int .i64 x.b, .int .i64 x.c, .int .i64 x.bin, .bool x.ok, .slice x.A x.n x.cp] 26)).alloc (.cells #[.int .i64 y.kind, .int .i64 y.src, .int .i64 y.dst, .int .i64 y.term, .int .i64 y.a, .int .i64 y.b, .int .i64 y.c, .int .i64 y.bin, .bool y.ok, .slice y.A y.n y.cp] 26)).alloc (.cells #[.slice A n c, .slice D m q] 45)) (w.heap.size + 1 + 1) 45 [.slice A n c, .slice D m q] := by
    have h0 := Blk.new ((w.alloc (.cells #[.int .i64 x.kind, .int .i64 x.src, .int .i64 x.dst, .int .i64 x.term, .int .i64 x.a, .int .i64 x.b, .int .i64 x.c, .int .i64 x.bin, .bool x.ok, .slice x.A x.n x.cp] 26)).alloc (.cells #[.int .i64 y.kind, .int .i64 y.src, .int .i64 y.dst, .int .i64 y.term, .int .i64 y.a, .int .i64 y.b, .int .i64 y.c, .int .i64 y.bin, .bool y.ok, .slice y.A y.n y.cp] 26)) 45 [.slice A n c, .slice D m q]
    rw [show ((w.alloc (.cells #[.int .i64 x.kind, .int .i64 x.src, .int .i64 x.dst, .int .i64 x.term, .int .i64 x.a, .int .i64 x.b, .int .i64 x.c, .int .i64 x.bin, .bool x.ok, .slice x.A x.n x.cp] 26)).alloc (.cells #[.int .i64 y.kind, .int .i64 y.src, .int .i64 y.dst, .int .i64 y.term, .int .i64 y.a, .int .i64 y.b, .int .i64 y.c, .int .i64 y.bin, .bool y.ok, .slice y.A y.n y.cp] 26)).heap.size = w.heap.size + 1 + 1 by simp] at h0
    exact h0
  have xW : Ext w (((w.alloc (.cells #[.int .i64 x.kind, .int .i64 x.src, .int .i64 x.dst, .int .i64 x.term, .int .i64 x.a, .int .i64 x.b, .int .i64 x.c, .int .i64 x.bin, .bool x.ok, .slice x.A x.n x.cp] 26)).alloc (.cells #[.int .i64 y.kind, .int .i64 y.src, .int .i64 y.dst, .int .i64 y.term, .int .i64 y.a, .int .i64 y.b, .int .i64 y.c, .int .i64 y.bin, .bool y.ok, .slice y.A y.n y.cp] 26)).alloc (.cells #[.slice A n c, .slice D m q] 45)) := (((Ext.refl w).alloc _).alloc _).alloc _
  have hzW : w.heap.size + 1 + 1 + 1 ≤ (((w.alloc (.cells #[.int .i64 x.kind, .int .i64 x.src, .int .i64 x.dst, .int .i64 x.term, .int .i64 x.a, .int .i64 x.b, .int .i64 x.c, .int .i64 x.bin, .bool x.ok, .slice x.A x.n x.cp] 26)).alloc (.cells #[.int .i64 y.kind, .int .i64 y.src, .int .i64 y.dst, .int .i64 y.term, .int .i64 y.a, .int .i64 y.b, .int .i64 y.c, .int .i64 y.bin, .bool y.ok, .slice y.A y.n y.cp] 26)).alloc (.cells #[.slice A n c, .slice D m q] 45)).heap.size := by simp
  unfold LV.val
  go_enter Try.func7, Try.ntmps7
  go_wp2_with fail
  refine (law16_shown _).mono ?_
  rintro e w1 ⟨rfl, x1⟩
  replace hBx := hBx.ext x1
  replace hBy := hBy.ext x1
  replace hBo0 := hBo0.ext x1
  replace xW := xW.trans x1
  replace hzW := Nat.le_trans hzW x1.size
  clear x1
  have d0 := hBx.cell 0
  have d1 := hBx.cell 1
  have d2 := hBx.cell 2
  have d3 := hBx.cell 3
  have d4 := hBx.cell 4
  have d5 := hBx.cell 5
  have d6 := hBx.cell 6
  have d7 := hBx.cell 7
  have d8 := hBx.cell 8
  have d9 := hBx.cell 9
  simp only [List.getElem?_cons_zero, List.getElem?_cons_succ] at d0 d1 d2 d3 d4 d5 d6 d7 d8 d9
  have HL := Lib.hid (law16_letter_ x w1 (hx.ext xW))
  unfold LV.val at HL
  go_wp2_with fail
  refine HL.out.mono ?_
  clear HL
  rintro e v2 ⟨Ax, cx, rfl, ownx, yx⟩
  clear d0 d1 d2 d3 d4 d5 d6 d7 d8 d9
  replace hBx := hBx.ext yx
  replace hBy := hBy.ext yx
  replace hBo0 := hBo0.ext yx
  replace ownx := own_base ownx hzW
  replace xW := xW.trans yx
  replace hzW := Nat.le_trans hzW yx.size
  clear yx
  have d0 := hBx.cell 0
  have d1 := hBx.cell 1
  have d2 := hBx.cell 2
  have d3 := hBx.cell 3
  have d4 := hBx.cell 4
  have d5 := hBx.cell 5
  have d6 := hBx.cell 6
  have d7 := hBx.cell 7
  have d8 := hBx.cell 8
  have d9 := hBx.cell 9
  simp only [List.getElem?_cons_zero, List.getElem?_cons_succ] at d0 d1 d2 d3 d4 d5 d6 d7 d8 d9
  have f0 := hBx.frozen 0
  have f1 := hBx.frozen 1
  have f2 := hBx.frozen 2
  have f3 := hBx.frozen 3
  have f4 := hBx.frozen 4
  have f5 := hBx.frozen 5
  have f6 := hBx.frozen 6
  have f7 := hBx.frozen 7
  have f8 := hBx.frozen 8
  have f9 := hBx.frozen 9
  go_upto_region 3 with fail
  rw [put10_def]
  clear d0 f0 d1 f1 d2 f2 d3 f3 d4 f4 d5 f5 d6 f6 d7 f7 d8 f8 d9 f9
  replace hBy := hBy.fr10 (g' := w.heap.size) (by omega) (.int .i64 (cutX x Ax cx).kind) (.int .i64 (cutX x Ax cx).src) (.int .i64 (cutX x Ax cx).dst) (.int .i64 (cutX x Ax cx).term) (.int .i64 (cutX x Ax cx).a) (.int .i64 (cutX x Ax cx).b) (.int .i64 (cutX x Ax cx).c) (.int .i64 (cutX x Ax cx).bin) (.bool (cutX x Ax cx).ok) (.slice (cutX x Ax cx).A (cutX x Ax cx).n (cutX x Ax cx).cp)
  replace hBo0 := hBo0.fr10 (g' := w.heap.size) (by omega) (.int .i64 (cutX x Ax cx).kind) (.int .i64 (cutX x Ax cx).src) (.int .i64 (cutX x Ax cx).dst) (.int .i64 (cutX x Ax cx).term) (.int .i64 (cutX x Ax cx).a) (.int .i64 (cutX x Ax cx).b) (.int .i64 (cutX x Ax cx).c) (.int .i64 (cutX x Ax cx).bin) (.bool (cutX x Ax cx).ok) (.slice (cutX x Ax cx).A (cutX x Ax cx).n (cutX x Ax cx).cp)
  replace hBx := hBx.st10 (.int .i64 (cutX x Ax cx).kind) (.int .i64 (cutX x Ax cx).src) (.int .i64 (cutX x Ax cx).dst) (.int .i64 (cutX x Ax cx).term) (.int .i64 (cutX x Ax cx).a) (.int .i64 (cutX x Ax cx).b) (.int .i64 (cutX x Ax cx).c) (.int .i64 (cutX x Ax cx).bin) (.bool (cutX x Ax cx).ok) (.slice (cutX x Ax cx).A (cutX x Ax cx).n (cutX x Ax cx).cp)
  replace ownx := own_st10 ownx (g := w.heap.size) (by omega) (.int .i64 (cutX x Ax cx).kind) (.int .i64 (cutX x Ax cx).src) (.int .i64 (cutX x Ax cx).dst) (.int .i64 (cutX x Ax cx).term) (.int .i64 (cutX x Ax cx).a) (.int .i64 (cutX x Ax cx).b) (.int .i64 (cutX x Ax cx).c) (.int .i64 (cutX x Ax cx).bin) (.bool (cutX x Ax cx).ok) (.slice (cutX x Ax cx).A (cutX x Ax cx).n (cutX x Ax cx).cp)
  replace xW := xW.st10 (g := w.heap.size) (by omega) (.int .i64 (cutX x Ax cx).kind) (.int .i64 (cutX x Ax cx).src) (.int .i64 (cutX x Ax cx).dst) (.int .i64 (cutX x Ax cx).term) (.int .i64 (cutX x Ax cx).a) (.int .i64 (cutX x Ax cx).b) (.int .i64 (cutX x Ax cx).c) (.int .i64 (cutX x Ax cx).bin) (.bool (cutX x Ax cx).ok) (.slice (cutX x Ax cx).A (cutX x Ax cx).n (cutX x Ax cx).cp)
  replace hzW : w.heap.size + 1 + 1 + 1 ≤ (put10 v2 (w.heap.size) (.int .i64 (cutX x Ax cx).kind) (.int .i64 (cutX x Ax cx).src) (.int .i64 (cutX x Ax cx).dst) (.int .i64 (cutX x Ax cx).term) (.int .i64 (cutX x Ax cx).a) (.int .i64 (cutX x Ax cx).b) (.int .i64 (cutX x Ax cx).c) (.int .i64 (cutX x Ax cx).bin) (.bool (cutX x Ax cx).ok) (.slice (cutX x Ax cx).A (cutX x Ax cx).n (cutX x Ax cx).cp)).heap.size := by rw [put10_size]; exact hzW
  generalize put10 v2 (w.heap.size) (.int .i64 (cutX x Ax cx).kind) (.int .i64 (cutX x Ax cx).src) (.int .i64 (cutX x Ax cx).dst) (.int .i64 (cutX x Ax cx).term) (.int .i64 (cutX x Ax cx).a) (.int .i64 (cutX x Ax cx).b) (.int .i64 (cutX x Ax cx).c) (.int .i64 (cutX x Ax cx).bin) (.bool (cutX x Ax cx).ok) (.slice (cutX x Ax cx).A (cutX x Ax cx).n (cutX x Ax cx).cp) = W0 at *
  have d0 := hBy.cell 0
  have d1 := hBy.cell 1
  have d2 := hBy.cell 2
  have d3 := hBy.cell 3
  have d4 := hBy.cell 4
  have d5 := hBy.cell 5
  have d6 := hBy.cell 6
  have d7 := hBy.cell 7
  have d8 := hBy.cell 8
  have d9 := hBy.cell 9
  simp only [List.getElem?_cons_zero, List.getElem?_cons_succ] at d0 d1 d2 d3 d4 d5 d6 d7 d8 d9
  have HL := Lib.hid (law16_letter_ y W0 (hy.ext xW))
  unfold LV.val at HL
  go_wp2_with fail
  refine HL.out.mono ?_
  clear HL
  rintro e v3 ⟨Ay, cy, rfl, owny, yy⟩
  clear d0 d1 d2 d3 d4 d5 d6 d7 d8 d9
  replace hBx := hBx.ext yy
  replace hBy := hBy.ext yy
  replace hBo0 := hBo0.ext yy
  replace owny := own_base owny hzW
  replace ownx := own_ext ownx yy
  replace xW := xW.trans yy
  replace hzW := Nat.le_trans hzW yy.size
  clear yy
  have d0 := hBy.cell 0
  have d1 := hBy.cell 1
  have d2 := hBy.cell 2
  have d3 := hBy.cell 3
  have d4 := hBy.cell 4
  have d5 := hBy.cell 5
  have d6 := hBy.cell 6
  have d7 := hBy.cell 7
  have d8 := hBy.cell 8
  have d9 := hBy.cell 9
  simp only [List.getElem?_cons_zero, List.getElem?_cons_succ] at d0 d1 d2 d3 d4 d5 d6 d7 d8 d9
  have f0 := hBy.frozen 0
  have f1 := hBy.frozen 1
  have f2 := hBy.frozen 2
  have f3 := hBy.frozen 3
  have f4 := hBy.frozen 4
  have f5 := hBy.frozen 5
  have f6 := hBy.frozen 6
  have f7 := hBy.frozen 7
  have f8 := hBy.frozen 8
  have f9 := hBy.frozen 9
  go_upto_region 4 with fail
  rw [put10_def]
  clear d0 f0 d1 f1 d2 f2 d3 f3 d4 f4 d5 f5 d6 f6 d7 f7 d8 f8 d9 f9
  replace hBx := hBx.fr10 (g' := w.heap.size + 1) (by omega) (.int .i64 (cutX y Ay cy).kind) (.int .i64 (cutX y Ay cy).src) (.int .i64 (cutX y Ay cy).dst) (.int .i64 (cutX y Ay cy).term) (.int .i64 (cutX y Ay cy).a) (.int .i64 (cutX y Ay cy).b) (.int .i64 (cutX y Ay cy).c) (.int .i64 (cutX y Ay cy).bin) (.bool (cutX y Ay cy).ok) (.slice (cutX y Ay cy).A (cutX y Ay cy).n (cutX y Ay cy).cp)
  replace hBo0 := hBo0.fr10 (g' := w.heap.size + 1) (by omega) (.int .i64 (cutX y Ay cy).kind) (.int .i64 (cutX y Ay cy).src) (.int .i64 (cutX y Ay cy).dst) (.int .i64 (cutX y Ay cy).term) (.int .i64 (cutX y Ay cy).a) (.int .i64 (cutX y Ay cy).b) (.int .i64 (cutX y Ay cy).c) (.int .i64 (cutX y Ay cy).bin) (.bool (cutX y Ay cy).ok) (.slice (cutX y Ay cy).A (cutX y Ay cy).n (cutX y Ay cy).cp)
  replace hBy := hBy.st10 (.int .i64 (cutX y Ay cy).kind) (.int .i64 (cutX y Ay cy).src) (.int .i64 (cutX y Ay cy).dst) (.int .i64 (cutX y Ay cy).term) (.int .i64 (cutX y Ay cy).a) (.int .i64 (cutX y Ay cy).b) (.int .i64 (cutX y Ay cy).c) (.int .i64 (cutX y Ay cy).bin) (.bool (cutX y Ay cy).ok) (.slice (cutX y Ay cy).A (cutX y Ay cy).n (cutX y Ay cy).cp)
  replace ownx := own_st10 ownx (g := w.heap.size + 1) (by omega) (.int .i64 (cutX y Ay cy).kind) (.int .i64 (cutX y Ay cy).src) (.int .i64 (cutX y Ay cy).dst) (.int .i64 (cutX y Ay cy).term) (.int .i64 (cutX y Ay cy).a) (.int .i64 (cutX y Ay cy).b) (.int .i64 (cutX y Ay cy).c) (.int .i64 (cutX y Ay cy).bin) (.bool (cutX y Ay cy).ok) (.slice (cutX y Ay cy).A (cutX y Ay cy).n (cutX y Ay cy).cp)
  replace owny := own_st10 owny (g := w.heap.size + 1) (by omega) (.int .i64 (cutX y Ay cy).kind) (.int .i64 (cutX y Ay cy).src) (.int .i64 (cutX y Ay cy).dst) (.int .i64 (cutX y Ay cy).term) (.int .i64 (cutX y Ay cy).a) (.int .i64 (cutX y Ay cy).b) (.int .i64 (cutX y Ay cy).c) (.int .i64 (cutX y Ay cy).bin) (.bool (cutX y Ay cy).ok) (.slice (cutX y Ay cy).A (cutX y Ay cy).n (cutX y Ay cy).cp)
  replace xW := xW.st10 (g := w.heap.size + 1) (by omega) (.int .i64 (cutX y Ay cy).kind) (.int .i64 (cutX y Ay cy).src) (.int .i64 (cutX y Ay cy).dst) (.int .i64 (cutX y Ay cy).term) (.int .i64 (cutX y Ay cy).a) (.int .i64 (cutX y Ay cy).b) (.int .i64 (cutX y Ay cy).c) (.int .i64 (cutX y Ay cy).bin) (.bool (cutX y Ay cy).ok) (.slice (cutX y Ay cy).A (cutX y Ay cy).n (cutX y Ay cy).cp)
  replace hzW : w.heap.size + 1 + 1 + 1 ≤ (put10 v3 (w.heap.size + 1) (.int .i64 (cutX y Ay cy).kind) (.int .i64 (cutX y Ay cy).src) (.int .i64 (cutX y Ay cy).dst) (.int .i64 (cutX y Ay cy).term) (.int .i64 (cutX y Ay cy).a) (.int .i64 (cutX y Ay cy).b) (.int .i64 (cutX y Ay cy).c) (.int .i64 (cutX y Ay cy).bin) (.bool (cutX y Ay cy).ok) (.slice (cutX y Ay cy).A (cutX y Ay cy).n (cutX y Ay cy).cp)).heap.size := by rw [put10_size]; exact hzW
  generalize put10 v3 (w.heap.size + 1) (.int .i64 (cutX y Ay cy).kind) (.int .i64 (cutX y Ay cy).src) (.int .i64 (cutX y Ay cy).dst) (.int .i64 (cutX y Ay cy).term) (.int .i64 (cutX y Ay cy).a) (.int .i64 (cutX y Ay cy).b) (.int .i64 (cutX y Ay cy).c) (.int .i64 (cutX y Ay cy).bin) (.bool (cutX y Ay cy).ok) (.slice (cutX y Ay cy).A (cutX y Ay cy).n (cutX y Ay cy).cp) = W1 at *
  have okx := cutX_ok hx xW ownx
  have sixx : (cutX x Ax cx).n ≤ 6 := by dsimp only [cutX]; omega
  have oky := cutX_ok hy xW owny
  have sixy : (cutX y Ay cy).n ≤ 6 := by dsimp only [cutX]; omega
  clear ownx hx owny hy
  generalize cutX x Ax cx = tx at *
  generalize cutX y Ay cy = ty at *
  replace hf := hf.ext xW
  replace hbD := hbD.ext xW
  have hm9 : m ≤ 9223372036854775807 := by unfold maxLen at hqm; omega
  have hq9 : q ≤ 9223372036854775807 := by unfold maxLen at hqm; omega
  have z0 := hBo0.cell 0
  have z1 := hBo0.cell 1
  simp only [List.getElem?_cons_zero, List.getElem?_cons_succ] at z0 z1
  clear hqm
  go_upto_if 31 with fail
  go_cut [8] (fun v wx => ∃ (m : Nat) (b : List UInt8), v = .slice D m q ∧ m ≤ 3000 ∧ m ≤ q ∧ Bs wx D m b ∧ Ext W1 wx)
  case first =>
    clear hBx hBy hBo0 okx oky hf xW
    by_cases h : 3000 < m
    · have h3 := hbD.upto (hi := 3000) (by omega)
      have hc3 : 3000 ≤ q := by omega
      have H3 := Lib.hid h3
      clear h3
      go_wp2_with fail
      go_meet
      exact ⟨3000, _, rfl, Nat.le_refl _, hc3, H3.out, Ext.refl _⟩
    · go_wp2_with fail
      go_meet
      exact ⟨m, lb, rfl, by omega, hmq, hbD, Ext.refl _⟩
  case rest =>
    obtain ⟨k, b, rfl, hk, hkq, hb, x2⟩ := hcut
    obtain ⟨W2, rfl⟩ : ∃ W2 : World, W2 = wc := ⟨_, rfl⟩
    replace hBx := hBx.ext x2
    replace hBy := hBy.ext x2
    replace hBo0 := hBo0.ext x2
    replace okx := okx.ext x2
    replace oky := oky.ext x2
    replace hf := hf.ext x2
    replace xW := xW.trans x2
    clear x2 hbD z0 z1 hzW hm9 hq9
    have HB := Lib.hid hb
    have HBo := Lib.hid hBo0
    have HBx := Lib.hid hBx
    have HBy := Lib.hid hBy
    have HS := Lib.hid (fun (W : World) (h : Ext W2 W) => law16_some A n c l W (hf.ext h) hcm hnc)
    have hlo := hf.ok
    clear hb hf hcm hnc hBo0 hBx hBy
    have hr12 : min 12 n ≤ 12 := by omega
    have H12 := Lib.hid (fun (W : World) (h : Ext W2 W) (v : Value) (B : Nat) (ho : W.ownsRow B 75 4 v (min 12 n) (rowOf (some12 l))) => (by
      obtain ⟨AR, cR, rfl, hcR⟩ := own_form ho
      exact ⟨AR, cR, rfl, Fs.of_own ho fun f hf => (some12_ok hlo f hf).ext h⟩ : ∃ AR cR, v = .slice AR (min 12 n) cR ∧ Fs W AR (min 12 n) (some12 l)))
    clear hlo
    generalize some12 l = R at *
    generalize min 12 n = r at *
    have HP1 := Lib.hid (fun (W : World) (h : Ext W2 W) (AR : Option Addr) (cR : Nat) (hfr : Fs W AR r R) => letter_Put tx AR r cR R W (okx.ext h) (by omega) hfr (by omega))
    have HP2 := Lib.hid (fun (W : World) (h : Ext W2 W) (AR : Option Addr) (cR : Nat) (hfr : Fs W AR r R) => ref16_Put tx AR r cR R W (okx.ext h) (by omega) hfr (by omega))
    generalize lput tx R = pp at *
    obtain ⟨p, ep⟩ := pp
    unfold LV.val at HP1 HP2
    dsimp only at HP1 HP2
    have HS7 := Lib.hid (fun (V : World) (h : Ext W2 V) => (show (V.cell? ⟨w.heap.size, 0, none⟩ = some (.int .i64 tx.kind) ∧ V.cell? ⟨w.heap.size, 1, none⟩ = some (.int .i64 tx.src) ∧ V.cell? ⟨w.heap.size, 2, none⟩ = some (.int .i64 tx.dst) ∧ V.cell? ⟨w.heap.size, 3, none⟩ = some (.int .i64 tx.term) ∧ V.cell? ⟨w.heap.size, 4, none⟩ = some (.int .i64 tx.a) ∧ V.cell? ⟨w.heap.size, 5, none⟩ = some (.int .i64 tx.b) ∧ V.cell? ⟨w.heap.size, 6, none⟩ = some (.int .i64 tx.c) ∧ V.cell? ⟨w.heap.size, 7, none⟩ = some (.int .i64 tx.bin) ∧ V.cell? ⟨w.heap.size, 8, none⟩ = some (.bool tx.ok) ∧ V.cell? ⟨w.heap.size, 9, none⟩ = some (.slice tx.A tx.n tx.cp)) ∧ V.cell? ⟨w.heap.size + 1 + 1, 0, none⟩ = some (.slice A n c) from ⟨⟨(HBx.out.ext h).cell 0, (HBx.out.ext h).cell 1, (HBx.out.ext h).cell 2, (HBx.out.ext h).cell 3, (HBx.out.ext h).cell 4, (HBx.out.ext h).cell 5, (HBx.out.ext h).cell 6, (HBx.out.ext h).cell 7, (HBx.out.ext h).cell 8, (HBx.out.ext h).cell 9⟩, (HBo.out.ext h).cell 0⟩))
    obtain ⟨⟨d0, d1, d2, d3, d4, d5, d6, d7, d8, d9⟩, o0⟩ := HS7.out _ (Ext.refl W2)
    have x0 : Ext W2 W2.drew := (Ext.refl W2).drew
    go_wp2_with fail
    go_region_held3 (fun V => (V.cell? ⟨w.heap.size, 0, none⟩ = some (.int .i64 tx.kind) ∧ V.cell? ⟨w.heap.size, 1, none⟩ = some (.int .i64 tx.src) ∧ V.cell? ⟨w.heap.size, 2, none⟩ = some (.int .i64 tx.dst) ∧ V.cell? ⟨w.heap.size, 3, none⟩ = some (.int .i64 tx.term) ∧ V.cell? ⟨w.heap.size, 4, none⟩ = some (.int .i64 tx.a) ∧ V.cell? ⟨w.heap.size, 5, none⟩ = some (.int .i64 tx.b) ∧ V.cell? ⟨w.heap.size, 6, none⟩ = some (.int .i64 tx.c) ∧ V.cell? ⟨w.heap.size, 7, none⟩ = some (.int .i64 tx.bin) ∧ V.cell? ⟨w.heap.size, 8, none⟩ = some (.bool tx.ok) ∧ V.cell? ⟨w.heap.size, 9, none⟩ = some (.slice tx.A tx.n tx.cp)) ∧ V.cell? ⟨w.heap.size + 1 + 1, 0, none⟩ = some (.slice A n c))
      (first | (exact HS7.out _ z2) | (exact HS7.out _ z1) | (exact HS7.out _ x0) | (exact HS7.out _ (Ext.refl W2)) | go_keep)
      (first
        | (go_at_call 17; refine (HS.out _ x0).mono ?_; rintro e b1 ⟨v1, rfl, own1, z1'⟩; have z1 := x0.trans z1'; obtain ⟨AR, cR, rfl, hfr⟩ := H12.out _ z1 _ _ own1; clear own1 z1')
        | (go_at_call 15; refine (HP1.out _ z1 AR cR hfr).mono ?_; rintro e b2 ⟨v2, rfl, own2, z2'⟩; have z2 := z1.trans z2'; clear hfr))
    obtain ⟨A5, c5, rfl, _⟩ := own_form own2
    have hp5 : Bs b2 A5 p.length p := Bs.of_own own2
    clear HP1 own2 z1 x0
    obtain ⟨⟨d0, d1, d2, d3, d4, d5, d6, d7, d8, d9⟩, o0⟩ := HS7.out _ z2
    have x0 : Ext W2 b2.drew := z2.drew
    have y0 : Ext b2 b2.drew := (Ext.refl b2).drew
    go_wp2_with fail
    go_region_held3 (fun V => (V.cell? ⟨w.heap.size, 0, none⟩ = some (.int .i64 tx.kind) ∧ V.cell? ⟨w.heap.size, 1, none⟩ = some (.int .i64 tx.src) ∧ V.cell? ⟨w.heap.size, 2, none⟩ = some (.int .i64 tx.dst) ∧ V.cell? ⟨w.heap.size, 3, none⟩ = some (.int .i64 tx.term) ∧ V.cell? ⟨w.heap.size, 4, none⟩ = some (.int .i64 tx.a) ∧ V.cell? ⟨w.heap.size, 5, none⟩ = some (.int .i64 tx.b) ∧ V.cell? ⟨w.heap.size, 6, none⟩ = some (.int .i64 tx.c) ∧ V.cell? ⟨w.heap.size, 7, none⟩ = some (.int .i64 tx.bin) ∧ V.cell? ⟨w.heap.size, 8, none⟩ = some (.bool tx.ok) ∧ V.cell? ⟨w.heap.size, 9, none⟩ = some (.slice tx.A tx.n tx.cp)) ∧ V.cell? ⟨w.heap.size + 1 + 1, 0, none⟩ = some (.slice A n c))
      (first | (exact HS7.out _ z4) | (exact HS7.out _ z3) | (exact HS7.out _ x0) | (exact HS7.out _ z2) | go_keep)
      (first
        | (go_at_call 17; refine (HS.out _ x0).mono ?_; rintro e b3 ⟨v3, rfl, own3, z3'⟩; have z3 := x0.trans z3'; have y3 := y0.trans z3'; obtain ⟨AR, cR, rfl, hfr⟩ := H12.out _ z3 _ _ own3; clear own3 z3')
        | (go_at_call 21; refine (HP2.out _ z3 AR cR hfr).mono ?_; rintro e b4 ⟨v4, rfl, own4, z4'⟩; have z4 := z3.trans z4'; have y4 := y3.trans z4'; clear hfr))
    obtain ⟨A6, c6, rfl, _⟩ := own_form own4
    have hp6 : Bs b4 A6 p.length p := Bs.of_own own4
    replace hp5 := hp5.ext y4
    clear HP2 own4 z3 x0 y0 y3 y4 z2 HS HS7 H12 d0 d1 d2 d3 d4 d5 d6 d7 d8 d9 o0
    replace xW := xW.trans z4
    replace okx := okx.ext z4
    replace oky := oky.ext z4
    have HBx4 := Lib.hid (HBx.out.ext z4)
    have HBy4 := Lib.hid (HBy.out.ext z4)
    have HB4 := Lib.hid (HB.out.ext z4)
    have HP5 := Lib.hid hp5
    have HP6 := Lib.hid hp6
    clear HBx HBy HB HBo hp5 hp6 z4
    have hb4 := HB4.out
    have hemp := own_empty b4 5 1
    go_wp2_with (at_builtin; refine wpList_app bytesT (by omega) _ rfl rfl rfl hemp rfl (Rd.alloc hb4 _) (bvs_one _) (by unfold maxLen; omega) (by omega) (by simp) ?_; intro v6 w6 hown6 hg6 hat6; simp only [Nat.zero_add, List.nil_append] at hown6; obtain ⟨A7, c7, rfl, hc7⟩ := own_form hown6)
    have x6 := Below.app ((Ext.refl b4).alloc _) hg6 (by simp) hemp (Nat.le_refl _)
    have HTK := Lib.hid (letter_Take A7 k c7 b w6 (Bs.of_own hown6) (by omega) hc7)
    refine HTK.out.mono ?_
    rintro e w7 ⟨u, AQ, nQ, cQ, Q, code, rfl, hou, hfq, hnq, hcq, hun, hcase, x7⟩
    have x57 : Ext b4 w7 := Ext.trans x6 x7
    have HU := Lib.hid hou.ok
    have HFQ := Lib.hid hfq
    clear HTK hown6 hg6 hat6 hemp x6 x7 hou hb4 hfq
    have hql : nQ ≤ 16384 := by have := taken_len hcase; have := HFQ.out.len; omega
    unfold LV.val
    go_upto_region 10 with fail
    have hBu := Blk.new w7 26 [.int .i64 u.kind, .int .i64 u.src, .int .i64 u.dst, .int .i64 u.term, .int .i64 u.a, .int .i64 u.b, .int .i64 u.c, .int .i64 u.bin, .bool u.ok, .slice u.A u.n u.cp]
    have x8 : Ext w7 (w7.alloc (.cells #[.int .i64 u.kind, .int .i64 u.src, .int .i64 u.dst, .int .i64 u.term, .int .i64 u.a, .int .i64 u.b, .int .i64 u.c, .int .i64 u.bin, .bool u.ok, .slice u.A u.n u.cp] 26)) := (Ext.refl w7).alloc _
    have hgu : w7.heap.size < (w7.alloc (.cells #[.int .i64 u.kind, .int .i64 u.src, .int .i64 u.dst, .int .i64 u.term, .int .i64 u.a, .int .i64 u.b, .int .i64 u.c, .int .i64 u.bin, .bool u.ok, .slice u.A u.n u.cp] 26)).heap.size := by simp
    generalize hgw : w7.heap.size = gu at hBu hgu ⊢
    generalize w7.alloc (.cells #[.int .i64 u.kind, .int .i64 u.src, .int .i64 u.dst, .int .i64 u.term, .int .i64 u.a, .int .i64 u.b, .int .i64 u.c, .int .i64 u.bin, .bool u.ok, .slice u.A u.n u.cp] 26) = W8 at *
    clear hgw
    have xb8 := x57.trans x8
    have HU8 := Lib.hid (HU.out.ext x8)
    have HFQ8 := Lib.hid (HFQ.out.ext x8)
    have HBU := Lib.hid hBu
    clear HU HFQ hBu x57 x8
    have HTR := Lib.hid (ref16_Take D k q b W8 (HB4.out.ext xb8) (by omega) hkq)
    go_wp2_with fail
    refine HTR.out.mono ?_
    rintro e w9 ⟨v, AV, nV, cV, N, code2, rfl, hov, hfv, hnv, hcv, hvn, hcase2, x9⟩
    have HV := Lib.hid hov.ok
    have HFV := Lib.hid hfv
    obtain ⟨rfl, heq, hfe⟩ := taken_same hcase hcase2
    have hvl : nV ≤ 16384 := by have := taken_len hcase2; have := HFV.out.len; omega
    clear HTR hov hfv hcase hcase2
    unfold LV.val
    go_upto_region 11 with fail
    have hBv := Blk.new w9 26 [.int .i64 v.kind, .int .i64 v.src, .int .i64 v.dst, .int .i64 v.term, .int .i64 v.a, .int .i64 v.b, .int .i64 v.c, .int .i64 v.bin, .bool v.ok, .slice v.A v.n v.cp]
    have x10 : Ext w9 (w9.alloc (.cells #[.int .i64 v.kind, .int .i64 v.src, .int .i64 v.dst, .int .i64 v.term, .int .i64 v.a, .int .i64 v.b, .int .i64 v.c, .int .i64 v.bin, .bool v.ok, .slice v.A v.n v.cp] 26)) := (Ext.refl w9).alloc _
    generalize hgw : w9.heap.size = gv at hBv ⊢
    generalize w9.alloc (.cells #[.int .i64 v.kind, .int .i64 v.src, .int .i64 v.dst, .int .i64 v.term, .int .i64 v.a, .int .i64 v.b, .int .i64 v.c, .int .i64 v.bin, .bool v.ok, .slice v.A v.n v.cp] 26) = W10 at *
    clear hgw
    have x810 := x9.trans x10
    have xb10 := xb8.trans x810
    have hBu := HBU.out.ext x810
    have HS1 := Lib.hid (ref16_SameB u v true heq W10 (HU8.out.ext x810) (HV.out.ext x10) (by omega) (by omega))
    have HS2 := Lib.hid (fun (W : World) (h : Ext W10 W) => ref03_SameB AQ AV nQ nV cQ cV Q N true hfe W ((HFQ8.out.ext x810).ext h) ((HFV.out.ext x10).ext h) (by omega) (by omega))
    unfold LV.val at HS1
    clear HU8 HV HFQ8 HFV HBU x9 x10 heq hfe
    have d0 := hBu.cell 0
    have d1 := hBu.cell 1
    have d2 := hBu.cell 2
    have d3 := hBu.cell 3
    have d4 := hBu.cell 4
    have d5 := hBu.cell 5
    have d6 := hBu.cell 6
    have d7 := hBu.cell 7
    have d8 := hBu.cell 8
    have d9 := hBu.cell 9
    simp only [List.getElem?_cons_zero, List.getElem?_cons_succ] at d0 d1 d2 d3 d4 d5 d6 d7 d8 d9
    have e0 := hBv.cell 0
    have e1 := hBv.cell 1
    have e2 := hBv.cell 2
    have e3 := hBv.cell 3
    have e4 := hBv.cell 4
    have e5 := hBv.cell 5
    have e6 := hBv.cell 6
    have e7 := hBv.cell 7
    have e8 := hBv.cell 8
    have e9 := hBv.cell 9
    simp only [List.getElem?_cons_zero, List.getElem?_cons_succ] at e0 e1 e2 e3 e4 e5 e6 e7 e8 e9
    go_wp2_with fail
    refine HS1.out.mono ?_
    rintro e w11 ⟨rfl, x11⟩
    clear HS1 hBv hBu d0 d1 d2 d3 d4 d5 d6 d7 d8 d9 e0 e1 e2 e3 e4 e5 e6 e7 e8 e9
    go_wp2_with fail
    refine (HS2.out _ x11).mono ?_
    rintro e w12 ⟨rfl, x12⟩
    have xb12 := (xb10.trans x11).trans x12
    clear HS2 x11 x12 xb10 xb8 x810
    replace xW := xW.trans xb12
    replace okx := okx.ext xb12
    replace oky := oky.ext xb12
    have hBx := HBx4.out.ext xb12
    have hBy := HBy4.out.ext xb12
    have HP5b := Lib.hid (HP5.out.ext xb12)
    have HP6b := Lib.hid (HP6.out.ext xb12)
    clear HBx4 HBy4 HP5 HP6 HB4 xb12
    obtain ⟨g1, hg1⟩ : ∃ g, letEq tx ty = g := ⟨_, rfl⟩
    have HS3 := Lib.hid (fun (W : World) (h : Ext w12 W) => ref16_SameB tx ty g1 hg1 W (okx.ext h) (oky.ext h) (by omega) (by omega))
    have HS4 := Lib.hid (fun (W : World) (h : Ext w12 W) => letter_Same tx ty g1 hg1 W (okx.ext h) (oky.ext h) (by omega) (by omega))
    have HM1 := Lib.hid (fun (W : World) (h : Ext w12 W) => letter_May tx W (okx.ext h) (by omega))
    have HM2 := Lib.hid (fun (W : World) (h : Ext w12 W) => ref16_May tx W (okx.ext h) (by omega))
    generalize mayR tx = mr at HM1 HM2
    unfold LV.val at HS3 HS4 HM1 HM2
    clear hg1 okx oky
    have d0 := hBx.cell 0
    have d1 := hBx.cell 1
    have d2 := hBx.cell 2
    have d3 := hBx.cell 3
    have d4 := hBx.cell 4
    have d5 := hBx.cell 5
    have d6 := hBx.cell 6
    have d7 := hBx.cell 7
    have d8 := hBx.cell 8
    have d9 := hBx.cell 9
    simp only [List.getElem?_cons_zero, List.getElem?_cons_succ] at d0 d1 d2 d3 d4 d5 d6 d7 d8 d9
    have e0 := hBy.cell 0
    have e1 := hBy.cell 1
    have e2 := hBy.cell 2
    have e3 := hBy.cell 3
    have e4 := hBy.cell 4
    have e5 := hBy.cell 5
    have e6 := hBy.cell 6
    have e7 := hBy.cell 7
    have e8 := hBy.cell 8
    have e9 := hBy.cell 9
    simp only [List.getElem?_cons_zero, List.getElem?_cons_succ] at e0 e1 e2 e3 e4 e5 e6 e7 e8 e9
    go_wp2_with fail
    refine (HS3.out _ (Ext.refl _)).mono ?_
    rintro e w13 ⟨rfl, x13⟩
    clear HS3 d0 d1 d2 d3 d4 d5 d6 d7 d8 d9 e0 e1 e2 e3 e4 e5 e6 e7 e8 e9
    replace hBx := hBx.ext x13
    replace hBy := hBy.ext x13
    have HBX := Lib.hid hBx
    have HBY := Lib.hid hBy
    have HP5c := Lib.hid (HP5b.out.ext x13)
    have HP6c := Lib.hid (HP6b.out.ext x13)
    clear hBx hBy HP5b HP6b
    have HS14 := Lib.hid (fun (V : World) (h : Ext w13 V) => (show (V.cell? ⟨w.heap.size, 0, none⟩ = some (.int .i64 tx.kind) ∧ V.cell? ⟨w.heap.size, 1, none⟩ = some (.int .i64 tx.src) ∧ V.cell? ⟨w.heap.size, 2, none⟩ = some (.int .i64 tx.dst) ∧ V.cell? ⟨w.heap.size, 3, none⟩ = some (.int .i64 tx.term) ∧ V.cell? ⟨w.heap.size, 4, none⟩ = some (.int .i64 tx.a) ∧ V.cell? ⟨w.heap.size, 5, none⟩ = some (.int .i64 tx.b) ∧ V.cell? ⟨w.heap.size, 6, none⟩ = some (.int .i64 tx.c) ∧ V.cell? ⟨w.heap.size, 7, none⟩ = some (.int .i64 tx.bin) ∧ V.cell? ⟨w.heap.size, 8, none⟩ = some (.bool tx.ok) ∧ V.cell? ⟨w.heap.size, 9, none⟩ = some (.slice tx.A tx.n tx.cp)) ∧ (V.cell? ⟨w.heap.size + 1, 0, none⟩ = some (.int .i64 ty.kind) ∧ V.cell? ⟨w.heap.size + 1, 1, none⟩ = some (.int .i64 ty.src) ∧ V.cell? ⟨w.heap.size + 1, 2, none⟩ = some (.int .i64 ty.dst) ∧ V.cell? ⟨w.heap.size + 1, 3, none⟩ = some (.int .i64 ty.term) ∧ V.cell? ⟨w.heap.size + 1, 4, none⟩ = some (.int .i64 ty.a) ∧ V.cell? ⟨w.heap.size + 1, 5, none⟩ = some (.int .i64 ty.b) ∧ V.cell? ⟨w.heap.size + 1, 6, none⟩ = some (.int .i64 ty.c) ∧ V.cell? ⟨w.heap.size + 1, 7, none⟩ = some (.int .i64 ty.bin) ∧ V.cell? ⟨w.heap.size + 1, 8, none⟩ = some (.bool ty.ok) ∧ V.cell? ⟨w.heap.size + 1, 9, none⟩ = some (.slice ty.A ty.n ty.cp)) ∧ (convert 29 9 (.slice A5 p.length c5)).run Try.prog V = .ok (.string (bstr p)) V ∧ (convert 29 9 (.slice A6 p.length c6)).run Try.prog V = .ok (.string (bstr p)) V from ⟨⟨(HBX.out.ext h).cell 0, (HBX.out.ext h).cell 1, (HBX.out.ext h).cell 2, (HBX.out.ext h).cell 3, (HBX.out.ext h).cell 4, (HBX.out.ext h).cell 5, (HBX.out.ext h).cell 6, (HBX.out.ext h).cell 7, (HBX.out.ext h).cell 8, (HBX.out.ext h).cell 9⟩, ⟨(HBY.out.ext h).cell 0, (HBY.out.ext h).cell 1, (HBY.out.ext h).cell 2, (HBY.out.ext h).cell 3, (HBY.out.ext h).cell 4, (HBY.out.ext h).cell 5, (HBY.out.ext h).cell 6, (HBY.out.ext h).cell 7, (HBY.out.ext h).cell 8, (HBY.out.ext h).cell 9⟩, str_at (HP5c.out.ext h) c5, str_at (HP6c.out.ext h) c6⟩))
    clear HBX HBY HP5c HP6c
    generalize bstr p = P at *
    obtain ⟨⟨d0, d1, d2, d3, d4, d5, d6, d7, d8, d9⟩, ⟨e0, e1, e2, e3, e4, e5, e6, e7, e8, e9⟩, s1, s2⟩ := HS14.out _ (Ext.refl w13)
    have y0 : Ext w13 w13.drew := (Ext.refl w13).drew
    have x0 : Ext w12 w13.drew := x13.drew
    have hge : (g1 == g1) = true := by cases g1 <;> rfl
    go_wp2_with fail
    go_region_held3 (fun V => (V.cell? ⟨w.heap.size, 0, none⟩ = some (.int .i64 tx.kind) ∧ V.cell? ⟨w.heap.size, 1, none⟩ = some (.int .i64 tx.src) ∧ V.cell? ⟨w.heap.size, 2, none⟩ = some (.int .i64 tx.dst) ∧ V.cell? ⟨w.heap.size, 3, none⟩ = some (.int .i64 tx.term) ∧ V.cell? ⟨w.heap.size, 4, none⟩ = some (.int .i64 tx.a) ∧ V.cell? ⟨w.heap.size, 5, none⟩ = some (.int .i64 tx.b) ∧ V.cell? ⟨w.heap.size, 6, none⟩ = some (.int .i64 tx.c) ∧ V.cell? ⟨w.heap.size, 7, none⟩ = some (.int .i64 tx.bin) ∧ V.cell? ⟨w.heap.size, 8, none⟩ = some (.bool tx.ok) ∧ V.cell? ⟨w.heap.size, 9, none⟩ = some (.slice tx.A tx.n tx.cp)) ∧ (V.cell? ⟨w.heap.size + 1, 0, none⟩ = some (.int .i64 ty.kind) ∧ V.cell? ⟨w.heap.size + 1, 1, none⟩ = some (.int .i64 ty.src) ∧ V.cell? ⟨w.heap.size + 1, 2, none⟩ = some (.int .i64 ty.dst) ∧ V.cell? ⟨w.heap.size + 1, 3, none⟩ = some (.int .i64 ty.term) ∧ V.cell? ⟨w.heap.size + 1, 4, none⟩ = some (.int .i64 ty.a) ∧ V.cell? ⟨w.heap.size + 1, 5, none⟩ = some (.int .i64 ty.b) ∧ V.cell? ⟨w.heap.size + 1, 6, none⟩ = some (.int .i64 ty.c) ∧ V.cell? ⟨w.heap.size + 1, 7, none⟩ = some (.int .i64 ty.bin) ∧ V.cell? ⟨w.heap.size + 1, 8, none⟩ = some (.bool ty.ok) ∧ V.cell? ⟨w.heap.size + 1, 9, none⟩ = some (.slice ty.A ty.n ty.cp)) ∧ (convert 29 9 (.slice A5 p.length c5)).run Try.prog V = .ok (.string P) V ∧ (convert 29 9 (.slice A6 p.length c6)).run Try.prog V = .ok (.string P) V)
      (first | (exact HS14.out _ y3) | (exact HS14.out _ y2) | (exact HS14.out _ y1) | (exact HS14.out _ y0) | (exact HS14.out _ (Ext.refl w13)) | go_keep)
      (first
        | (go_at_call 13; refine (HM1.out _ x0).mono ?_; rintro e b1 ⟨rfl, z1'⟩; have z1 := x0.trans z1'; have y1 := y0.trans z1'; clear z1')
        | (go_at_call 23; refine (HM2.out _ z1).mono ?_; rintro e b2 ⟨rfl, z2'⟩; have z2 := z1.trans z2'; have y2 := y1.trans z2'; clear z2')
        | (go_at_call 16; refine (HS4.out _ z2).mono ?_; rintro e b3 ⟨rfl, z3'⟩; have z3 := z2.trans z3'; have y3 := y2.trans z3'; clear z3'))
    go_wp2
    go_ret
    exact ⟨rfl, xW.trans z3⟩
end Go.Proofs.Ytcoaofaofmbfbaa
