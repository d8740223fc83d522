/- coracleref15.Step at a cut. (Printed by wip/tools/stepcut.py.) -/
import Derived.Test.YtcdnjhcddbkciaaElK
import Derived.Test.YtcdnjhcddbkciaaLgJ
namespace Go.Proofs.Ytcdnjhcddbkciaa
open Go.RowKit

set_option maxRecDepth 100000 in
set_option maxHeartbeats 3200000 in
theorem ref15_Step_cut (floor term vote : Int) (A : Option Addr) (n c : Nat) (l : List EV) (t : Nat) (w : World) (hes : Es w A n l) (hn : n ≤ 1000)
    (ht1 : 1 ≤ t) (ht : t ≤ 64) (htn : t ≤ n) :
    Calls Try.prog 49 #[.agg #[.int .i64 floor, .int .i64 term, .int .i64 vote, .slice A n c], .agg #[.int .i64 4, .int .i64 t, .int .i64 0, .slice none 0 0]] w fun e w' =>
      ∃ v, e = .returned (.tuple #[.agg #[.int .i64 floor, .int .i64 term, .int .i64 vote, v], .int .i64 0]) ∧ w'.ownsRow w.heap.size 36 2 v (t - 1) (logOf (l.take (t - 1))) ∧ Ext w w' := by
  have HP := Lib.hid (fun w => ref15_Put_cut t w ht1 ht)
  have hrd := hes.rd
  have hlen := hes.len
  clear hes
  have hB0 : Blk (((w.alloc (.cells #[.int .i64 floor, .int .i64 term, .int .i64 vote, .slice A n c] 45)).alloc (.cells #[.int .i64 4, .int .i64 t, .int .i64 0, .slice none 0 0] 70)).alloc (.cells #[.int .i64 0, .int .i64 0, .int .i64 0, .slice none 0 0] 45)) w.heap.size 45 [.int .i64 floor, .int .i64 term, .int .i64 vote, .slice A n c] := ((Blk.new w _ [.int .i64 floor, .int .i64 term, .int .i64 vote, .slice A n c]).alloc _).alloc _
  have hB1 : Blk (((w.alloc (.cells #[.int .i64 floor, .int .i64 term, .int .i64 vote, .slice A n c] 45)).alloc (.cells #[.int .i64 4, .int .i64 t, .int .i64 0, .slice none 0 0] 70)).alloc (.cells #[.int .i64 0, .int .i64 0, .int .i64 0, .slice none 0 0] 45)) (w.heap.size + 1) 70 [.int .i64 4, .int .i64 t, .int .i64 0, .slice none 0 0] := by
    have h0 := (Blk.new (w.alloc (.cells #[.int .i64 floor, .int .i64 term, .int .i64 vote, .slice A n c] 45)) 70 [.int .i64 4, .int .i64 t, .int .i64 0, .slice none 0 0]).alloc (.cells #[.int .i64 0, .int .i64 0, .int .i64 0, .slice none 0 0] 45)
    simpa using h0
  have hB2 : Blk (((w.alloc (.cells #[.int .i64 floor, .int .i64 term, .int .i64 vote, .slice A n c] 45)).alloc (.cells #[.int .i64 4, .int .i64 t, .int .i64 0, .slice none 0 0] 70)).alloc (.cells #[.int .i64 0, .int .i64 0, .int .i64 0, .slice none 0 0] 45)) (w.heap.size + 1 + 1) 45 [.int .i64 0, .int .i64 0, .int .i64 0, .slice none 0 0] := by
    have h0 := Blk.new ((w.alloc (.cells #[.int .i64 floor, .int .i64 term, .int .i64 vote, .slice A n c] 45)).alloc (.cells #[.int .i64 4, .int .i64 t, .int .i64 0, .slice none 0 0] 70)) 45 [.int .i64 0, .int .i64 0, .int .i64 0, .slice none 0 0]
    rw [show ((w.alloc (.cells #[.int .i64 floor, .int .i64 term, .int .i64 vote, .slice A n c] 45)).alloc (.cells #[.int .i64 4, .int .i64 t, .int .i64 0, .slice none 0 0] 70)).heap.size = w.heap.size + 1 + 1 by simp] at h0
    exact h0
  have g1 := dec_t (show (t : Int) ≤ n by omega)
  have g2 := dec_t htn
  have g3 : IntKind.i64.wrap ((t : Int) - 1) = ((t - 1 : Nat) : Int) := by rw [IntWalk.i64_in _ (by omega)]; omega
  have g4 : (0 : Int) ≤ ((t - 1 : Nat) : Int) := by omega
  all_goals
    go_enter Try.func49, Try.ntmps49
    go_wp2_with fail
    refine (HP.out _).mono ?_
    rintro e w1 ⟨v1, rfl, x1⟩
    have B0 := hB0.ext x1
    have B1 := hB1.ext x1
    have a0 := B0.cell 0
    have a1 := B0.cell 1
    have a2 := B0.cell 2
    have a3 := B0.cell 3
    have r0 := B1.cell 0
    have r1 := B1.cell 1
    have r2 := B1.cell 2
    have r3 := B1.cell 3
    simp only [List.getElem?_cons_zero, List.getElem?_cons_succ] at a0 a1 a2 a3 r0 r1 r2 r3
    clear B0 B1
    have B2 := hB2.ext x1
    have hx1 : Ext w w1 := (((Ext.refl w).alloc _).alloc _).alloc _ |>.trans x1
    have hz1 := x1.size
    simp at hz1
    have hlt0 : w.heap.size < w1.heap.size := by omega
    have hlt1 : w.heap.size + 1 < w1.heap.size := by omega
    have hlt2 : w.heap.size + 1 + 1 < w1.heap.size := by omega
    have hrd1 := hrd.ext hx1
    have hemp := blk_own (B := w1.heap.size + 1) (w1.alloc (.cells #[.int .i64 floor, .int .i64 term, .int .i64 vote, .slice A n c] 45)) #[] 36 2 0 rfl (by omega) (by simp) (w1.heap.size + 1) (by simp)
    have hrd2 := (hrd1.alloc (.cells #[.int .i64 floor, .int .i64 term, .int .i64 vote, .slice A n c] 45)).alloc (.cells #[] 36)
    clear hrd1 hrd
    go_wp2_with (at_builtin; refine wpList_app entsT (by omega) _ rfl rfl rfl hemp rfl hrd2 (logOf_cells _) (by unfold maxLen; omega) (by omega) (by simp) ?_; intro v3 w3 hown3 hg3 hat3; obtain ⟨A3, c3, rfl, hnc3⟩ := own_form hown3; have hq := (show ((t - 1 : Nat) : Int) ≤ c3 by omega); clear hnc3; simp only [List.nil_append, Nat.zero_add] at hown3 hg3; obtain ⟨s0, s1, s2, s3, t0, t1, t2, o0, o1, o2, o3, p0, p1, p2, p3, hl3, x3⟩ := stepCells hg3 a0 a1 a2 a3 r0 r1 r2 hlt0 hlt1 hemp; have B3 := B2.ext x3; have z0 := B3.cell 0; have z1 := B3.cell 1; have z2 := B3.cell 2; have z3 := B3.cell 3; have y0 := B3.frozen 0; have y1 := B3.frozen 1; have y2 := B3.frozen 2; have y3 := B3.frozen 3; simp only [List.getElem?_cons_zero, List.getElem?_cons_succ] at z0 z1 z2 z3; have hlt3 := B3.lt; clear B2 B3; clear hg3 hat3 a0 a1 a2 a3 r0 r1 r2 r3 hemp hrd2)
    refine bodyPost_ret (v := .tuple #[.agg #[.int .i64 floor, .int .i64 term, .int .i64 vote, .slice A3 (t - 1) c3], .int .i64 0]) (by simp [results, Try.results49, go_sem, z0, z1, z2, z3]) rfl ⟨_, rfl, ?_, ?_⟩
    · refine own_base (base := w1.heap.size + 1) ?_ (by omega)
      refine own_set (own_set (own_set (own_set (own_set (own_set ?_ ?_ _) ?_ _) ?_ _) ?_ _) ?_ _) ?_ _
      · exact own_to (own_cut hown3 (show t - 1 ≤ n by omega)) (Nat.le_refl _) rfl (by rw [logOf_take])
      all_goals (dsimp only; omega)
    · refine Ext.setCell (Ext.setCell (Ext.setCell (Ext.setCell (Ext.setCell (Ext.setCell (hx1.trans x3) ?_ _) ?_ _) ?_ _) ?_ _) ?_ _) ?_ _
      all_goals (dsimp only; omega)
end Go.Proofs.Ytcdnjhcddbkciaa
