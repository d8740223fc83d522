/- The walks of the reference of layer 15: Step at votes. -/
import Derived.Test.YtcdnjhcddbkciaaElJ
import Derived.BigGuardPart
namespace Go.Proofs.Ytcdnjhcddbkciaa
open Go.RowKit

/-- the cells of a step's variables behind the copy of the log -/
theorem stepCells {w1 w3 : World} {ty te : TypeId} {v : Value} {n : Nat} {xs : List Value} {v0 v1 v2 v3 x0 x1 x2 x3 : Value} {r0 r1 r2 : Value} {h h' : Nat}
    (hg : ((w1.alloc (.cells #[x0, x1, x2, x3] ty)).alloc (.cells #[] te)).grownBy w3 v.ownBlock) (a0 : w1.cell? ⟨h, 0, none⟩ = some v0) (a1 : w1.cell? ⟨h, 1, none⟩ = some v1) (a2 : w1.cell? ⟨h, 2, none⟩ = some v2) (a3 : w1.cell? ⟨h, 3, none⟩ = some v3)
    (b0 : w1.cell? ⟨h', 0, none⟩ = some r0) (b1 : w1.cell? ⟨h', 1, none⟩ = some r1) (b2 : w1.cell? ⟨h', 2, none⟩ = some r2) (l0 : h < w1.heap.size) (l1 : h' < w1.heap.size)
    (hemp : ((w1.alloc (.cells #[x0, x1, x2, x3] ty)).alloc (.cells #[] te)).ownsRow (w1.heap.size + 1) te 2 v n xs) :
    w3.cell? ⟨h, 0, none⟩ = some v0 ∧ w3.cell? ⟨h, 1, none⟩ = some v1 ∧ w3.cell? ⟨h, 2, none⟩ = some v2 ∧ w3.cell? ⟨h, 3, none⟩ = some v3 ∧
    w3.cell? ⟨h', 0, none⟩ = some r0 ∧ w3.cell? ⟨h', 1, none⟩ = some r1 ∧ w3.cell? ⟨h', 2, none⟩ = some r2 ∧
    w3.cell? ⟨w1.heap.size, 0, none⟩ = some x0 ∧ w3.cell? ⟨w1.heap.size, 1, none⟩ = some x1 ∧ w3.cell? ⟨w1.heap.size, 2, none⟩ = some x2 ∧ w3.cell? ⟨w1.heap.size, 3, none⟩ = some x3 ∧
    w3.frozen? ⟨w1.heap.size, 0, none⟩ = false ∧ w3.frozen? ⟨w1.heap.size, 1, none⟩ = false ∧ w3.frozen? ⟨w1.heap.size, 2, none⟩ = false ∧ w3.frozen? ⟨w1.heap.size, 3, none⟩ = false ∧ w1.heap.size < w3.heap.size ∧ Ext w1 w3 := by
  have hb : Below (w1.heap.size + 1) ((w1.alloc (.cells #[x0, x1, x2, x3] ty)).alloc (.cells #[] te)) w3 := Below.app (Below.refl _ _) hg (by simp) hemp (Nat.le_refl _)
  have k : ∀ {b i u}, w1.cell? ⟨b, i, none⟩ = some u → b < w1.heap.size → w3.cell? ⟨b, i, none⟩ = some u := fun {b i u} hc hl =>
    (Below.cell hb (p := ⟨b, i, none⟩) (by show b < _; omega)).trans ((((Ext.refl w1).alloc _).alloc _).cell hc)
  have hB : Blk w3 w1.heap.size ty [x0, x1, x2, x3] := by
    have h0 := (Blk.new w1 ty [x0, x1, x2, x3]).alloc (.cells #[] te)
    exact (hb.block w1.heap.size (by omega)).trans h0
  exact ⟨k a0 l0, k a1 l0, k a2 l0, k a3 l0, k b0 l1, k b1 l1, k b2 l1, hB.cell 0, hB.cell 1, hB.cell 2, hB.cell 3, hB.frozen 0, hB.frozen 1, hB.frozen 2, hB.frozen 3, hB.lt, Below.app (((Ext.refl w1).alloc _).alloc _) hg (by simp; omega) hemp (by omega)⟩

set_option maxRecDepth 100000 in
set_option maxHeartbeats 3200000 in
theorem ref15_Step_vote (floor term vote : Int) (A : Option Addr) (n c : Nat) (l : List EV) (t who : Nat) (w : World) (hes : Es w A n l) (hn : n ≤ 1000)
    (ht : t ≤ 1048576) (hw : who ≤ 5) (hgo : term < t ∨ (t : Int) = term ∧ (vote = 0 ∨ vote = who)) :
    Calls Try.prog 49 #[.agg #[.int .i64 floor, .int .i64 term, .int .i64 vote, .slice A n c], .agg #[.int .i64 2, .int .i64 t, .int .i64 who, .slice none 0 0]] w fun e w' =>
      ∃ v, e = .returned (.tuple #[.agg #[.int .i64 floor, .int .i64 t, .int .i64 who, v], .int .i64 0]) ∧ w'.ownsRow w.heap.size 36 2 v n (logOf l) ∧ Ext w w' := by
  have HP := Lib.hid (fun w => ref15_Put_ok t who w ht hw)
  have hrd := hes.rd
  have hlen := hes.len
  clear hes
  have hB0 : Blk (((w.alloc (.cells #[.int .i64 floor, .int .i64 term, .int .i64 vote, .slice A n c] 45)).alloc (.cells #[.int .i64 2, .int .i64 t, .int .i64 who, .slice none 0 0] 70)).alloc (.cells #[.int .i64 0, .int .i64 0, .int .i64 0, .slice none 0 0] 45)) w.heap.size 45 [.int .i64 floor, .int .i64 term, .int .i64 vote, .slice A n c] := ((Blk.new w _ [.int .i64 floor, .int .i64 term, .int .i64 vote, .slice A n c]).alloc _).alloc _
  have hB1 : Blk (((w.alloc (.cells #[.int .i64 floor, .int .i64 term, .int .i64 vote, .slice A n c] 45)).alloc (.cells #[.int .i64 2, .int .i64 t, .int .i64 who, .slice none 0 0] 70)).alloc (.cells #[.int .i64 0, .int .i64 0, .int .i64 0, .slice none 0 0] 45)) (w.heap.size + 1) 70 [.int .i64 2, .int .i64 t, .int .i64 who, .slice none 0 0] := by
    have h0 := (Blk.new (w.alloc (.cells #[.int .i64 floor, .int .i64 term, .int .i64 vote, .slice A n c] 45)) 70 [.int .i64 2, .int .i64 t, .int .i64 who, .slice none 0 0]).alloc (.cells #[.int .i64 0, .int .i64 0, .int .i64 0, .slice none 0 0] 45)
    simpa using h0
  have hB2 : Blk (((w.alloc (.cells #[.int .i64 floor, .int .i64 term, .int .i64 vote, .slice A n c] 45)).alloc (.cells #[.int .i64 2, .int .i64 t, .int .i64 who, .slice none 0 0] 70)).alloc (.cells #[.int .i64 0, .int .i64 0, .int .i64 0, .slice none 0 0] 45)) (w.heap.size + 1 + 1) 45 [.int .i64 0, .int .i64 0, .int .i64 0, .slice none 0 0] := by
    have h0 := Blk.new ((w.alloc (.cells #[.int .i64 floor, .int .i64 term, .int .i64 vote, .slice A n c] 45)).alloc (.cells #[.int .i64 2, .int .i64 t, .int .i64 who, .slice none 0 0] 70)) 45 [.int .i64 0, .int .i64 0, .int .i64 0, .slice none 0 0]
    rw [show ((w.alloc (.cells #[.int .i64 floor, .int .i64 term, .int .i64 vote, .slice A n c] 45)).alloc (.cells #[.int .i64 2, .int .i64 t, .int .i64 who, .slice none 0 0] 70)).heap.size = w.heap.size + 1 + 1 by simp] at h0
    exact h0
  have hcs : decide (term < (t : Int)) = true ∨ (decide (term < (t : Int)) = false ∧ ((t : Int) == term) = true ∧ (vote == 0) = true) ∨ (decide (term < (t : Int)) = false ∧ ((t : Int) == term) = true ∧ (vote == 0) = false ∧ (vote == (who : Int)) = true) := by
    rcases hgo with h | ⟨h, h2⟩
    · exact .inl (dec_t h)
    · by_cases h3 : vote = 0
      · exact .inr (.inl ⟨dec_f (by omega), beq_t h, beq_t h3⟩)
      · exact .inr (.inr ⟨dec_f (by omega), beq_t h, beq_f h3, beq_t (h2.resolve_left h3)⟩)
  clear hgo
  rcases hcs with g1 | ⟨g1, g2, g3⟩ | ⟨g1, g2, g3, g4⟩
  all_goals
    go_enter Try.func49, Try.ntmps49
    go_wp2_with fail
    refine (HP.out _).mono ?_
    rintro e w1 ⟨v1, rfl, x1⟩
    have B0 := hB0.ext x1
    have B1 := hB1.ext x1
    have a0 := B0.cell 0
    have a1 := B0.cell 1
    have a2 := B0.cell 2
    have a3 := B0.cell 3
    have r0 := B1.cell 0
    have r1 := B1.cell 1
    have r2 := B1.cell 2
    have r3 := B1.cell 3
    simp only [List.getElem?_cons_zero, List.getElem?_cons_succ] at a0 a1 a2 a3 r0 r1 r2 r3
    clear B0 B1
    have B2 := hB2.ext x1
    have hx1 : Ext w w1 := (((Ext.refl w).alloc _).alloc _).alloc _ |>.trans x1
    have hz1 := x1.size
    simp at hz1
    have hlt0 : w.heap.size < w1.heap.size := by omega
    have hlt1 : w.heap.size + 1 < w1.heap.size := by omega
    have hlt2 : w.heap.size + 1 + 1 < w1.heap.size := by omega
    have hrd1 := hrd.ext hx1
    have hemp := blk_own (B := w1.heap.size + 1) (w1.alloc (.cells #[.int .i64 floor, .int .i64 term, .int .i64 vote, .slice A n c] 45)) #[] 36 2 0 rfl (by omega) (by simp) (w1.heap.size + 1) (by simp)
    have hrd2 := (hrd1.alloc (.cells #[.int .i64 floor, .int .i64 term, .int .i64 vote, .slice A n c] 45)).alloc (.cells #[] 36)
    clear hrd1 hrd
    go_wp2_with (at_builtin; refine wpList_app entsT (by omega) _ rfl rfl rfl hemp rfl hrd2 (logOf_cells _) (by unfold maxLen; omega) (by omega) (by simp) ?_; intro v3 w3 hown3 hg3 hat3; obtain ⟨A3, c3, rfl, _⟩ := own_form hown3; simp only [List.nil_append, Nat.zero_add] at hown3 hg3; obtain ⟨s0, s1, s2, s3, t0, t1, t2, o0, o1, o2, o3, p0, p1, p2, p3, hl3, x3⟩ := stepCells hg3 a0 a1 a2 a3 r0 r1 r2 hlt0 hlt1 hemp; have B3 := B2.ext x3; have z0 := B3.cell 0; have z1 := B3.cell 1; have z2 := B3.cell 2; have z3 := B3.cell 3; have y0 := B3.frozen 0; have y1 := B3.frozen 1; have y2 := B3.frozen 2; have y3 := B3.frozen 3; simp only [List.getElem?_cons_zero, List.getElem?_cons_succ] at z0 z1 z2 z3; have hlt3 := B3.lt; clear B2 B3; clear hg3 hat3 a0 a1 a2 a3 r0 r1 r2 r3 hemp hrd2)
    refine bodyPost_ret (v := .tuple #[.agg #[.int .i64 floor, .int .i64 t, .int .i64 who, .slice A3 n c3], .int .i64 0]) (by simp [results, Try.results49, go_sem, z0, z1, z2, z3]) rfl ⟨_, rfl, ?_, ?_⟩
    · refine own_base (base := w1.heap.size + 1) ?_ (by omega)
      refine own_set (own_set (own_set (own_set (own_set (own_set (own_set ?_ ?_ _) ?_ _) ?_ _) ?_ _) ?_ _) ?_ _) ?_ _
      · exact own_to hown3 (Nat.le_refl _) (by omega) rfl
      all_goals (dsimp only; omega)
    · refine Ext.setCell (Ext.setCell (Ext.setCell (Ext.setCell (Ext.setCell (Ext.setCell (Ext.setCell (hx1.trans x3) ?_ _) ?_ _) ?_ _) ?_ _) ?_ _) ?_ _) ?_ _
      all_goals (dsimp only; omega)
end Go.Proofs.Ytcdnjhcddbkciaa
