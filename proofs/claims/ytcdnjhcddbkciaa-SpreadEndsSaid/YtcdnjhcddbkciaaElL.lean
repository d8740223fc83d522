/- The walks of Steps of layer 18's reference, at no record and at a vote. -/
import Derived.Test.YtcdnjhcddbkciaaElK
import Derived.Test.YtcdnjhcddbkciaaElF
namespace Go.Proofs.Ytcdnjhcddbkciaa
open Go.RowKit

set_option maxRecDepth 100000 in
set_option maxHeartbeats 1600000 in
theorem ref18_Steps_nil (floor term vote : Int) (A : Option Addr) (n c : Nat) (R : Option Addr) (q : Nat) (w : World) :
    Calls Try.prog 40 #[.agg #[.int .i64 floor, .int .i64 term, .int .i64 vote, .slice A n c], .slice R 0 q] w fun e w' =>
      e = .returned (.tuple #[.agg #[.int .i64 floor, .int .i64 term, .int .i64 vote, .slice A n c], .int .i64 0]) ∧ Ext w w' := by
  go_enter Try.func40, Try.ntmps40
  go_wp2
  go_loopw [6] (fun i wr => i = .int .i64 0 ∧ wr = (w.alloc (.cells #[.int .i64 floor, .int .i64 term, .int .i64 vote, .slice A n c] 45)).alloc (.cells #[.int .i64 0, .int .i64 0, .int .i64 0, .slice none 0 0] 45)) (fun _ _ => 0)
  case atStart => exact ⟨rfl, rfl⟩
  case round =>
    obtain ⟨rfl, rfl⟩ := hrel
    go_wp2
    refine bodyPost_ret (v := .tuple #[.agg #[.int .i64 floor, .int .i64 term, .int .i64 vote, .slice A n c], .int .i64 0]) (by simp [results, Try.results40, go_sem]) rfl ⟨rfl, ?_⟩
    repeat (refine Ext.setCell ?_ (by simp) _)
    exact ((Ext.refl w).alloc _).alloc _

set_option maxRecDepth 100000 in
set_option maxHeartbeats 3200000 in
theorem ref18_Steps_vote (floor term vote : Int) (A : Option Addr) (n c : Nat) (l : List EV) (t who : Nat) (R : Option Addr) (q : Nat) (w : World) (hes : Es w A n l) (hn : n ≤ 1000)
    (hR : Rs w R 1 [voteR t who]) (ht : t ≤ 1048576) (hw : who ≤ 5) (hgo : term < t ∨ (t : Int) = term ∧ (vote = 0 ∨ vote = who)) :
    Calls Try.prog 40 #[.agg #[.int .i64 floor, .int .i64 term, .int .i64 vote, .slice A n c], .slice R 1 q] w fun e w' =>
      ∃ v, e = .returned (.tuple #[.agg #[.int .i64 floor, .int .i64 t, .int .i64 who, v], .int .i64 0]) ∧ w'.ownsRow w.heap.size 36 2 v n (logOf l) ∧ Ext w w' := by
  obtain ⟨b, off, rfl, d0, d1, d2, d3⟩ := hR.at_ (i := 0) (by omega)
  simp only [voteR, List.getElem_cons_zero, Nat.zero_mul, Nat.add_zero] at d0 d1 d2 d3
  have hbl := World.block_lt_of_cell? _ _ d0
  have HS := Lib.hid (fun (w' : World) (h : Ext w w') => ref15_Step_vote floor term vote A n c l t who w' (hes.ext h) hn ht hw hgo)
  have hB0 : Blk ((w.alloc (.cells #[.int .i64 floor, .int .i64 term, .int .i64 vote, .slice A n c] 45)).alloc (.cells #[.int .i64 0, .int .i64 0, .int .i64 0, .slice none 0 0] 45)) w.heap.size 45 [.int .i64 floor, .int .i64 term, .int .i64 vote, .slice A n c] := (Blk.new w _ [.int .i64 floor, .int .i64 term, .int .i64 vote, .slice A n c]).alloc _
  have hB1 : Blk ((w.alloc (.cells #[.int .i64 floor, .int .i64 term, .int .i64 vote, .slice A n c] 45)).alloc (.cells #[.int .i64 0, .int .i64 0, .int .i64 0, .slice none 0 0] 45)) (w.heap.size + 1) 45 [.int .i64 0, .int .i64 0, .int .i64 0, .slice none 0 0] := by
    have h0 := Blk.new (w.alloc (.cells #[.int .i64 floor, .int .i64 term, .int .i64 vote, .slice A n c] 45)) 45 [.int .i64 0, .int .i64 0, .int .i64 0, .slice none 0 0]
    simpa using h0
  have hx0 : Ext w ((w.alloc (.cells #[.int .i64 floor, .int .i64 term, .int .i64 vote, .slice A n c] 45)).alloc (.cells #[.int .i64 0, .int .i64 0, .int .i64 0, .slice none 0 0] 45)) := ((Ext.refl w).alloc _).alloc _
  clear hes hR hgo
  go_enter Try.func40, Try.ntmps40
  go_wp2
  go_loopw [6] (fun i wr => Ext w wr ∧ Blk wr (w.heap.size + 1) 45 [.int .i64 0, .int .i64 0, .int .i64 0, .slice none 0 0] ∧ ((i = .int .i64 0 ∧ Blk wr w.heap.size 45 [.int .i64 floor, .int .i64 term, .int .i64 vote, .slice A n c]) ∨ (i = .int .i64 1 ∧ ∃ A' c', Blk wr w.heap.size 45 [.int .i64 floor, .int .i64 t, .int .i64 who, .slice A' n c'] ∧ wr.ownsRow (w.heap.size + 2) 36 2 (.slice A' n c') n (logOf l)))) (fun i _ => 1 - (intOf i).toNat)
  case atStart => exact ⟨hx0, hB1, .inl ⟨rfl, hB0⟩⟩
  case round =>
    obtain ⟨hx, hB1, ⟨rfl, hB0⟩ | ⟨rfl, A', c', hB0, hown⟩⟩ := hrel
    · replace d0 := hx.cell d0
      replace d1 := hx.cell d1
      replace d2 := hx.cell d2
      replace d3 := hx.cell d3
      have a0 := hB0.cell 0
      have a1 := hB0.cell 1
      have a2 := hB0.cell 2
      have a3 := hB0.cell 3
      simp only [List.getElem?_cons_zero, List.getElem?_cons_succ] at a0 a1 a2 a3
      go_wp2_with fail
      go_region_held3 (fun w' => w'.cell? ⟨b, off, none⟩ = some (.int .i64 2) ∧ w'.cell? ⟨b, off + 1, none⟩ = some (.int .i64 t) ∧ w'.cell? ⟨b, off + 2, none⟩ = some (.int .i64 who) ∧ w'.cell? ⟨b, off + 3, none⟩ = some (.slice none 0 0) ∧ w'.cell? ⟨w.heap.size, 0, none⟩ = some (.int .i64 floor) ∧ w'.cell? ⟨w.heap.size, 1, none⟩ = some (.int .i64 term) ∧ w'.cell? ⟨w.heap.size, 2, none⟩ = some (.int .i64 vote) ∧ w'.cell? ⟨w.heap.size, 3, none⟩ = some (.slice A n c))
        (first | (with_reducible exact ⟨x02.cell d0, x02.cell d1, x02.cell d2, x02.cell d3, x02.cell a0, x02.cell a1, x02.cell a2, x02.cell a3⟩) | (with_reducible exact ⟨(x02.alloc _).cell d0, (x02.alloc _).cell d1, (x02.alloc _).cell d2, (x02.alloc _).cell d3, (x02.alloc _).cell a0, (x02.alloc _).cell a1, (x02.alloc _).cell a2, (x02.alloc _).cell a3⟩) | (exact ⟨(Ext.setCell (Ext.setCell (Ext.setCell (Ext.setCell x02 (Nat.le_refl _) _) (Nat.le_refl _) _) (Nat.le_refl _) _) (Nat.le_refl _) _).cell d0, (Ext.setCell (Ext.setCell (Ext.setCell (Ext.setCell x02 (Nat.le_refl _) _) (Nat.le_refl _) _) (Nat.le_refl _) _) (Nat.le_refl _) _).cell d1, (Ext.setCell (Ext.setCell (Ext.setCell (Ext.setCell x02 (Nat.le_refl _) _) (Nat.le_refl _) _) (Nat.le_refl _) _) (Nat.le_refl _) _).cell d2, (Ext.setCell (Ext.setCell (Ext.setCell (Ext.setCell x02 (Nat.le_refl _) _) (Nat.le_refl _) _) (Nat.le_refl _) _) (Nat.le_refl _) _).cell d3, (Ext.setCell (Ext.setCell (Ext.setCell (Ext.setCell x02 (Nat.le_refl _) _) (Nat.le_refl _) _) (Nat.le_refl _) _) (Nat.le_refl _) _).cell a0, (Ext.setCell (Ext.setCell (Ext.setCell (Ext.setCell x02 (Nat.le_refl _) _) (Nat.le_refl _) _) (Nat.le_refl _) _) (Nat.le_refl _) _).cell a1, (Ext.setCell (Ext.setCell (Ext.setCell (Ext.setCell x02 (Nat.le_refl _) _) (Nat.le_refl _) _) (Nat.le_refl _) _) (Nat.le_refl _) _).cell a2, (Ext.setCell (Ext.setCell (Ext.setCell (Ext.setCell x02 (Nat.le_refl _) _) (Nat.le_refl _) _) (Nat.le_refl _) _) (Nat.le_refl _) _).cell a3⟩) | go_keep)
        ((go_at_call 49; refine (HS.out _ (by first | exact hx.drew | exact (hx.alloc _).drew)).mono ?_; rintro e w2 ⟨v2, rfl, hown2, x2⟩; obtain ⟨A2, k2, rfl, _⟩ := own_form hown2; have x02 : Ext wr w2 := (by first | exact (Ext.refl wr).drew.trans x2 | exact ((Ext.refl wr).alloc _).drew.trans x2); first | (have NB : Blk w2 wr.heap.size 45 [.int .i64 0, .int .i64 0, .int .i64 0, .slice none 0 0] := (Blk.new wr _ _).drew.ext x2; have n0 := NB.cell 0; have n1 := NB.cell 1; have n2 := NB.cell 2; have n3 := NB.cell 3; have m0 := NB.frozen 0; have m1 := NB.frozen 1; have m2 := NB.frozen 2; have m3 := NB.frozen 3; simp only [List.getElem?_cons_zero, List.getElem?_cons_succ] at n0 n1 n2 n3; have HNB := Lib.hid NB; clear NB) | skip))
      · have hlt1 := hB1.lt
        have BT : Blk (w2.alloc (.cells #[.int .i64 floor, .int .i64 t, .int .i64 who, .slice A2 n k2] 45)) (w2.heap.size) 45 [.int .i64 floor, .int .i64 t, .int .i64 who, .slice A2 n k2] := Blk.new w2 _ [.int .i64 floor, .int .i64 t, .int .i64 who, .slice A2 n k2]
        have Y := x02.alloc (.cells #[.int .i64 floor, .int .i64 t, .int .i64 who, .slice A2 n k2] 45)
        have B0 := hB0.ext Y
        have B1 := hB1.ext Y
        have hxW := hx.trans Y
        have OW := own_base (base' := w.heap.size + 2) (hown2.alloc (.cells #[.int .i64 floor, .int .i64 t, .int .i64 who, .slice A2 n k2] 45)) (by simp; omega)
        clear hB0 hB1 hown2 x2 x02 a0 a1 a2 a3 d0 d1 d2 d3 Y
        generalize (w2.alloc (.cells #[.int .i64 floor, .int .i64 t, .int .i64 who, .slice A2 n k2] 45)) = W at *
        have t0 := BT.cell 0
        have t1 := BT.cell 1
        have t2 := BT.cell 2
        have t3 := BT.cell 3
        have f0 := B0.frozen 0
        have f1 := B0.frozen 1
        have f2 := B0.frozen 2
        have f3 := B0.frozen 3
        have a0 := B0.cell 0
        have a1 := B0.cell 1
        have a2 := B0.cell 2
        have a3 := B0.cell 3
        have hltT := BT.lt
        have hlt0 := B0.lt
        simp only [List.getElem?_cons_zero, List.getElem?_cons_succ] at t0 t1 t2 t3 a0 a1 a2 a3
        have HB0 := Lib.hid B0; clear B0
        have HB1 := Lib.hid B1; clear B1
        have HBT := Lib.hid BT; clear BT
        go_wp2
        go_roundw
        case rel =>
          refine ⟨?_, ?_, .inr ⟨rfl, A2, k2, ?_, ?_⟩⟩
          · repeat (refine Ext.setCell ?_ (Nat.le_refl _) _)
            exact hxW
          · exact (((HB1.out.far (p := ⟨w.heap.size, 0, none⟩) (by dsimp only; omega) _).far (p := ⟨w.heap.size, 1, none⟩) (by dsimp only; omega) _).far (p := ⟨w.heap.size, 2, none⟩) (by dsimp only; omega) _).far (p := ⟨w.heap.size, 3, none⟩) (by dsimp only; omega) _
          · exact (((HB0.out.set_ 0 _).set_ 1 _).set_ 2 _).set_ 3 _
          · exact own_set (own_set (own_set (own_set OW (by dsimp only; omega) _) (by dsimp only; omega) _) (by dsimp only; omega) _) (by dsimp only; omega) _
        case measure => simp [intOf]
      · have hlt1 := hB1.lt
        have BT : Blk ((((w2.setCell ⟨wr.heap.size, 0, none⟩ (.int .i64 floor)).setCell ⟨wr.heap.size, 1, none⟩ (.int .i64 t)).setCell ⟨wr.heap.size, 2, none⟩ (.int .i64 who)).setCell ⟨wr.heap.size, 3, none⟩ (.slice A2 n k2)) (wr.heap.size) 45 [.int .i64 floor, .int .i64 t, .int .i64 who, .slice A2 n k2] := (((HNB.out.set_ 0 _).set_ 1 _).set_ 2 _).set_ 3 _
        have Y := ((((x02.setCell (p := ⟨wr.heap.size, 0, none⟩) (Nat.le_refl _) (.int .i64 floor)).setCell (p := ⟨wr.heap.size, 1, none⟩) (Nat.le_refl _) (.int .i64 t)).setCell (p := ⟨wr.heap.size, 2, none⟩) (Nat.le_refl _) (.int .i64 who)).setCell (p := ⟨wr.heap.size, 3, none⟩) (Nat.le_refl _) (.slice A2 n k2))
        have B0 := hB0.ext Y
        have B1 := hB1.ext Y
        have hxW := hx.trans Y
        have OW := own_base (base' := w.heap.size + 2) (own_set (own_set (own_set (own_set hown2 (p := ⟨wr.heap.size, 0, none⟩) (by simp) (.int .i64 floor)) (p := ⟨wr.heap.size, 1, none⟩) (by simp) (.int .i64 t)) (p := ⟨wr.heap.size, 2, none⟩) (by simp) (.int .i64 who)) (p := ⟨wr.heap.size, 3, none⟩) (by simp) (.slice A2 n k2)) (by simp; omega)
        clear hB0 hB1 hown2 x2 x02 a0 a1 a2 a3 d0 d1 d2 d3 Y
        generalize ((((w2.setCell ⟨wr.heap.size, 0, none⟩ (.int .i64 floor)).setCell ⟨wr.heap.size, 1, none⟩ (.int .i64 t)).setCell ⟨wr.heap.size, 2, none⟩ (.int .i64 who)).setCell ⟨wr.heap.size, 3, none⟩ (.slice A2 n k2)) = W at *
        have t0 := BT.cell 0
        have t1 := BT.cell 1
        have t2 := BT.cell 2
        have t3 := BT.cell 3
        have f0 := B0.frozen 0
        have f1 := B0.frozen 1
        have f2 := B0.frozen 2
        have f3 := B0.frozen 3
        have a0 := B0.cell 0
        have a1 := B0.cell 1
        have a2 := B0.cell 2
        have a3 := B0.cell 3
        have hltT := BT.lt
        have hlt0 := B0.lt
        simp only [List.getElem?_cons_zero, List.getElem?_cons_succ] at t0 t1 t2 t3 a0 a1 a2 a3
        have HB0 := Lib.hid B0; clear B0
        have HB1 := Lib.hid B1; clear B1
        have HBT := Lib.hid BT; clear BT
        go_wp2
        go_roundw
        case rel =>
          refine ⟨?_, ?_, .inr ⟨rfl, A2, k2, ?_, ?_⟩⟩
          · repeat (refine Ext.setCell ?_ (Nat.le_refl _) _)
            exact hxW
          · exact (((HB1.out.far (p := ⟨w.heap.size, 0, none⟩) (by dsimp only; omega) _).far (p := ⟨w.heap.size, 1, none⟩) (by dsimp only; omega) _).far (p := ⟨w.heap.size, 2, none⟩) (by dsimp only; omega) _).far (p := ⟨w.heap.size, 3, none⟩) (by dsimp only; omega) _
          · exact (((HB0.out.set_ 0 _).set_ 1 _).set_ 2 _).set_ 3 _
          · exact own_set (own_set (own_set (own_set OW (by dsimp only; omega) _) (by dsimp only; omega) _) (by dsimp only; omega) _) (by dsimp only; omega) _
        case measure => simp [intOf]
    · have a0 := hB0.cell 0
      have a1 := hB0.cell 1
      have a2 := hB0.cell 2
      have a3 := hB0.cell 3
      have z0 := hB1.cell 0
      have z1 := hB1.cell 1
      have z2 := hB1.cell 2
      have z3 := hB1.cell 3
      have f0 := hB1.frozen 0
      have f1 := hB1.frozen 1
      have f2 := hB1.frozen 2
      have f3 := hB1.frozen 3
      have hlt1 := hB1.lt
      have hlt0 := hB0.lt
      simp only [List.getElem?_cons_zero, List.getElem?_cons_succ] at a0 a1 a2 a3 z0 z1 z2 z3
      clear hB0 hB1
      go_wp2
      refine bodyPost_ret (v := .tuple #[.agg #[.int .i64 floor, .int .i64 t, .int .i64 who, .slice A' n c'], .int .i64 0]) (by simp [results, Try.results40, go_sem, z0, z1, z2, z3]) rfl ⟨_, rfl, ?_, ?_⟩
      · refine own_base (base := w.heap.size + 2) ?_ (by omega)
        exact own_set (own_set (own_set (own_set hown (by dsimp only; omega) _) (by dsimp only; omega) _) (by dsimp only; omega) _) (by dsimp only; omega) _
      · exact Ext.setCell (Ext.setCell (Ext.setCell (Ext.setCell hx (by dsimp only; omega) _) (by dsimp only; omega) _) (by dsimp only; omega) _) (by dsimp only; omega) _
end Go.Proofs.Ytcdnjhcddbkciaa
