/- The walks of SameLog of layer 11's reference, and of Same of layer 15's, at what is alike. -/
import Derived.Test.YtcdnjhcddbkciaaElG
import Derived.Test.YtcdnjhcddbkciaaEntP
namespace Go.Proofs.Ytcdnjhcddbkciaa
open Go.RowKit

set_option maxRecDepth 100000 in
set_option maxHeartbeats 1600000 in
theorem ref11_SameLog (A A' : Option Addr) (n c c' : Nat) (l l' : List EV) (w : World) (h1 : Es w A n l) (h2 : Es w A' n l') (hp : l.map EV.p = l'.map EV.p) (hn : n ≤ 1000) :
    Calls Try.prog 23 #[.slice A n c, .slice A' n c'] w fun e w' => e = .returned (.bool true) ∧ Ext w w' := by
  have hlen := h1.len
  have hlen' := h2.len
  have HP := Lib.hid hp; clear hp
  go_enter Try.func23, Try.ntmps23
  go_wp2
  go_loopw [5] (fun i wr => ∃ j : Nat, i = .int .i64 j ∧ j ≤ n ∧ Ext w wr) (fun i _ => n - (intOf i).toNat)
  case atStart => exact ⟨0, rfl, by omega, Ext.refl w⟩
  case round =>
    obtain ⟨j, rfl, hj, hx⟩ := hrel
    by_cases hjn : j < n
    · have k1 := h1.ext hx
      have k2 := h2.ext hx
      obtain ⟨b, off, rfl, c0, c1⟩ := k1.at_ hjn
      obtain ⟨b', off', rfl, d0, d1⟩ := k2.at_ hjn
      have hb := (k1.ok l[j] (List.getElem_mem _)).bs
      have hb' := (k2.ok l'[j] (List.getElem_mem _)).bs
      obtain ⟨e1, e2⟩ := alike_at HP.out (j := j) (by omega) (by omega)
      rw [e1] at d0
      rw [e2] at hb'
      generalize l[j] = f at *
      generalize l'[j] = f' at *
      clear e1 e2
      have hs1 := fun k => str_at2 (hb.drewN k) f.cap
      have hs2 := fun k => str_at2 (hb'.drewN k) f'.cap
      have hj0 : (0 : Int) ≤ j := by omega
      have hj1 : (j : Int) < n := by omega
      clear hb hb' k1 k2 hlen hlen'
      go_wp2
      go_quiet (fail)
      go_wp2
      go_roundw
      case rel => exact ⟨j + 1, val_int (by omega), by omega, hx.drewN _⟩
      case measure => simp [intOf]; omega
    · obtain rfl : j = n := by omega
      go_wp2
      go_ret
      exact ⟨rfl, hx⟩

set_option maxRecDepth 100000 in
set_option maxHeartbeats 800000 in
theorem ref15_Same (f t v : Int) (A A' : Option Addr) (n c c' : Nat) (l l' : List EV) (w : World) (h1 : Es w A n l) (h2 : Es w A' n l') (hp : l.map EV.p = l'.map EV.p) (hn : n ≤ 1000) :
    Calls Try.prog 50 #[.agg #[.int .i64 f, .int .i64 t, .int .i64 v, .slice A n c], .agg #[.int .i64 f, .int .i64 t, .int .i64 v, .slice A' n c']] w fun e w' => e = .returned (.bool true) ∧ Ext w w' := by
  have HS := Lib.hid (fun (w' : World) (h : Ext w w') => ref11_SameLog A A' n c c' l l' w' (h1.ext h) (h2.ext h) hp hn)
  have hB0 : Blk ((w.alloc (.cells #[.int .i64 f, .int .i64 t, .int .i64 v, .slice A n c] 45)).alloc (.cells #[.int .i64 f, .int .i64 t, .int .i64 v, .slice A' n c'] 45)) w.heap.size 45 [.int .i64 f, .int .i64 t, .int .i64 v, .slice A n c] := (Blk.new w _ [.int .i64 f, .int .i64 t, .int .i64 v, .slice A n c]).alloc _
  have hB1 : Blk ((w.alloc (.cells #[.int .i64 f, .int .i64 t, .int .i64 v, .slice A n c] 45)).alloc (.cells #[.int .i64 f, .int .i64 t, .int .i64 v, .slice A' n c'] 45)) (w.heap.size + 1) 45 [.int .i64 f, .int .i64 t, .int .i64 v, .slice A' n c'] := by
    have h0 := Blk.new (w.alloc (.cells #[.int .i64 f, .int .i64 t, .int .i64 v, .slice A n c] 45)) 45 [.int .i64 f, .int .i64 t, .int .i64 v, .slice A' n c']
    simpa using h0
  clear h1 h2 hp
  go_enter Try.func50, Try.ntmps50
  go_wp2_with fail
  refine (HS.out _ (((Ext.refl w).alloc _).alloc _)).mono ?_
  rintro e w1 ⟨rfl, x1⟩
  have B0 := hB0.ext x1
  have B1 := hB1.ext x1
  have a0 := B0.cell 0
  have a1 := B0.cell 1
  have a2 := B0.cell 2
  have b0 := B1.cell 0
  have b1 := B1.cell 1
  have b2 := B1.cell 2
  simp only [List.getElem?_cons_zero, List.getElem?_cons_succ] at a0 a1 a2 b0 b1 b2
  clear hB0 hB1 B0 B1
  go_wp2
  go_ret
  exact ⟨rfl, (((Ext.refl w).alloc _).alloc _).trans x1⟩
end Go.Proofs.Ytcdnjhcddbkciaa
