/- The walk of tlv.field. -/
import Derived.Test.YtjfohlnkdagjcaaSplit
import Derived.Test.YtjfohlnkdagjcaaRec
namespace Go.Proofs.Ytjfohlnkdagjcaa
open Go.RowKit

set_option maxRecDepth 100000 in
set_option maxHeartbeats 800000 in
theorem tlv_field_n (A : Option Addr) (n c : Nat) (l : List UInt8) (num s N k : Nat) (w : World) (hb : Bs w A n l) (hn : n ≤ 100000) (hnc : n ≤ c) (hs : s ≤ n)
    (ht : ttake l = (num, 0, s, 0)) (hv : vtake (l.drop s) = (N, k, 0)) :
    Calls Try.prog 57 #[.slice A n c] w fun e w' => e = .returned (.agg #[.int .i64 num, .int .i64 0, .int .u64 N, .slice none 0 0]) ∧ Ext w w' := by
  obtain ⟨A', c', hc', hsl, hb'⟩ := cut_bytes (P := Try.prog) bytesT A hs hnc (s : Int) rfl
  have C1 := Lib.hid (fun (w' : World) (h : Ext w w') => tag_Take A n c l w' (hb.ext h) (by omega))
  have C2 := Lib.hid (fun (w' : World) (h : Ext w w') => varint_Take A' (n - s) c' _ w' (hb' _ _ (hb.ext h)) (by omega))
  rw [ht] at C1
  rw [hv] at C2
  unfold tq at C1
  clear hb hb' ht hv
  go_enter Try.func57, Try.ntmps57
  go_wp2_with fail
  refine (C1.out _ ((Ext.refl w).alloc _)).mono ?_
  rintro e w1 ⟨rfl, rfl⟩
  go_wp2_with fail
  refine (C2.out _ ((Ext.refl w).alloc _)).mono ?_
  rintro e w2 ⟨rfl, rfl⟩
  go_wp2
  refine bodyPost_ret (v := .agg #[.int .i64 num, .int .i64 0, .int .u64 N, .slice none 0 0]) (by simp [results, Try.results57, go_sem]) rfl ⟨rfl, ?_⟩
  repeat (refine Ext.setCell ?_ (by simp) _)
  exact (Ext.refl w).alloc _

set_option maxRecDepth 100000 in
set_option maxHeartbeats 800000 in
theorem tlv_field_b (A : Option Addr) (n c : Nat) (l : List UInt8) (num s N k : Nat) (w : World) (hb : Bs w A n l) (hn : n ≤ 100000) (hnc : n ≤ c) (hs : s + k ≤ n)
    (ht : ttake l = (num, 2, s, 0)) (hv : vtake (l.drop s) = (N, k, 0)) :
    Calls Try.prog 57 #[.slice A n c] w fun e w' => ∃ v, e = .returned (.agg #[.int .i64 num, .int .i64 2, .int .u64 0, v]) ∧ w'.ownsRow w.heap.size 5 1 v (n - (s + k)) ((l.drop (s + k)).map bv) ∧ Ext w w' := by
  obtain ⟨A', c', hc', hsl, hb'⟩ := cut_bytes (P := Try.prog) bytesT A (show s ≤ n by omega) hnc (s : Int) rfl
  obtain ⟨A2, c2, hc2, hsl2, hb2⟩ := cut_bytes (P := Try.prog) bytesT A hs hnc ((s : Int) + (k : Int)) (by omega)
  have C1 := Lib.hid (fun (w' : World) (h : Ext w w') => tag_Take A n c l w' (hb.ext h) (by omega))
  have C2 := Lib.hid (fun (w' : World) (h : Ext w w') => varint_Take A' (n - s) c' _ w' (hb' _ _ (hb.ext h)) (by omega))
  rw [ht] at C1
  rw [hv] at C2
  unfold tq at C1
  have hbc := hb2 _ _ (hb.ext ((Ext.refl w).alloc (.cells #[.int .i64 0, .int .i64 0, .int .u64 0, .slice none 0 0] 42)))
  have hB0 := Blk.new w 42 [.int .i64 0, .int .i64 0, .int .u64 0, .slice none 0 0]
  have hnil := World.ownsRow_nil (w.alloc (.cells #[.int .i64 0, .int .i64 0, .int .u64 0, .slice none 0 0] 42)) (w.heap.size + 1) 5 1
  clear hb hb' hb2 ht hv
  go_enter Try.func57, Try.ntmps57
  go_wp2_with fail
  refine (C1.out _ ((Ext.refl w).alloc _)).mono ?_
  rintro e w1 ⟨rfl, rfl⟩
  go_wp2_with fail
  refine (C2.out _ ((Ext.refl w).alloc _)).mono ?_
  rintro e w2 ⟨rfl, rfl⟩
  go_wp2_with (at_builtin; refine wpList_app bytesT (by omega) _ rfl rfl rfl hnil rfl hbc (bvs_one _) (by unfold maxLen; omega) (by omega) (by simp) ?_; intro v4 w4 hown4 hg4 hat4; have y4 : Below (w.heap.size + 1) (w.alloc (.cells #[.int .i64 0, .int .i64 0, .int .u64 0, .slice none 0 0] 42)) w4 := Below.app (Below.refl _ _) hg4 (by simp) hnil (Nat.le_refl _); obtain ⟨A4, c4, rfl, _⟩ := own_form hown4; simp only [List.nil_append, Nat.zero_add] at hown4 ⊢; have B4 : Blk w4 w.heap.size 42 [.int .i64 0, .int .i64 0, .int .u64 0, .slice none 0 0] := (y4.block w.heap.size (by omega)).trans hB0; have q0 := B4.cell 0; have q1 := B4.cell 1; have q2 := B4.cell 2; have q3 := B4.cell 3; have f0 := B4.frozen 0; have f1 := B4.frozen 1; have f2 := B4.frozen 2; have f3 := B4.frozen 3; simp only [List.getElem?_cons_zero, List.getElem?_cons_succ] at q0 q1 q2 q3; have hlt4 := B4.lt; have x4 : Ext w w4 := Below.app ((Ext.refl w).alloc _) hg4 (by simp) hnil (by omega); clear hg4 hat4 B4 y4)
  refine bodyPost_ret (v := .agg #[.int .i64 num, .int .i64 2, .int .u64 0, .slice A4 (n - (s + k)) c4]) (by simp [results, Try.results57, go_sem, q0, q1, q2, q3]) rfl ⟨_, rfl, ?_, ?_⟩
  · refine own_base (base := w.heap.size + 1) ?_ (by omega)
    repeat (refine own_set ?_ (by dsimp only; omega) _)
    exact hown4
  · repeat (refine Ext.setCell ?_ (Nat.le_refl _) _)
    exact x4
end Go.Proofs.Ytjfohlnkdagjcaa
