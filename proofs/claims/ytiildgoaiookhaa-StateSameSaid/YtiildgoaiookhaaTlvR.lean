/- The walks of layer 3's reference: single fields. -/
import Derived.Test.YtiildgoaiookhaaTlvW
import Derived.Test.YtiildgoaiookhaaApp
namespace Go.Proofs.Ytiildgoaiookhaa
open Go.RowKit

set_option maxRecDepth 100000 in
set_option maxHeartbeats 1000000 in
theorem ref03_one (num wire n : Nat) (A : Option Addr) (len cap : Nat) (b : List UInt8) (w : World) (hm : TagMay num wire) (hn : U64 n) (hb : Bs w A len b) (hl : len ≤ 100000) :
    Calls Try.prog 101 #[.agg #[.int .i64 num, .int .i64 wire, .int .u64 n, .slice A len cap]] w fun e w' => ∃ v, e = .returned v ∧ w'.ownsRow w.heap.size 5 1 v (fput num wire n b).length ((fput num wire n b).map bv) ∧ Ext w w' := by
  have hlen := hb.len
  have hU : (vput (8 * num + wire)).length ≤ 2 := by rw [tag_len hm]; split <;> omega
  have HP := Lib.hid (fun w => ref02_Put_ok num wire hm w)
  obtain ⟨_, _, h3⟩ := hm
  unfold fput
  generalize vput (8 * num + wire) = U at *
  rcases h3 with rfl | rfl
  · rw [if_pos rfl]
    have HQ := Lib.hid (fun w => ref01_Put n hn w)
    have hQ : (vput n).length ≤ 10 := by rw [vput_len]; exact hn.size
    generalize vput n = V at *
    clear hlen hb
    go_enter Try.func101, Try.ntmps101
    go_wp2_with fail
    refine (HP.out _).mono ?_
    rintro e w1 ⟨v1, rfl, hown1, x1⟩
    have c0 : w1.cell? ⟨w.heap.size, 0, none⟩ = some (.int .i64 num) := x1.cell (by simp)
    have c1 : w1.cell? ⟨w.heap.size, 1, none⟩ = some (.int .i64 0) := x1.cell (by simp)
    have c2 : w1.cell? ⟨w.heap.size, 2, none⟩ = some (.int .u64 n) := x1.cell (by simp)
    go_wp2_with fail
    refine (HQ.out _).mono ?_
    rintro e w2 ⟨v2, rfl, hown2, x2⟩
    obtain ⟨A2, k2, rfl, _⟩ := own_form hown2
    have b2 := Bs.of_own hown2
    have hown1' := own_ext hown1 x2
    have hz := x1.size
    have hz2 := x2.size
    clear c0 c1 c2
    simp at hz
    go_wp2_with (at_builtin; refine wpList_app bytesT (by omega) _ rfl rfl rfl hown1' rfl b2 (bvs_one _) (by unfold maxLen; omega) (by omega) (by simp; omega) ?_; intro v3 w3 hown3 hg3 hat3)
    go_ret
    refine ⟨v3, rfl, ?_, ?_⟩
    · exact own_to hown3 (by simp) (by simp) (by simp)
    · exact Below.app (((Ext.refl w).alloc _).trans (x1.trans x2)) hg3 (by omega) hown1' (by simp)
  · rw [if_neg (by omega)]
    have hu : U64 len := by unfold U64; omega
    have HQ := Lib.hid (fun w => ref01_Put len hu w)
    have hQ : (vput len).length ≤ 10 := by rw [vput_len]; exact hu.size
    rw [hlen]
    generalize vput len = V at *
    go_enter Try.func101, Try.ntmps101
    go_wp2_with fail
    refine (HP.out _).mono ?_
    rintro e w1 ⟨v1, rfl, hown1, x1⟩
    have c0 : w1.cell? ⟨w.heap.size, 0, none⟩ = some (.int .i64 num) := x1.cell (by simp)
    have c1 : w1.cell? ⟨w.heap.size, 1, none⟩ = some (.int .i64 2) := x1.cell (by simp)
    have c2 : w1.cell? ⟨w.heap.size, 2, none⟩ = some (.int .u64 n) := x1.cell (by simp)
    have c3 : w1.cell? ⟨w.heap.size, 3, none⟩ = some (.slice A len cap) := x1.cell (by simp)
    have hz := x1.size
    simp at hz
    have hz' : w.heap.size < w1.heap.size := by omega
    have x01 : Ext w w1 := ((Ext.refl w).alloc _).trans x1
    have hwl : IntKind.u64.wrap (len : Int) = len := hu.wrap
    go_wp2_with fail
    go_region_held3 (fun w' => w'.cell? ⟨w.heap.size, 3, none⟩ = some (.slice A len cap))
      (first
        | go_keep
        | (exact x2.cell (by assumption))
        | (exact (Below.cell x3 (p := ⟨w.heap.size, 3, none⟩) (by simp)).trans (by assumption))
        | (exact (Below.cell x4 (p := ⟨w.heap.size, 3, none⟩) (by simp)).trans (by assumption)))
      (first
        | (go_at_call 123; refine (HQ.out _).mono ?_; rintro e w2 ⟨v2, rfl, hown2, x2⟩; obtain ⟨A2, k2, rfl, _⟩ := own_form hown2; have b2 := Bs.of_own hown2; have hown1' := own_ext (World.ownsRow.drew hown1) x2; have hz2 : w1.heap.size ≤ w2.heap.size := x2.size)
        | (refine step_app bytesT (by omega) _ rfl rfl rfl hown1' rfl b2 (bvs_one _) (by unfold maxLen; omega) (by omega) (by simp; omega) ?_; intro v3 w3 hown3 hg3 hat3; have x3 : Below (w.heap.size + 1) w2 w3 := Below.app (Below.refl _ _) hg3 (by omega) hown1' (by simp); have x03 : Ext w w3 := Below.app ((x01.drew).trans x2) hg3 (by omega) hown1' (by simp); have hb3 := hb.ext x03; have hz3 := x3.size; clear hg3 hat3)
        | (refine step_app bytesT (by omega) _ rfl rfl rfl hown3 rfl hb3 (bvs_one _) (by unfold maxLen; omega) (by omega) (by simp; omega) ?_; intro v4 w4 hown4 hg4 hat4; have x4 : Below (w.heap.size + 1) w3 w4 := Below.app (Below.refl _ _) hg4 (by omega) hown3 (by simp)))
    go_wp2
    go_ret
    exact ⟨v4, rfl, own_to hown4 (by simp) (by simp [hlen]; omega) (by simp), Below.app x03 hg4 (by omega) hown3 (by simp)⟩
end Go.Proofs.Ytiildgoaiookhaa
