/- The walks of the functions of numbers in few bytes. -/
import Derived.Test.YtiildgoaiookhaaProg
import Derived.Test.YtiildgoaiookhaaVarint
namespace Go.Proofs.Ytiildgoaiookhaa
open Go.RowKit

theorem u8_info : (Try.prog.info? 5).map (fun i => (i.zero, i.size, i.bytes)) = some (some (.int .u8 0), 1, 1) := by kernel_rfl
theorem bytesT : SliceT Try.prog 52 5 1 1 := .mk' Try.underlying52 (z := .int .u8 0) (by kernel_rfl) rfl

set_option maxRecDepth 100000 in
set_option maxHeartbeats 400000 in
theorem varint_Size (n : Nat) (hn : U64 n) (w : World) :
    Calls Try.prog 129 #[.int .u64 n] w fun e w' => e = .returned (.int .i64 (vsize n)) ∧ w = w' := by
  have hle : vsize n ≤ 10 := hn.size
  go_enter Try.func129, Try.ntmps129
  go_wp2
  go_loop [0, 3] (fun a s => ∃ m k : Nat, a = .int .u64 m ∧ s = .int .i64 (1 + k) ∧ k + vsize m = vsize n ∧ m ≤ n) (fun a _ => (intOf a).toNat)
  case atStart => exact ⟨n, 0, rfl, rfl, by omega, by omega⟩
  case round =>
    obtain ⟨m, k, rfl, rfl, hk, hm⟩ := hrel
    have h1 : 1 ≤ vsize m := vsize_pos m
    have hk' : 1 + (k:Int) ≤ 10 := by omega
    have Hk := Lib.hid hk; clear hk
    by_cases h : m < 128
    · have H : Hid (vsize m = 1) := Lib.hid (vsize_small h)
      go_wp2
      go_ret
      have hk2 := Hk.out; rw [H.out] at hk2
      exact ⟨ret_int (by omega), rfl⟩
    · have hh : 128 ≤ m := by omega
      have H : Hid (vsize m = vsize (m / 128) + 1) := Lib.hid (vsize_big h)
      go_wp2
      go_round
      case rel => exact ⟨m / 128, k + 1, by rw [Int.natCast_ediv]; rfl, by go_num, by have := Hk.out; have := H.out; omega, by omega⟩
      case measure => simp [intOf]; omega

set_option maxRecDepth 100000 in
set_option maxHeartbeats 400000 in
theorem ref01_Put (n : Nat) (hn : U64 n) (w : World) :
    Calls Try.prog 123 #[.int .u64 n] w fun e w' => ∃ v, e = .returned v ∧ w'.ownsRow w.heap.size 5 1 v (vput n).length ((vput n).map bv) ∧ Ext w w' := by
  have hle : vsize n ≤ 10 := hn.size
  go_enter Try.func123, Try.ntmps123
  go_wp2
  have h0 := own_empty w 5 1
  go_loopw [0, 3] (fun a s wr => ∃ (m : Nat) (l : List UInt8), a = .int .u64 m ∧ wr.ownsRow w.heap.size 5 1 s l.length (l.map bv) ∧ vput n = l ++ vput m ∧ m ≤ n ∧ Ext w wr) (fun a _ _ => (intOf a).toNat)
  case atStart => exact ⟨n, [], rfl, h0, rfl, Nat.le_refl _, (Ext.refl w).alloc _⟩
  case round =>
    obtain ⟨m, l, rfl, hown, hl, hm, hx⟩ := hrel
    have hlen : l.length + vsize m = vsize n := by rw [← vput_len, ← vput_len, hl, List.length_append]
    have hlen' : l.length ≤ 10 := by omega
    have Hlen := Lib.hid hlen; clear hlen
    have Hl := Lib.hid hl; clear hl
    have hsz := hx.size
    by_cases h : m < 128
    · go_wp2_with (at_builtin; refine wpList_app bytesT (by omega) _ rfl rfl rfl (hown.alloc _) rfl (rd_new1 _ (.int .u8 m) _) (one1 rfl) (by unfold maxLen; omega) (by omega) (by simp; omega) ?_; intro v1 w1 hown1 hg1 hat1)
      go_ret
      refine ⟨v1, rfl, ?_, Below.app (hx.alloc _) hg1 (by simp; omega) (hown.alloc _) (Nat.le_refl _)⟩
      rw [Hl.out, vput_small h]
      simpa [bv_ofNat (show m < 256 by omega)] using hown1
    · have hh : 128 ≤ m := by omega
      go_wp2_with (at_builtin; refine wpList_app bytesT (by omega) _ rfl rfl rfl (hown.alloc _) rfl (rd_new1 _ (.int .u8 (m % 128 + 128)) _) (one1 rfl) (by unfold maxLen; omega) (by omega) (by simp; omega) ?_; intro v1 w1 hown1 hg1 hat1)
      go_roundw
      case rel =>
        refine ⟨m / 128, l ++ [UInt8.ofNat (m % 128 + 128)], ?_, ?_, by rw [Hl.out, vput_big h]; simp, by omega, Below.app (hx.alloc _) hg1 (by simp; omega) (hown.alloc _) (Nat.le_refl _)⟩
        · exact val_int ((hn.le hm).div 128).wrap
        · simpa [bv_ofNat (show m % 128 + 128 < 256 by omega), -UInt8.ofNat_add] using hown1
      case measure =>
        have : IntKind.u64.wrap ((m : Int) / 128) = ((m / 128 : Nat) : Int) := ((hn.le hm).div 128).wrap
        simp only [intOf, this]; omega

set_option maxRecDepth 100000 in
set_option maxHeartbeats 400000 in
theorem varint_Put (n : Nat) (hn : U64 n) (w : World) :
    Calls Try.prog 115 #[.int .u64 n] w fun e w' => ∃ v, e = .returned v ∧ w'.ownsRow w.heap.size 5 1 v (vput n).length ((vput n).map bv) ∧ Ext w w' := by
  have hle : vsize n ≤ 10 := hn.size
  have hmk := fun w => run_make1 (P := Try.prog) Try.underlying52 u8_info rfl .i64 .i64 (vsize n) (by omega) (by omega) w
  go_enter Try.func115, Try.ntmps115
  go_wp2_with fail
  refine (varint_Size n hn _).mono ?_
  rintro e w' ⟨rfl, rfl⟩
  go_wp2
  go_loopw [0, 11] (fun a s wr => ∃ (m : Nat) (l : List Nat), a = .int .u64 m ∧ s = .int .i64 l.length ∧ Blk wr w.heap.size 5 (l.map nv ++ List.replicate (vsize n - l.length) (.int .u8 0)) ∧
      l.length ≤ vsize n ∧ vraw (vsize n) n = l ++ vraw (vsize n - l.length) m ∧ m ≤ n ∧ Ext w wr) (fun _ s _ => vsize n - (intOf s).toNat)
  case atStart => exact ⟨n, [], rfl, rfl, by simpa using zeros_blk w _ _ _, by simp, rfl, Nat.le_refl _, (Ext.refl w).alloc _⟩
  case round =>
    obtain ⟨m, l, rfl, rfl, hblk, hl, hv, hm, hx⟩ := hrel
    have hsz := hx.size
    have Hv := Lib.hid hv; clear hv
    by_cases h : l.length < vsize n
    · have hc : wr.cell? ⟨w.heap.size, l.length, none⟩ = some (.int .u8 0) := by
        rw [hblk.cell, List.getElem?_append_right (by simp)]; simp [List.getElem?_replicate]; omega
      have hf := hblk.frozen l.length
      go_wp2
      go_roundw
      case rel =>
        refine ⟨m / 128, l ++ [m % 128 + 128], val_int (by omega), val_int (by simp), ?_, by simp; omega, ?_, by omega, hx.setCell (by simp) _⟩
        · have h1 := hblk.set_ l.length (nv (m % 128 + 128))
          rw [replicate_cons_of_lt h, set_mid _ _ _ _ _ (by simp)] at h1
          have e := or128 (m % 256) (by omega)
          rw [show m % 256 % 128 = m % 128 by omega] at e
          have e' : bits BinOp.or IntKind.u8 ((m : Int) % 256) 128 = ((m % 128 + 128 : Nat) : Int) := e
          rw [e']
          simpa [nv] using h1
        · rw [Hv.out, show vsize n - l.length = (vsize n - (l ++ [m % 128 + 128]).length) + 1 by simp; omega, vraw]; simp
      case measure => simp [intOf]; omega
    · obtain rfl : l = vraw (vsize n) n := by
        have e := Hv.out
        rw [show vsize n - l.length = 0 by omega, vraw] at e
        simpa using e.symm
      clear Hv
      obtain ⟨x, hx128, hx1, hx2⟩ := vraw_put n
      have hlen := vraw_len (vsize n) n
      have hp := vsize_pos n
      have hblk' : Blk wr w.heap.size 5 ((vraw (vsize n) n).map nv) := by
        have := hblk
        rw [hlen, Nat.sub_self] at this
        simpa using this
      have hc : wr.cell? ⟨w.heap.size, vsize n - 1, none⟩ = some (.int .u8 ((x + 128 : Nat) : Int)) := by
        rw [hblk'.cell, List.getElem?_map, hx1]; rfl
      have hf := hblk.frozen (vsize n - 1)
      clear hblk hx1
      go_wp2
      go_ret
      refine ⟨_, rfl, ?_, hx.setCell (by simp) _⟩
      have h1 := hblk'.set_ (vsize n - 1) (nv x)
      have e' : bits BinOp.and IntKind.u8 ((x : Int) + 128) 127 = (x : Int) := by
        have := and127 (x + 128) (by omega)
        rw [show (x + 128) % 128 = x by omega] at this
        exact this
      rw [e', vput_len]
      refine own_cells (h1.own (Nat.le_refl _) (by simp [hlen]) (by unfold maxLen; omega)) ?_
      rw [← hx2, ← List.map_set]
      exact (map_nv fun y hy => by
        rcases List.mem_or_eq_of_mem_set hy with hy | rfl
        · exact (vraw_lt _ _ y hy).2
        · omega).symm

end Go.Proofs.Ytiildgoaiookhaa
