/- The walk of coracleref01.Put. -/
import Derived.Test.YtcdnjhcddbkciaaProg
import Derived.Test.YtcdnjhcddbkciaaVarint
namespace Go.Proofs.Ytcdnjhcddbkciaa
open Go.RowKit

theorem u8_info : (Try.prog.info? 5).map (fun i => (i.zero, i.size, i.bytes)) = some (some (.int .u8 0), 1, 1) := by kernel_rfl
theorem bytesT : SliceT Try.prog 34 5 1 1 := .mk' Try.underlying34 (z := .int .u8 0) (by kernel_rfl) rfl

set_option maxRecDepth 100000 in
set_option maxHeartbeats 400000 in
theorem ref01_Put (n : Nat) (hn : U64 n) (w : World) :
    Calls Try.prog 74 #[.int .u64 n] w fun e w' => ∃ v, e = .returned v ∧ w'.ownsRow w.heap.size 5 1 v (vput n).length ((vput n).map bv) ∧ Ext w w' := by
  have hle : vsize n ≤ 10 := hn.size
  go_enter Try.func74, Try.ntmps74
  go_wp2
  have h0 := own_empty w 5 1
  go_loopw [0, 3] (fun a s wr => ∃ (m : Nat) (l : List UInt8), a = .int .u64 m ∧ wr.ownsRow w.heap.size 5 1 s l.length (l.map bv) ∧ vput n = l ++ vput m ∧ m ≤ n ∧ Ext w wr) (fun a _ _ => (intOf a).toNat)
  case atStart => exact ⟨n, [], rfl, h0, rfl, Nat.le_refl _, (Ext.refl w).alloc _⟩
  case round =>
    obtain ⟨m, l, rfl, hown, hl, hm, hx⟩ := hrel
    have hlen : l.length + vsize m = vsize n := by rw [← vput_len, ← vput_len, hl, List.length_append]
    have hlen' : l.length ≤ 10 := by omega
    have Hlen := Lib.hid hlen; clear hlen
    have Hl := Lib.hid hl; clear hl
    have hsz := hx.size
    by_cases h : m < 128
    · go_wp2_with (at_builtin; refine wpList_app bytesT (by omega) _ rfl rfl rfl (hown.alloc _) rfl (rd_new1 _ (.int .u8 m) _) (one1 rfl) (by unfold maxLen; omega) (by omega) (by simp; omega) ?_; intro v1 w1 hown1 hg1 hat1)
      go_ret
      refine ⟨v1, rfl, ?_, Below.app (hx.alloc _) hg1 (by simp; omega) (hown.alloc _) (Nat.le_refl _)⟩
      rw [Hl.out, vput_small h]
      simpa [bv_ofNat (show m < 256 by omega)] using hown1
    · have hh : 128 ≤ m := by omega
      go_wp2_with (at_builtin; refine wpList_app bytesT (by omega) _ rfl rfl rfl (hown.alloc _) rfl (rd_new1 _ (.int .u8 (m % 128 + 128)) _) (one1 rfl) (by unfold maxLen; omega) (by omega) (by simp; omega) ?_; intro v1 w1 hown1 hg1 hat1)
      go_roundw
      case rel =>
        refine ⟨m / 128, l ++ [UInt8.ofNat (m % 128 + 128)], ?_, ?_, by rw [Hl.out, vput_big h]; simp, by omega, Below.app (hx.alloc _) hg1 (by simp; omega) (hown.alloc _) (Nat.le_refl _)⟩
        · exact val_int ((hn.le hm).div 128).wrap
        · simpa [bv_ofNat (show m % 128 + 128 < 256 by omega), -UInt8.ofNat_add] using hown1
      case measure =>
        have : IntKind.u64.wrap ((m : Int) / 128) = ((m / 128 : Nat) : Int) := ((hn.le hm).div 128).wrap
        simp only [intOf, this]; omega

end Go.Proofs.Ytcdnjhcddbkciaa
