/- Words and walks that the last text of this claim stands on: VarintW, VarintT, VarintR, TagW, TagR, TagS, TagU, TagL. No condition. -/
import Derived.Test.YtiildgoaiookhaaGreatProg
import Derived.Test.YtiildgoaiookhaaGreatB01
import Derived.BigQuiet
/- The walks of the functions of numbers in few bytes. -/
namespace Go.Proofs.YtiildgoaiookhaaGreat
open Go.RowKit

theorem u8_info : (Tryz.prog.info? 5).map (fun i => (i.zero, i.size, i.bytes)) = some (some (.int .u8 0), 1, 1) := by kernel_rfl
theorem bytesT : SliceT Tryz.prog 22 5 1 1 := .mk' Tryz.underlying22 (z := .int .u8 0) (by kernel_rfl) rfl

set_option maxRecDepth 100000 in
set_option maxHeartbeats 400000 in
theorem varint_Size (n : Nat) (hn : U64 n) (w : World) :
    Calls Tryz.prog 105 #[.int .u64 n] w fun e w' => e = .returned (.int .i64 (vsize n)) ∧ w = w' := by
  have hle : vsize n ≤ 10 := hn.size
  go_enter Tryz.func105, Tryz.ntmps105
  go_wp2
  go_loop [0, 3] (fun a s => ∃ m k : Nat, a = .int .u64 m ∧ s = .int .i64 (1 + k) ∧ k + vsize m = vsize n ∧ m ≤ n) (fun a _ => (intOf a).toNat)
  case atStart => exact ⟨n, 0, rfl, rfl, by omega, by omega⟩
  case round =>
    obtain ⟨m, k, rfl, rfl, hk, hm⟩ := hrel
    have h1 : 1 ≤ vsize m := vsize_pos m
    have hk' : 1 + (k:Int) ≤ 10 := by omega
    have Hk := Lib.hid hk; clear hk
    by_cases h : m < 128
    · have H : Hid (vsize m = 1) := Lib.hid (vsize_small h)
      go_wp2
      go_ret
      have hk2 := Hk.out; rw [H.out] at hk2
      exact ⟨ret_int (by omega), rfl⟩
    · have hh : 128 ≤ m := by omega
      have H : Hid (vsize m = vsize (m / 128) + 1) := Lib.hid (vsize_big h)
      go_wp2
      go_round
      case rel => exact ⟨m / 128, k + 1, by rw [Int.natCast_ediv]; rfl, by go_num, by have := Hk.out; have := H.out; omega, by omega⟩
      case measure => simp [intOf]; omega

set_option maxRecDepth 100000 in
set_option maxHeartbeats 400000 in
theorem ref01_Put (n : Nat) (hn : U64 n) (w : World) :
    Calls Tryz.prog 85 #[.int .u64 n] w fun e w' => ∃ v, e = .returned v ∧ w'.ownsRow w.heap.size 5 1 v (vput n).length ((vput n).map bv) ∧ Ext w w' := by
  have hle : vsize n ≤ 10 := hn.size
  go_enter Tryz.func85, Tryz.ntmps85
  go_wp2
  have h0 := own_empty w 5 1
  go_loopw [0, 3] (fun a s wr => ∃ (m : Nat) (l : List UInt8), a = .int .u64 m ∧ wr.ownsRow w.heap.size 5 1 s l.length (l.map bv) ∧ vput n = l ++ vput m ∧ m ≤ n ∧ Ext w wr) (fun a _ _ => (intOf a).toNat)
  case atStart => exact ⟨n, [], rfl, h0, rfl, Nat.le_refl _, (Ext.refl w).alloc _⟩
  case round =>
    obtain ⟨m, l, rfl, hown, hl, hm, hx⟩ := hrel
    have hlen : l.length + vsize m = vsize n := by rw [← vput_len, ← vput_len, hl, List.length_append]
    have hlen' : l.length ≤ 10 := by omega
    have Hlen := Lib.hid hlen; clear hlen
    have Hl := Lib.hid hl; clear hl
    have hsz := hx.size
    by_cases h : m < 128
    · go_wp2_with (at_builtin; refine wpList_app bytesT (by omega) _ rfl rfl rfl (hown.alloc _) rfl (rd_new1 _ (.int .u8 m) _) (one1 rfl) (by unfold maxLen; omega) (by omega) (by simp; omega) ?_; intro v1 w1 hown1 hg1 hat1)
      go_ret
      refine ⟨v1, rfl, ?_, Below.app (hx.alloc _) hg1 (by simp; omega) (hown.alloc _) (Nat.le_refl _)⟩
      rw [Hl.out, vput_small h]
      simpa [bv_ofNat (show m < 256 by omega)] using hown1
    · have hh : 128 ≤ m := by omega
      go_wp2_with (at_builtin; refine wpList_app bytesT (by omega) _ rfl rfl rfl (hown.alloc _) rfl (rd_new1 _ (.int .u8 (m % 128 + 128)) _) (one1 rfl) (by unfold maxLen; omega) (by omega) (by simp; omega) ?_; intro v1 w1 hown1 hg1 hat1)
      go_roundw
      case rel =>
        refine ⟨m / 128, l ++ [UInt8.ofNat (m % 128 + 128)], ?_, ?_, by rw [Hl.out, vput_big h]; simp, by omega, Below.app (hx.alloc _) hg1 (by simp; omega) (hown.alloc _) (Nat.le_refl _)⟩
        · exact val_int ((hn.le hm).div 128).wrap
        · simpa [bv_ofNat (show m % 128 + 128 < 256 by omega), -UInt8.ofNat_add] using hown1
      case measure =>
        have : IntKind.u64.wrap ((m : Int) / 128) = ((m / 128 : Nat) : Int) := ((hn.le hm).div 128).wrap
        simp only [intOf, this]; omega

set_option maxRecDepth 100000 in
set_option maxHeartbeats 400000 in
theorem varint_Put (n : Nat) (hn : U64 n) (w : World) :
    Calls Tryz.prog 95 #[.int .u64 n] w fun e w' => ∃ v, e = .returned v ∧ w'.ownsRow w.heap.size 5 1 v (vput n).length ((vput n).map bv) ∧ Ext w w' := by
  have hle : vsize n ≤ 10 := hn.size
  have hmk := fun w => run_make1 (P := Tryz.prog) Tryz.underlying22 u8_info rfl .i64 .i64 (vsize n) (by omega) (by omega) w
  go_enter Tryz.func95, Tryz.ntmps95
  go_wp2_with fail
  refine (varint_Size n hn _).mono ?_
  rintro e w' ⟨rfl, rfl⟩
  go_wp2
  go_loopw [0, 11] (fun a s wr => ∃ (m : Nat) (l : List Nat), a = .int .u64 m ∧ s = .int .i64 l.length ∧ Blk wr w.heap.size 5 (l.map nv ++ List.replicate (vsize n - l.length) (.int .u8 0)) ∧
      l.length ≤ vsize n ∧ vraw (vsize n) n = l ++ vraw (vsize n - l.length) m ∧ m ≤ n ∧ Ext w wr) (fun _ s _ => vsize n - (intOf s).toNat)
  case atStart => exact ⟨n, [], rfl, rfl, by simpa using zeros_blk w _ _ _, by simp, rfl, Nat.le_refl _, (Ext.refl w).alloc _⟩
  case round =>
    obtain ⟨m, l, rfl, rfl, hblk, hl, hv, hm, hx⟩ := hrel
    have hsz := hx.size
    have Hv := Lib.hid hv; clear hv
    by_cases h : l.length < vsize n
    · have hc : wr.cell? ⟨w.heap.size, l.length, none⟩ = some (.int .u8 0) := by
        rw [hblk.cell, List.getElem?_append_right (by simp)]; simp [List.getElem?_replicate]; omega
      have hf := hblk.frozen l.length
      go_wp2
      go_roundw
      case rel =>
        refine ⟨m / 128, l ++ [m % 128 + 128], val_int (by omega), val_int (by simp), ?_, by simp; omega, ?_, by omega, hx.setCell (by simp) _⟩
        · have h1 := hblk.set_ l.length (nv (m % 128 + 128))
          rw [replicate_cons_of_lt h, set_mid _ _ _ _ _ (by simp)] at h1
          have e := or128 (m % 256) (by omega)
          rw [show m % 256 % 128 = m % 128 by omega] at e
          have e' : bits BinOp.or IntKind.u8 ((m : Int) % 256) 128 = ((m % 128 + 128 : Nat) : Int) := e
          rw [e']
          simpa [nv] using h1
        · rw [Hv.out, show vsize n - l.length = (vsize n - (l ++ [m % 128 + 128]).length) + 1 by simp; omega, vraw]; simp
      case measure => simp [intOf]; omega
    · obtain rfl : l = vraw (vsize n) n := by
        have e := Hv.out
        rw [show vsize n - l.length = 0 by omega, vraw] at e
        simpa using e.symm
      clear Hv
      obtain ⟨x, hx128, hx1, hx2⟩ := vraw_put n
      have hlen := vraw_len (vsize n) n
      have hp := vsize_pos n
      have hblk' : Blk wr w.heap.size 5 ((vraw (vsize n) n).map nv) := by
        have := hblk
        rw [hlen, Nat.sub_self] at this
        simpa using this
      have hc : wr.cell? ⟨w.heap.size, vsize n - 1, none⟩ = some (.int .u8 ((x + 128 : Nat) : Int)) := by
        rw [hblk'.cell, List.getElem?_map, hx1]; rfl
      have hf := hblk.frozen (vsize n - 1)
      clear hblk hx1
      go_wp2
      go_ret
      refine ⟨_, rfl, ?_, hx.setCell (by simp) _⟩
      have h1 := hblk'.set_ (vsize n - 1) (nv x)
      have e' : bits BinOp.and IntKind.u8 ((x : Int) + 128) 127 = (x : Int) := by
        have := and127 (x + 128) (by omega)
        rw [show (x + 128) % 128 = x by omega] at this
        exact this
      rw [e', vput_len]
      refine own_cells (h1.own (Nat.le_refl _) (by simp [hlen]) (by unfold maxLen; omega)) ?_
      rw [← hx2, ← List.map_set]
      exact (map_nv fun y hy => by
        rcases List.mem_or_eq_of_mem_set hy with hy | rfl
        · exact (vraw_lt _ _ y hy).2
        · omega).symm

end Go.Proofs.YtiildgoaiookhaaGreat

/- The walk of varint.Take. -/
namespace Go.Proofs.YtiildgoaiookhaaGreat
open Go.RowKit

set_option maxRecDepth 100000 in
set_option maxHeartbeats 400000 in
theorem varint_Take (A : Option Addr) (n c : Nat) (l : List UInt8) (w : World) (hb : Bs w A n l) (hn : n ≤ 1000000) :
    Calls Tryz.prog 74 #[.slice A n c] w fun e w' => e = .returned (.tuple #[.int .u64 (vtake l).1, .int .i64 (vtake l).2.1, .int .i64 (vtake l).2.2]) ∧ w = w' := by
  have hlen := hb.len
  go_enter Tryz.func74, Tryz.ntmps74
  go_wp2; go_step3; go_wp2; go_step3; go_wp2
  go_loop [5, 6, 7, 8, 9] (fun a s e _ k => ∃ (m j : Nat), a = .int .u64 m ∧ s = .int .i64 0 ∧ e = .int .i64 3 ∧ k = .int .i64 j ∧ j ≤ 10 ∧ j ≤ n ∧ m < 128 ^ j ∧ vtake l = vtk (10 - j) (l.drop j) j m) (fun _ _ _ _ k => 10 - (intOf k).toNat)
  case atStart => exact ⟨0, 0, rfl, rfl, rfl, rfl, by omega, by omega, by omega, rfl⟩
  case round =>
    obtain ⟨m, j, rfl, rfl, rfl, rfl, hj, hjn, hm, hv⟩ := hrel
    by_cases hj10 : j < 10
    · by_cases hjl : j < n
      · obtain ⟨b, off, rfl, hc⟩ := hb.at_ hjl
        have hd : l.drop j = l[j] :: l.drop (j + 1) := List.drop_eq_getElem_cons (by omega)
        rw [hd, show 10 - j = (10 - (j + 1)) + 1 by omega] at hv
        have hx256 : l[j].toNat < 256 := l[j].toNat_lt
        rw [vtk] at hv
        generalize l[j].toNat = x at hc hv hx256
        by_cases h1 : 0 < j ∧ x = 0
        · rw [if_pos h1] at hv
          have Hv := Lib.hid hv; clear hv
          obtain ⟨h1, rfl⟩ := h1
          clear hm
          go_wp2
          all_goals (try rw [Exit.noGoto_ret])
          all_goals go_ret3
          all_goals exact ⟨by rw [Hv.out]; rfl, rfl⟩
        · rw [if_neg h1] at hv
          by_cases h2 : j = 9 ∧ 1 < x
          · rw [if_pos h2] at hv
            have Hv := Lib.hid hv; clear hv
            obtain ⟨rfl, h2⟩ := h2
            clear hm
            have hx0 : ((x : Int) == 0) = false := by rw [beq_eq_false_iff_ne]; omega
            go_wp2
            all_goals (try rw [Exit.noGoto_ret])
            all_goals go_ret3
            all_goals exact ⟨by rw [Hv.out]; rfl, rfl⟩
          · rw [if_neg h2] at hv
            have h9 : j < 9 ∨ j = 9 ∧ x ≤ 1 := by omega
            have hs := take_step hm hx256 h9
            have Hs := Lib.hid hs; clear hs
            by_cases h3 : x < 128
            · rw [if_pos h3] at hv
              have Hv := Lib.hid hv; clear hv
              have Hm := Lib.hid hm; clear hm
              by_cases hj9 : j = 9
              · subst hj9
                have hx1 : ((x : Int) ≤ 1) := by omega
                have hx0 : ((x : Int) == 0) = false := by rw [beq_eq_false_iff_ne]; omega
                go_wp2
                all_goals (try rw [Exit.noGoto_ret])
                all_goals go_ret3
                all_goals exact ⟨by rw [Hv.out, ← Hs.out]; rfl, rfl⟩
              · have hj9' : ((j : Int) == 9) = false := by rw [beq_eq_false_iff_ne]; omega
                go_wp2
                all_goals (try rw [Exit.noGoto_ret])
                all_goals go_ret3
                all_goals exact ⟨by rw [Hv.out, ← Hs.out]; rfl, rfl⟩
            · rw [if_neg h3] at hv
              have Hv := Lib.hid hv; clear hv
              have Hm := Lib.hid hm; clear hm
              have h3' : 128 ≤ x := by omega
              have hj9' : ((j : Int) == 9) = false := by rw [beq_eq_false_iff_ne]; omega
              have hx0 : ((x : Int) == 0) = false := by rw [beq_eq_false_iff_ne]; omega
              go_wp2
              all_goals go_round
              all_goals first
                | (case rel => exact ⟨m + x % 128 * 128 ^ j, j + 1, val_int Hs.out, rfl, rfl, val_int (by omega), by omega, by omega, digit_lt Hm.out (by omega), by rw [Hv.out]⟩)
                | (case measure => simp [intOf]; omega)
      · obtain rfl : j = n := by omega
        have hv2 : vtake l = (0, 0, 2) := by
          rw [hv, show 10 - j = (10 - (j + 1)) + 1 by omega, List.drop_of_length_le (by omega), vtk]
        clear hv hm
        have Hv := Lib.hid hv2; clear hv2
        go_wp2
        all_goals (try rw [Exit.noGoto_ret])
        all_goals go_ret3
        all_goals exact ⟨by rw [Hv.out]; rfl, rfl⟩
    · obtain rfl : j = 10 := by omega
      have hv2 : vtake l = (0, 0, 3) := by rw [hv, Nat.sub_self, vtk]
      clear hv hm
      have Hv := Lib.hid hv2; clear hv2
      go_wp2
      all_goals (try rw [Exit.noGoto_ret])
      all_goals go_ret3
      all_goals exact ⟨by rw [Hv.out]; rfl, rfl⟩
end Go.Proofs.YtiildgoaiookhaaGreat

/- The walk of coracleref01.Take. -/
namespace Go.Proofs.YtiildgoaiookhaaGreat
open Go.RowKit

set_option maxRecDepth 100000 in
set_option maxHeartbeats 1000000 in
theorem ref01_Take (A : Option Addr) (n c : Nat) (l : List UInt8) (w : World) (hb : Bs w A n l) (hn : n ≤ 1000000) (hnc : n ≤ c) :
    Calls Tryz.prog 80 #[.slice A n c] w fun e w' => e = .returned (.tuple #[.int .u64 (vtake l).1, .int .i64 (vtake l).2.1, .int .i64 (vtake l).2.2]) ∧ Ext w w' := by
  have hlen := hb.len
  go_enter Tryz.func80, Tryz.ntmps80
  go_wp2
  go_loop [5, 6] (fun a k => ∃ (m j : Nat), a = .int .u64 m ∧ k = .int .i64 j ∧ j ≤ 10 ∧ j ≤ n ∧ U64 m ∧ (j < 10 → m = vval (l.take j) ∧ (∀ y ∈ l.take j, 128 ≤ y.toNat)) ∧ vtake l = vtk (10 - j) (l.drop j) j (vval (l.take j))) (fun _ k => 10 - (intOf k).toNat)
  case atStart => exact ⟨0, 0, rfl, rfl, by omega, by omega, by unfold U64; omega, fun _ => ⟨rfl, by simp⟩, rfl⟩
  case round =>
    obtain ⟨m, j, rfl, rfl, hj, hjn, hU, hm, hv⟩ := hrel
    by_cases hj10 : j < 10
    · by_cases hjl : j < n
      · obtain ⟨b, off, rfl, hc⟩ := hb.at_ hjl
        obtain ⟨rfl, h128⟩ := hm hj10
        clear hm
        have hd : l.drop j = l[j] :: l.drop (j + 1) := List.drop_eq_getElem_cons (by omega)
        have ht : l.take (j + 1) = l.take j ++ [l[j]] := by rw [List.take_succ_eq_append_getElem]
        have hlt : (l.take j).length = j := by rw [List.length_take]; omega
        have hmj := vval_lt (l.take j)
        rw [hlt] at hmj
        have hva := vval_append (l.take j) l[j]
        rw [hlt, ← ht] at hva
        rw [hd, show 10 - j = (10 - (j + 1)) + 1 by omega] at hv
        have hx256 : l[j].toNat < 256 := l[j].toNat_lt
        rw [vtk] at hv
        obtain ⟨N, hN, hNe, hN1, hN2⟩ := ref_sum _ l[j].toNat j hmj
        have hpos : 1 ≤ c - 0 := by omega
        by_cases h3 : l[j].toNat < 128
        · have hsame := ref_same h128 h3 (by omega) hN (by rw [hlt]; exact hN1) (by rw [hlt]; exact hN2)
          rw [hlt, ← ht] at hsame
          rw [hlt] at *
          have hB := hb.upto (hi := j + 1) (by omega)
          have HN1 := Lib.hid hN1; clear hN1
          clear hd ht hva hmj h128 hN2 hlt
          obtain ⟨x, hx⟩ : ∃ x, l[j].toNat = x := ⟨_, rfl⟩
          obtain ⟨V, hV⟩ : ∃ V, vval (l.take j) = V := ⟨_, rfl⟩
          rw [hx] at hc hv hx256 hNe h3 hsame
          rw [hV] at hv hNe hU ⊢
          have hN1 := HN1.out; clear HN1; rw [hx, hV] at hN1
          have Hx := Lib.hid hx; clear hx
          have HV := Lib.hid hV; clear hV
          have Hv := Lib.hid hv; clear hv
          have Hs := Lib.hid hsame; clear hsame
          have hs0 := run_str (P := Tryz.prog) (w := w.drew) (dst := 9) Tryz.underlying22 Tryz.underlying5 Tryz.underlying9 hB.drew c
          have hw1 : IntKind.i64.wrap ((j : Int) + 1) = (j : Int) + 1 := IntWalk.i64_in _ (by omega)
          have hw2 : ((j : Int) + 1).toNat = j + 1 := by omega
          have hw3 : (0 : Int) ≤ (j : Int) + 1 := by omega
          by_cases heq : vput N = l.take (j + 1)
          · have hq := bstr_eq heq
            have HN : Hid (N = V + x % 128 * 128 ^ j) := Lib.hid (hN1 (by have := (Hs.out.1 heq).2; omega))
            have HE : Hid (¬ (0 < j ∧ x = 0) ∧ ¬ (j = 9 ∧ 1 < x)) := Lib.hid (Hs.out.1 heq)
            clear hN1 heq
            go_wp2
            go_region_with (go_at_call 85; refine (ref01_Put N hN _).mono ?_; rintro e w1 ⟨v, rfl, hown, hx1⟩; obtain ⟨A1, c1, rfl, hc1⟩ := own_form hown; have hs1 := run_str (P := Tryz.prog) (dst := 9) Tryz.underlying22 Tryz.underlying5 Tryz.underlying9 (Bs.of_own hown) c1; have hs2 := run_str (P := Tryz.prog) (dst := 9) Tryz.underlying22 Tryz.underlying5 Tryz.underlying9 (hB.drew.ext hx1) c; clear hown)
            all_goals go_wp2
            all_goals go_ret3
            all_goals refine ⟨?_, (Ext.refl w).drew.trans hx1⟩
            all_goals rw [Hv.out, if_neg HE.out.1, if_neg HE.out.2, if_pos h3, HN.out]; rfl
          · have hq := bstr_ne heq
            have HE : Hid (¬ (¬ (0 < j ∧ x = 0) ∧ ¬ (j = 9 ∧ 1 < x))) := Lib.hid (fun h => heq (Hs.out.2 h))
            clear hN1 heq
            go_wp2
            go_region_with (go_at_call 85; refine (ref01_Put N hN _).mono ?_; rintro e w1 ⟨v, rfl, hown, hx1⟩; obtain ⟨A1, c1, rfl, hc1⟩ := own_form hown; have hs1 := run_str (P := Tryz.prog) (dst := 9) Tryz.underlying22 Tryz.underlying5 Tryz.underlying9 (Bs.of_own hown) c1; have hs2 := run_str (P := Tryz.prog) (dst := 9) Tryz.underlying22 Tryz.underlying5 Tryz.underlying9 (hB.drew.ext hx1) c; clear hown)
            all_goals go_wp2
            all_goals go_ret3
            all_goals refine ⟨?_, (Ext.refl w).drew.trans hx1⟩
            all_goals
              rw [Hv.out]
              by_cases g1 : 0 < j ∧ x = 0
              · rw [if_pos g1]; rfl
              · rw [if_neg g1, if_pos (by have := HE.out; omega)]; rfl
        · have hU2 : U64 N := hN
          have hvd : ¬ (0 < j ∧ l[j].toNat = 0) := by omega
          rw [if_neg hvd] at hv
          have ht128 : ∀ y ∈ l.take (j + 1), 128 ≤ y.toNat := by
            rw [ht]; intro y hy
            rcases List.mem_append.1 hy with hy | hy
            · exact h128 y hy
            · simp only [List.mem_singleton] at hy; subst hy; omega
          have hvn : vtake l = vtk (10 - (j + 1)) (l.drop (j + 1)) (j + 1) (vval (l.take (j + 1))) := by
            rw [hv, hva]
            by_cases g : j = 9
            · rw [if_pos ⟨g, by omega⟩, show 10 - (j + 1) = 0 by omega, vtk]
            · rw [if_neg (fun h => g h.1), if_neg h3]
          have hNn : j + 1 < 10 → N = vval (l.take (j + 1)) := fun h => by rw [hva]; exact hN1 (by omega)
          have Hvn := Lib.hid hvn
          have HNn := Lib.hid hNn
          have Ht128 := Lib.hid ht128
          clear hvn hNn ht128 hv hva ht hd hN1 hN2 hvd h128 hmj
          generalize vval (l.take j) = V at *
          have h3' : 128 ≤ l[j].toNat := by omega
          generalize l[j].toNat = x at hc hx256 hNe h3 h3'
          go_wp2
          go_round
          case rel => exact ⟨N, j + 1, rfl, val_int (by omega), by omega, by omega, hN, fun h => ⟨HNn.out h, Ht128.out⟩, Hvn.out⟩
          case measure => simp [intOf]; omega
      · obtain rfl : j = n := by omega
        have hv2 : vtake l = (0, 0, 2) := by
          rw [hv, show 10 - j = (10 - (j + 1)) + 1 by omega, List.drop_of_length_le (by omega), vtk]
        clear hv hm
        have Hv := Lib.hid hv2; clear hv2
        go_wp2
        go_ret3
        exact ⟨by rw [Hv.out]; rfl, Ext.refl w⟩
    · obtain rfl : j = 10 := by omega
      have hv2 : vtake l = (0, 0, 3) := by rw [hv, Nat.sub_self, vtk]
      clear hv hm
      have Hv := Lib.hid hv2; clear hv2
      go_wp2
      go_ret3
      exact ⟨by rw [Hv.out]; rfl, Ext.refl w⟩
end Go.Proofs.YtiildgoaiookhaaGreat

/- The walks of layer 2: tags. -/
namespace Go.Proofs.YtiildgoaiookhaaGreat
open Go.RowKit

theorem varint_Put_i (n : Nat) (x : Int) (hn : U64 n) (hx : x = n) (w : World) :
    Calls Tryz.prog 95 #[.int .u64 x] w fun e w' => ∃ v, e = .returned v ∧ w'.ownsRow w.heap.size 5 1 v (vput n).length ((vput n).map bv) ∧ Ext w w' := hx ▸ varint_Put n hn w
theorem ref01_Put_i (n : Nat) (x : Int) (hn : U64 n) (hx : x = n) (w : World) :
    Calls Tryz.prog 85 #[.int .u64 x] w fun e w' => ∃ v, e = .returned v ∧ w'.ownsRow w.heap.size 5 1 v (vput n).length ((vput n).map bv) ∧ Ext w w' := hx ▸ ref01_Put n hn w

set_option maxRecDepth 100000 in
set_option maxHeartbeats 400000 in
theorem tag_Put_no (num wire : Int) (hno : ¬ (1 ≤ num ∧ num ≤ 1000 ∧ (wire = 0 ∨ wire = 2))) (w : World) :
    Calls Tryz.prog 94 #[.int .i64 num, .int .i64 wire] w fun e w' => e = .returned (.tuple #[.slice none 0 0, .int .i64 1]) ∧ w = w' := by
  have h4 : num < 1 ∨ 1000 < num ∧ ¬ num < 1 ∨ (¬ num < 1 ∧ ¬ 1000 < num ∧ wire ≠ 0 ∧ wire ≠ 2) := by omega
  clear hno
  rcases h4 with h | ⟨h, h'⟩ | ⟨h1, h2, h3, h4⟩
  · go_enter Tryz.func94, Tryz.ntmps94
    go_wp2
    go_ret2
    exact ⟨rfl, rfl⟩
  · go_enter Tryz.func94, Tryz.ntmps94
    go_wp2
    go_ret2
    exact ⟨rfl, rfl⟩
  · have h3' := bne_t h3
    have h4' := bne_t h4
    clear h3 h4
    go_enter Tryz.func94, Tryz.ntmps94
    go_wp2
    go_ret2
    exact ⟨rfl, rfl⟩

set_option maxRecDepth 100000 in
set_option maxHeartbeats 400000 in
theorem tag_Put_ok (num wire : Nat) (hm : TagMay num wire) (w : World) :
    Calls Tryz.prog 94 #[.int .i64 num, .int .i64 wire] w fun e w' => ∃ v, e = .returned (.tuple #[v, .int .i64 0]) ∧ w'.ownsRow w.heap.size 5 1 v (vput (8 * num + wire)).length ((vput (8 * num + wire)).map bv) ∧ Ext w w' := by
  obtain ⟨h1, h2, h3⟩ := hm
  have hu : U64 (8 * num + wire) := by unfold U64; omega
  rcases h3 with rfl | rfl
  · go_enter Tryz.func94, Tryz.ntmps94
    go_wp2_with fail
    refine (varint_Put_i _ _ hu (by omega) _).mono ?_
    rintro e w1 ⟨v, rfl, hown, hx⟩
    go_wp2
    go_ret2
    exact ⟨v, rfl, hown, hx⟩
  · go_enter Tryz.func94, Tryz.ntmps94
    go_wp2_with fail
    refine (varint_Put_i _ _ hu (by omega) _).mono ?_
    rintro e w1 ⟨v, rfl, hown, hx⟩
    go_wp2
    go_ret2
    exact ⟨v, rfl, hown, hx⟩

set_option maxRecDepth 100000 in
set_option maxHeartbeats 400000 in
theorem ref02_Put_no (num wire : Int) (hno : ¬ (1 ≤ num ∧ num ≤ 1000 ∧ (wire = 0 ∨ wire = 2))) (w : World) :
    Calls Tryz.prog 101 #[.int .i64 num, .int .i64 wire] w fun e w' => e = .returned (.tuple #[.slice none 0 0, .int .i64 1]) ∧ w = w' := by
  have h4 : num < 1 ∨ 1000 < num ∧ ¬ num < 1 ∨ (¬ num < 1 ∧ ¬ 1000 < num ∧ wire ≠ 0 ∧ wire ≠ 2) := by omega
  clear hno
  rcases h4 with h | ⟨h, h'⟩ | ⟨h1, h2, h3, h4⟩
  · go_enter Tryz.func101, Tryz.ntmps101
    go_wp2
    go_ret2
    exact ⟨rfl, rfl⟩
  · go_enter Tryz.func101, Tryz.ntmps101
    go_wp2
    go_ret2
    exact ⟨rfl, rfl⟩
  · have h3' := bne_t h3
    have h4' := bne_t h4
    clear h3 h4
    go_enter Tryz.func101, Tryz.ntmps101
    go_wp2
    go_ret2
    exact ⟨rfl, rfl⟩

set_option maxRecDepth 100000 in
set_option maxHeartbeats 400000 in
theorem ref02_Put_ok (num wire : Nat) (hm : TagMay num wire) (w : World) :
    Calls Tryz.prog 101 #[.int .i64 num, .int .i64 wire] w fun e w' => ∃ v, e = .returned (.tuple #[v, .int .i64 0]) ∧ w'.ownsRow w.heap.size 5 1 v (vput (8 * num + wire)).length ((vput (8 * num + wire)).map bv) ∧ Ext w w' := by
  obtain ⟨h1, h2, h3⟩ := hm
  have hu : U64 (8 * num + wire) := by unfold U64; omega
  rcases h3 with rfl | rfl
  · go_enter Tryz.func101, Tryz.ntmps101
    go_wp2_with fail
    refine (ref01_Put_i _ _ hu (by omega) _).mono ?_
    rintro e w1 ⟨v, rfl, hown, hx⟩
    go_wp2
    go_ret2
    exact ⟨v, rfl, hown, hx⟩
  · go_enter Tryz.func101, Tryz.ntmps101
    go_wp2_with fail
    refine (ref01_Put_i _ _ hu (by omega) _).mono ?_
    rintro e w1 ⟨v, rfl, hown, hx⟩
    go_wp2
    go_ret2
    exact ⟨v, rfl, hown, hx⟩


theorem results_tmp4 {fn : Func} {t u v x : Tmp} (h : fn.results = #[.tmp t, .tmp u, .tmp v, .tmp x]) (tmps : Array Value) (P : Program) (w : World) :
    (results fn tmps).run P w = .ok (.tuple #[tmps.getD t undef, tmps.getD u undef, tmps.getD v undef, tmps.getD x undef]) w := by simp [results, h]
/-- what a tag's taking gives -/
def tq (q : Nat × Nat × Nat × Nat) : Ending := .returned (.tuple #[.int .i64 q.1, .int .i64 q.2.1, .int .i64 q.2.2.1, .int .i64 q.2.2.2])
theorem tq_mk {a b c d : Int} {q : Nat × Nat × Nat × Nat} (h1 : a = q.1) (h2 : b = q.2.1) (h3 : c = q.2.2.1) (h4 : d = q.2.2.2) : Ending.returned (.tuple #[.int .i64 a, .int .i64 b, .int .i64 c, .int .i64 d]) = tq q := by
  rw [h1, h2, h3, h4]; rfl

set_option maxRecDepth 100000 in
set_option maxHeartbeats 400000 in
theorem tag_Take (A : Option Addr) (n c : Nat) (l : List UInt8) (w : World) (hb : Bs w A n l) (hn : n ≤ 1000000) :
    Calls Tryz.prog 72 #[.slice A n c] w fun e w' => e = tq (ttake l) ∧ w = w' := by
  have ct := varint_Take A n c l w hb hn
  clear hb
  have bad : ∀ e : Nat, (e = 2 ∨ e = 3) → vtake l = (0, 0, e) → ttake l = (0, 0, 0, e) := by
    intro e he h
    unfold ttake; rw [h]; rcases he with rfl | rfl <;> rfl
  rcases vtake_cases l with ⟨h, _⟩ | h | ⟨N, s, h, hN, h1, h2, h3⟩
  · rw [bad 2 (.inl rfl) h]
    simp only [h] at ct
    clear h bad
    go_enter Tryz.func72, Tryz.ntmps72
    go_wp2_with fail
    refine ct.mono ?_
    rintro e w1 ⟨rfl, rfl⟩
    go_wp2
    exact bodyPost_ret (results_tmp4 rfl _ _ _) rfl ⟨rfl, rfl⟩
  · rw [bad 3 (.inr rfl) h]
    simp only [h] at ct
    clear h bad
    go_enter Tryz.func72, Tryz.ntmps72
    go_wp2_with fail
    refine ct.mono ?_
    rintro e w1 ⟨rfl, rfl⟩
    go_wp2
    exact bodyPost_ret (results_tmp4 rfl _ _ _) rfl ⟨rfl, rfl⟩
  · simp only [h] at ct
    have hwr : IntKind.u64.wrap ((N : Int) / 8) = (N : Int) / 8 := (hN.div 8).wrap
    by_cases hm : TagMay (N / 8) (N % 8)
    · have ht : ttake l = (N / 8, N % 8, s, 0) := by unfold ttake; rw [h]; simp [hm]
      rw [ht]
      clear ht h bad
      obtain ⟨h4, h5, h6⟩ := hm
      rcases h6 with h6 | h6
      · have g : ((N : Int) % 8 != 0) = false := bne_f (by omega)
        go_enter Tryz.func72, Tryz.ntmps72
        go_wp2_with fail
        refine ct.mono ?_
        rintro e w1 ⟨rfl, rfl⟩
        go_wp2
        refine bodyPost_ret (results_tmp4 rfl _ _ _) rfl ?_
        exact ⟨tq_mk (q := (N / 8, N % 8, s, 0)) (by dsimp only; omega) (by dsimp only; omega) rfl rfl, rfl⟩
      · have g : ((N : Int) % 8 != 0) = true := bne_t (by omega)
        have g' : ((N : Int) % 8 != 2) = false := bne_f (by omega)
        clear h6
        go_enter Tryz.func72, Tryz.ntmps72
        go_wp2_with fail
        refine ct.mono ?_
        rintro e w1 ⟨rfl, rfl⟩
        go_wp2
        refine bodyPost_ret (results_tmp4 rfl _ _ _) rfl ?_
        exact ⟨tq_mk (q := (N / 8, N % 8, s, 0)) (by dsimp only; omega) (by dsimp only; omega) rfl rfl, rfl⟩
    · have ht : ttake l = (0, 0, 0, 6) := by unfold ttake; rw [h]; simp [hm]
      rw [ht]
      clear ht h bad
      have h7 : (N : Int) / 8 < 1 ∨ (1 ≤ (N : Int) / 8 ∧ 1000 < (N : Int) / 8) ∨ (1 ≤ (N : Int) / 8 ∧ (N : Int) / 8 ≤ 1000 ∧ (N : Int) % 8 ≠ 0 ∧ (N : Int) % 8 ≠ 2) := by
        unfold TagMay at hm; omega
      clear hm
      rcases h7 with h7 | ⟨h7, h8⟩ | ⟨h7, h8, h9, h10⟩
      · go_enter Tryz.func72, Tryz.ntmps72
        go_wp2_with fail
        refine ct.mono ?_
        rintro e w1 ⟨rfl, rfl⟩
        go_wp2
        exact bodyPost_ret (results_tmp4 rfl _ _ _) rfl ⟨rfl, rfl⟩
      · go_enter Tryz.func72, Tryz.ntmps72
        go_wp2_with fail
        refine ct.mono ?_
        rintro e w1 ⟨rfl, rfl⟩
        go_wp2
        exact bodyPost_ret (results_tmp4 rfl _ _ _) rfl ⟨rfl, rfl⟩
      · have g := bne_t h9
        have g' := bne_t h10
        clear h9 h10
        go_enter Tryz.func72, Tryz.ntmps72
        go_wp2_with fail
        refine ct.mono ?_
        rintro e w1 ⟨rfl, rfl⟩
        go_wp2
        exact bodyPost_ret (results_tmp4 rfl _ _ _) rfl ⟨rfl, rfl⟩
end Go.Proofs.YtiildgoaiookhaaGreat

/- The walk of coracleref02.Take. -/
namespace Go.Proofs.YtiildgoaiookhaaGreat
open Go.RowKit

set_option maxRecDepth 100000 in
set_option maxHeartbeats 400000 in
theorem ref02_Take (A : Option Addr) (n c : Nat) (l : List UInt8) (w : World) (hb : Bs w A n l) (hn : n ≤ 1000000) (hnc : n ≤ c) :
    Calls Tryz.prog 79 #[.slice A n c] w fun e w' => e = tq (ttake l) ∧ Ext w w' := by
  have ct := ref01_Take A n c l w hb hn hnc
  clear hb
  have bad : ∀ e : Nat, (e = 2 ∨ e = 3) → vtake l = (0, 0, e) → ttake l = (0, 0, 0, e) := by
    intro e he h
    unfold ttake; rw [h]; rcases he with rfl | rfl <;> rfl
  rcases vtake_cases l with ⟨h, _⟩ | h | ⟨N, s, h, hN, h1, h2, h3⟩
  · rw [bad 2 (.inl rfl) h]
    simp only [h] at ct
    clear h bad
    go_enter Tryz.func79, Tryz.ntmps79
    go_wp2_with fail
    refine ct.mono ?_
    rintro e w1 ⟨rfl, hx⟩
    go_wp2
    exact bodyPost_ret (results_tmp4 rfl _ _ _) rfl ⟨rfl, hx⟩
  · rw [bad 3 (.inr rfl) h]
    simp only [h] at ct
    clear h bad
    go_enter Tryz.func79, Tryz.ntmps79
    go_wp2_with fail
    refine ct.mono ?_
    rintro e w1 ⟨rfl, hx⟩
    go_wp2
    exact bodyPost_ret (results_tmp4 rfl _ _ _) rfl ⟨rfl, hx⟩
  · simp only [h] at ct
    have hwr : IntKind.u64.wrap ((N : Int) / 8) = (N : Int) / 8 := (hN.div 8).wrap
    have hN63 := hN.lt
    by_cases hm : TagMay (N / 8) (N % 8)
    · have ht : ttake l = (N / 8, N % 8, s, 0) := by unfold ttake; rw [h]; simp [hm]
      rw [ht]
      clear ht h bad
      have hlt : (N : Int) < 8008 := by unfold TagMay at hm; omega
      clear hN63
      have hq : ∃ W : Nat, W = N % 8 ∧ TagMay (N / 8) W := ⟨_, rfl, hm⟩
      obtain ⟨W, hW, hm2⟩ := hq
      obtain ⟨M, hM⟩ : ∃ M, M = N / 8 := ⟨_, rfl⟩
      rw [← hM] at hm2
      have HW := Lib.hid hW; clear hW
      have HM := Lib.hid hM; clear hM
      go_enter Tryz.func79, Tryz.ntmps79
      go_wp2_with fail
      refine ct.mono ?_
      rintro e w1 ⟨rfl, hx⟩
      go_wp2_with fail
      rw [show ((N : Int) / 8) = (M : Int) by have := HM.out; omega, show ((N : Int) % 8) = (W : Int) by have := HW.out; omega]
      refine (ref02_Put_ok M W hm2 _).mono ?_
      rintro e w2 ⟨v, rfl, hown, hx2⟩
      clear hown
      go_wp2
      refine bodyPost_ret (results_tmp4 rfl _ _ _) rfl ?_
      exact ⟨tq_mk (q := (N / 8, N % 8, s, 0)) (by dsimp only; rw [HM.out]) (by dsimp only; rw [HW.out]) rfl rfl, hx.trans hx2⟩
    · have ht : ttake l = (0, 0, 0, 6) := by unfold ttake; rw [h]; simp [hm]
      rw [ht]
      clear ht h bad
      by_cases hlt : N < 8008
      · clear hN63
        have hno : ¬ (1 ≤ (N : Int) / 8 ∧ (N : Int) / 8 ≤ 1000 ∧ ((N : Int) % 8 = 0 ∨ (N : Int) % 8 = 2)) := by unfold TagMay at hm; omega
        have Hno := Lib.hid hno; clear hno hm
        go_enter Tryz.func79, Tryz.ntmps79
        go_wp2_with fail
        refine ct.mono ?_
        rintro e w1 ⟨rfl, hx⟩
        go_wp2_with fail
        refine (ref02_Put_no _ _ Hno.out _).mono ?_
        rintro e w2 ⟨rfl, rfl⟩
        go_wp2
        exact bodyPost_ret (results_tmp4 rfl _ _ _) rfl ⟨rfl, hx⟩
      · have hge : (8008 : Int) ≤ N := by omega
        clear hN63 hm
        go_enter Tryz.func79, Tryz.ntmps79
        go_wp2_with fail
        refine ct.mono ?_
        rintro e w1 ⟨rfl, hx⟩
        go_wp2
        exact bodyPost_ret (results_tmp4 rfl _ _ _) rfl ⟨rfl, hx⟩
end Go.Proofs.YtiildgoaiookhaaGreat

/- The walks of tag.Skip and coracleref02.Skip. -/
namespace Go.Proofs.YtiildgoaiookhaaGreat
open Go.RowKit

/-- what a field's skipping gives -/
def sq (q : Nat × Nat) : Ending := .returned (.tuple #[.int .i64 q.1, .int .i64 q.2])

set_option maxRecDepth 100000 in
set_option maxHeartbeats 400000 in
theorem tag_Skip1 (A : Option Addr) (n c s p q : Nat) (l : List UInt8) (w : World) (hb : Bs w A n l) (hn : n ≤ 1000000) (hs : s ≤ n) (hnc : n ≤ c)
    (hp : w.cell? ⟨p, 0, none⟩ = some (.slice A n c)) (hq : w.cell? ⟨q, 0, none⟩ = some (.int .i64 s)) (hf : w.frozen? ⟨q, 0, none⟩ = false) :
    Calls Tryz.prog 73 #[.pointer (some ⟨p, 0, none⟩), .pointer (some ⟨q, 0, none⟩)] w fun e w' =>
      e = .returned (.tuple #[.int .u64 (vtake (l.drop s)).1, .int .i64 (vtake (l.drop s)).2.2]) ∧ w.setCell ⟨q, 0, none⟩ (.int .i64 (s + (vtake (l.drop s)).2.1)) = w' := by
  obtain ⟨A', c', hc', hsl, hb'⟩ := cut_bytes (P := Tryz.prog) bytesT A hs hnc (s : Int) rfl
  have ct := varint_Take A' _ c' _ w (hb' _ _ hb) (by omega)
  have hle : (vtake (l.drop s)).2.1 ≤ 10 := by
    rcases vtake_cases (l.drop s) with ⟨h, _⟩ | h | ⟨N, k, h, hN, h1, h2, h3⟩ <;> rw [h] <;> simp
    exact h2
  generalize vtake (l.drop s) = v at *
  clear hb hb'
  obtain ⟨N, k, e⟩ := v
  have hle' : (k : Int) ≤ 10 := by simp at hle; omega
  clear hle
  have HC := Lib.hid ct; clear ct
  go_enter Tryz.func73, Tryz.ntmps73
  go_wp2_with fail
  refine HC.out.mono ?_
  rintro e w1 ⟨rfl, rfl⟩
  go_wp2
  go_ret2
  exact ⟨rfl, rfl⟩

theorem tskip_bad {l : List UInt8} {e : Nat} (he : e ≠ 0) (h : ttake l = (0, 0, 0, e)) : tskip l = (0, e) := by
  unfold tskip; rw [h]; simp [he]
theorem tskip_ok {l : List UInt8} {num wire s : Nat} (h : ttake l = (num, wire, s, 0)) : tskip l = 
    if (vtake (l.drop s)).2.2 ≠ 0 then (0, (vtake (l.drop s)).2.2)
    else if wire = 0 then (s + (vtake (l.drop s)).2.1, 0)
    else if 16384 < (vtake (l.drop s)).1 then (0, 4)
    else if l.length < s + (vtake (l.drop s)).2.1 + (vtake (l.drop s)).1 then (0, 2)
    else (s + (vtake (l.drop s)).2.1 + (vtake (l.drop s)).1, 0) := by
  unfold tskip; rw [h]; simp

set_option maxRecDepth 100000 in
set_option maxHeartbeats 800000 in
theorem tag_Skip (A : Option Addr) (n c : Nat) (l : List UInt8) (w : World) (hb : Bs w A n l) (hn : n ≤ 1000000) (hnc : n ≤ c) :
    Calls Tryz.prog 38 #[.slice A n c] w fun e w' => e = sq (tskip l) ∧ Ext w w' := by
  have hlen := hb.len
  have hb1 := hb.alloc (.cells #[.slice A n c] 22)
  have ct := tag_Take A n c l _ hb1 hn
  have bad : ∀ e : Nat, (e = 2 ∨ e = 3 ∨ e = 6) → ttake l = (0, 0, 0, e) → Calls Tryz.prog 38 #[.slice A n c] w fun e w' => e = sq (tskip l) ∧ Ext w w' := by
    intro e he h
    rw [tskip_bad (by omega) h]
    simp only [h, tq] at ct
    have he0 : ((e : Int) != 0) = true := bne_t (by omega)
    clear h hb hb1 hlen
    have HC := Lib.hid ct; clear ct
    go_enter Tryz.func38, Tryz.ntmps38
    go_wp2_with fail
    refine HC.out.mono ?_
    rintro e w1 ⟨rfl, rfl⟩
    go_wp2
    go_ret2
    exact ⟨rfl, ((Ext.refl w).alloc _).alloc _⟩
  rcases ttake_cases l with h | h | h | ⟨num, wire, s, h, hm, h1, h2, h3⟩
  · exact bad 2 (by omega) h
  · exact bad 3 (by omega) h
  · exact bad 6 (by omega) h
  · rw [tskip_ok h]
    simp only [h, tq] at ct
    clear h bad
    have hb2 := hb1.alloc (.cells #[.int .i64 s] 3)
    have cs := tag_Skip1 A n c s w.heap.size (w.heap.size + 1) l _ hb2 hn (by omega) hnc (by simp) (by simp) (by simp)
    have hl2 : (l.drop s).length = n - s := by rw [List.length_drop, hlen]
    clear hb hb1 hb2
    have HC := Lib.hid ct; clear ct
    rcases vtake_cases (l.drop s) with ⟨h, _⟩ | h | ⟨N, k, h, hN, g1, g2, g3⟩
    · rw [h]
      simp only [h] at cs
      have HS := Lib.hid cs; clear cs h
      go_enter Tryz.func38, Tryz.ntmps38
      go_wp2_with fail
      refine HC.out.mono ?_
      rintro e w1 ⟨rfl, rfl⟩
      go_wp2_with (go_at_call 73; refine HS.out.mono ?_; rintro e w1 ⟨rfl, rfl⟩)
      go_ret2
      exact ⟨rfl, ((Ext.refl w).alloc _).alloc _⟩
    · rw [h]
      simp only [h] at cs
      have HS := Lib.hid cs; clear cs h
      go_enter Tryz.func38, Tryz.ntmps38
      go_wp2_with fail
      refine HC.out.mono ?_
      rintro e w1 ⟨rfl, rfl⟩
      go_wp2_with (go_at_call 73; refine HS.out.mono ?_; rintro e w1 ⟨rfl, rfl⟩)
      go_ret2
      exact ⟨rfl, ((Ext.refl w).alloc _).alloc _⟩
    · rw [h]
      rw [hl2] at g3
      simp only [h] at cs
      have HS := Lib.hid cs; clear cs h
      clear hl2
      dsimp only
      rw [if_neg (by omega), hlen]
      rcases hm with ⟨m1, m2, hm⟩
      rcases hm with rfl | rfl
      · rw [if_pos rfl]
        go_enter Tryz.func38, Tryz.ntmps38
        go_wp2_with fail
        refine HC.out.mono ?_
        rintro e w1 ⟨rfl, rfl⟩
        go_wp2_with (go_at_call 73; refine HS.out.mono ?_; rintro e w1 ⟨rfl, rfl⟩)
        go_ret2
        exact ⟨rfl, ((Ext.refl w).alloc _).alloc _⟩
      · rw [if_neg (by omega)]
        by_cases q1 : 16384 < N
        · rw [if_pos q1]
          go_enter Tryz.func38, Tryz.ntmps38
          go_wp2_with fail
          refine HC.out.mono ?_
          rintro e w1 ⟨rfl, rfl⟩
          go_wp2_with (go_at_call 73; refine HS.out.mono ?_; rintro e w1 ⟨rfl, rfl⟩)
          go_ret2
          exact ⟨rfl, ((Ext.refl w).alloc _).alloc _⟩
        · rw [if_neg q1]
          by_cases q2 : n < s + k + N
          · rw [if_pos q2]
            have q2' : (n : Int) - (s + k) < N := by omega
            go_enter Tryz.func38, Tryz.ntmps38
            go_wp2_with fail
            refine HC.out.mono ?_
            rintro e w1 ⟨rfl, rfl⟩
            go_wp2_with (go_at_call 73; refine HS.out.mono ?_; rintro e w1 ⟨rfl, rfl⟩)
            go_ret2
            exact ⟨rfl, ((Ext.refl w).alloc _).alloc _⟩
          · rw [if_neg q2]
            have q2' : ¬ (n : Int) - (s + k) < N := by omega
            go_enter Tryz.func38, Tryz.ntmps38
            go_wp2_with fail
            refine HC.out.mono ?_
            rintro e w1 ⟨rfl, rfl⟩
            go_wp2_with (go_at_call 73; refine HS.out.mono ?_; rintro e w1 ⟨rfl, rfl⟩)
            go_ret2
            exact ⟨rfl, ((Ext.refl w).alloc _).alloc _⟩
end Go.Proofs.YtiildgoaiookhaaGreat

/- The walk of coracleref02.Skip. -/
namespace Go.Proofs.YtiildgoaiookhaaGreat
open Go.RowKit

set_option maxRecDepth 100000 in
set_option maxHeartbeats 800000 in
theorem ref02_Skip (A : Option Addr) (n c : Nat) (l : List UInt8) (w : World) (hb : Bs w A n l) (hn : n ≤ 1000000) (hnc : n ≤ c) :
    Calls Tryz.prog 78 #[.slice A n c] w fun e w' => e = sq (tskip l) ∧ Ext w w' := by
  have hlen := hb.len
  have ct := ref02_Take A n c l _ hb hn hnc
  have bad : ∀ e : Nat, (e = 2 ∨ e = 3 ∨ e = 6) → ttake l = (0, 0, 0, e) → Calls Tryz.prog 78 #[.slice A n c] w fun e w' => e = sq (tskip l) ∧ Ext w w' := by
    intro e he h
    rw [tskip_bad (by omega) h]
    simp only [h, tq] at ct
    have he0 : ((e : Int) != 0) = true := bne_t (by omega)
    clear h hb hlen
    have HC := Lib.hid ct; clear ct
    go_enter Tryz.func78, Tryz.ntmps78
    go_wp2_with fail
    refine HC.out.mono ?_
    rintro e w1 ⟨rfl, hx⟩
    go_wp2
    go_ret2
    exact ⟨rfl, hx⟩
  rcases ttake_cases l with h | h | h | ⟨num, wire, s, h, hm, h1, h2, h3⟩
  · exact bad 2 (by omega) h
  · exact bad 3 (by omega) h
  · exact bad 6 (by omega) h
  · rw [tskip_ok h]
    simp only [h, tq] at ct
    clear h bad
    obtain ⟨A', c', hc', hsl, hb'⟩ := cut_bytes (P := Tryz.prog) bytesT A (lo := s) (by omega) hnc (s : Int) rfl
    have cs := fun w1 (hx : Ext w w1) => ref01_Take A' _ c' _ w1 (hb' _ _ (hb.ext hx)) (by omega) hc'
    have hl2 : (l.drop s).length = n - s := by rw [List.length_drop, hlen]
    clear hb hb'
    have HC := Lib.hid ct; clear ct
    rcases vtake_cases (l.drop s) with ⟨h, _⟩ | h | ⟨N, k, h, hN, g1, g2, g3⟩
    · rw [h]
      simp only [h] at cs
      have HS := Lib.hid cs; clear cs h
      go_enter Tryz.func78, Tryz.ntmps78
      go_wp2_with fail
      refine HC.out.mono ?_
      rintro e w1 ⟨rfl, hx⟩
      go_wp2_with fail
      refine (HS.out w1 hx).mono ?_
      rintro e w2 ⟨rfl, hx2⟩
      go_wp2
      go_ret2
      exact ⟨rfl, hx.trans hx2⟩
    · rw [h]
      simp only [h] at cs
      have HS := Lib.hid cs; clear cs h
      go_enter Tryz.func78, Tryz.ntmps78
      go_wp2_with fail
      refine HC.out.mono ?_
      rintro e w1 ⟨rfl, hx⟩
      go_wp2_with fail
      refine (HS.out w1 hx).mono ?_
      rintro e w2 ⟨rfl, hx2⟩
      go_wp2
      go_ret2
      exact ⟨rfl, hx.trans hx2⟩
    · rw [h]
      rw [hl2] at g3
      simp only [h] at cs
      have HS := Lib.hid cs; clear cs h
      clear hl2
      dsimp only
      rw [if_neg (by omega), hlen]
      clear hlen
      rcases hm with ⟨m1, m2, hm⟩
      rcases hm with rfl | rfl
      · rw [if_pos rfl]
        go_enter Tryz.func78, Tryz.ntmps78
        go_wp2_with fail
        refine HC.out.mono ?_
        rintro e w1 ⟨rfl, hx⟩
        go_wp2_with fail
        refine (HS.out w1 hx).mono ?_
        rintro e w2 ⟨rfl, hx2⟩
        go_wp2
        go_ret2
        exact ⟨rfl, hx.trans hx2⟩
      · rw [if_neg (by omega)]
        by_cases q1 : 16384 < N
        · rw [if_pos q1]
          go_enter Tryz.func78, Tryz.ntmps78
          go_wp2_with fail
          refine HC.out.mono ?_
          rintro e w1 ⟨rfl, hx⟩
          go_wp2_with fail
          refine (HS.out w1 hx).mono ?_
          rintro e w2 ⟨rfl, hx2⟩
          go_wp2
          go_ret2
          exact ⟨rfl, hx.trans hx2⟩
        · rw [if_neg q1]
          by_cases q2 : n < s + k + N
          · rw [if_pos q2]
            have q2' : (n : Int) - s - k < N := by omega
            go_enter Tryz.func78, Tryz.ntmps78
            go_wp2_with fail
            refine HC.out.mono ?_
            rintro e w1 ⟨rfl, hx⟩
            go_wp2_with fail
            refine (HS.out w1 hx).mono ?_
            rintro e w2 ⟨rfl, hx2⟩
            go_wp2
            go_ret2
            exact ⟨rfl, hx.trans hx2⟩
          · rw [if_neg q2]
            have q2' : ¬ (n : Int) - s - k < N := by omega
            go_enter Tryz.func78, Tryz.ntmps78
            go_wp2_with fail
            refine HC.out.mono ?_
            rintro e w1 ⟨rfl, hx⟩
            go_wp2_with fail
            refine (HS.out w1 hx).mono ?_
            rintro e w2 ⟨rfl, hx2⟩
            go_wp2
            go_ret2
            exact ⟨rfl, hx.trans hx2⟩
end Go.Proofs.YtiildgoaiookhaaGreat

/- The walks of the laws of layer 2: their small helpers, and TagAll. -/
namespace Go.Proofs.YtiildgoaiookhaaGreat
open Go.RowKit

theorem str_at {w : World} {A : Option Addr} {n : Nat} {l : List UInt8} (hb : Bs w A n l) (c : Nat) : (convert 22 9 (.slice A n c)).run Tryz.prog w = .ok (.string (bstr l)) w :=
  run_str Tryz.underlying22 Tryz.underlying5 Tryz.underlying9 hb c

/-- a literal of bytes -/
theorem bs_lit (w : World) (cs : Array Value) (l : List UInt8) (n : Nat) (h : cs.toList = l.map bv) (hn : l.length = n) : Bs (w.alloc (.cells cs 5)) (some ⟨w.heap.size, 0, none⟩) n l := by
  have := Rd.block (size := 1) w cs 5 n (by rw [← Array.length_toList, h]; simp [hn])
  rw [h] at this; exact this

/-- a tag's bytes and error, for any two numbers -/
def tput (num wire : Int) : List UInt8 := if 1 ≤ num ∧ num ≤ 1000 ∧ (wire = 0 ∨ wire = 2) then vput (8 * num.toNat + wire.toNat) else []
def terr (num wire : Int) : Int := if 1 ≤ num ∧ num ≤ 1000 ∧ (wire = 0 ∨ wire = 2) then 0 else 1

theorem tag_Put (num wire : Int) (w : World) :
    Calls Tryz.prog 94 #[.int .i64 num, .int .i64 wire] w fun e w' => ∃ A n c, e = .returned (.tuple #[.slice A n c, .int .i64 (terr num wire)]) ∧ Bs w' A n (tput num wire) ∧ Ext w w' := by
  by_cases h : 1 ≤ num ∧ num ≤ 1000 ∧ (wire = 0 ∨ wire = 2)
  · have ht : TagMay num.toNat wire.toNat := by unfold TagMay; omega
    have := tag_Put_ok num.toNat wire.toNat ht w
    rw [show ((num.toNat : Nat) : Int) = num by omega, show ((wire.toNat : Nat) : Int) = wire by omega] at this
    refine this.mono ?_
    rintro e w' ⟨v, rfl, hown, hx⟩
    obtain ⟨A, c, rfl, _⟩ := own_form hown
    refine ⟨A, _, c, by rw [terr, if_pos h], ?_, hx⟩
    rw [tput, if_pos h]
    exact Bs.of_own hown
  · refine (tag_Put_no num wire h w).mono ?_
    rintro e w' ⟨rfl, rfl⟩
    refine ⟨none, 0, 0, by rw [terr, if_neg h], ?_, Ext.refl _⟩
    rw [tput, if_neg h]
    exact Bs.nil_ _ _

theorem ref02_Put (num wire : Int) (w : World) :
    Calls Tryz.prog 101 #[.int .i64 num, .int .i64 wire] w fun e w' => ∃ A n c, e = .returned (.tuple #[.slice A n c, .int .i64 (terr num wire)]) ∧ Bs w' A n (tput num wire) ∧ Ext w w' := by
  by_cases h : 1 ≤ num ∧ num ≤ 1000 ∧ (wire = 0 ∨ wire = 2)
  · have ht : TagMay num.toNat wire.toNat := by unfold TagMay; omega
    have := ref02_Put_ok num.toNat wire.toNat ht w
    rw [show ((num.toNat : Nat) : Int) = num by omega, show ((wire.toNat : Nat) : Int) = wire by omega] at this
    refine this.mono ?_
    rintro e w' ⟨v, rfl, hown, hx⟩
    obtain ⟨A, c, rfl, _⟩ := own_form hown
    refine ⟨A, _, c, by rw [terr, if_pos h], ?_, hx⟩
    rw [tput, if_pos h]
    exact Bs.of_own hown
  · refine (ref02_Put_no num wire h w).mono ?_
    rintro e w' ⟨rfl, rfl⟩
    refine ⟨none, 0, 0, by rw [terr, if_neg h], ?_, Ext.refl _⟩
    rw [tput, if_neg h]
    exact Bs.nil_ _ _

end Go.Proofs.YtiildgoaiookhaaGreat
