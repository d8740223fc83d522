/- Words and walks that the last text of this claim stands on: ImU. No condition. -/
import Derived.Test.YtiildgoaiookhaaB20
import Derived.Test.YtiildgoaiookhaaB07
import Derived.Test.YtiildgoaiookhaaB01
import Derived.Test.YtiildgoaiookhaaB08
import Derived.Test.YtiildgoaiookhaaB17
/- The walk of command.Unchunk. -/
namespace Go.Proofs.Ytiildgoaiookhaa
open Go.RowKit

theorem natsOf_len (b : List UInt8) : (natsOf b).length = b.length := by simp [natsOf]
theorem natsOf_snoc (b : List UInt8) (j : Nat) (h : j < b.length) : natsOf (b.take (j + 1)) = natsOf (b.take j) ++ [(b[j].toNat : Int)] := by
  unfold natsOf; rw [List.take_succ_eq_append_getElem h, List.map_append]; rfl
/-- a small number is one byte -/
theorem vtake_small {b : List UInt8} {j N s : Nat} (h : j < b.length) (hv : vtake (b.drop j) = (N, s, 0)) (hN : N ≤ 64) : s = 1 ∧ b[j].toNat = N := by
  obtain ⟨h1, h2, h3⟩ := vtake_sound hv
  rw [vput_small (by omega)] at h1
  have hs : s = 1 := by
    have := congrArg List.length h1
    rw [List.length_take] at this
    simp at this; rw [h3]; unfold vsize; simp [show N < 128 by omega]
  subst hs
  rw [List.drop_eq_getElem_cons h] at h1
  simp only [List.take_succ_cons, List.take_zero, List.cons.injEq, and_true] at h1
  refine ⟨rfl, ?_⟩
  rw [← h1, UInt8.toNat_ofNat']
  omega
theorem unch_bad {b : List UInt8} {j : Nat} (h : j < b.length) (hv : ¬ ((vtake (b.drop j)).2.2 = 0 ∧ (vtake (b.drop j)).1 ≤ 64)) : unch b = [] := by
  unfold unch
  rw [if_neg]
  intro hr
  refine hv ?_
  have h64 : ((b[j].toNat : Nat) : Int) ≤ 64 := by
    have hm : ((b[j].toNat : Nat) : Int) ∈ natsOf b := List.mem_map.2 ⟨b[j], List.getElem_mem h, rfl⟩
    exact (rowCh_in hr _ hm).2
  have e : b.drop j = vput b[j].toNat ++ b.drop (j + 1) := by
    rw [List.drop_eq_getElem_cons h, vput_small (by omega)]
    simp
  rw [e, vtake_put (by unfold U64; omega)]
  exact ⟨rfl, by omega⟩
theorem unch_i64 (b : List UInt8) : ∀ y ∈ unch b, I64 y := by
  intro y hy
  unfold unch at hy
  split at hy
  · rename_i hr
    have := rowCh_in hr y hy
    exact ⟨by omega, by omega⟩
  · simp at hy
/-- what Unchunk leaves -/
def UnchPost (b : List UInt8) (w : World) (e : Ending) (w' : World) : Prop :=
  ∃ A c code, e = .returned (.tuple #[.slice A (unch b).length c, .int .i64 code]) ∧ w'.ownsRow w.heap.size 3 1 (.slice A (unch b).length c) (unch b).length ((unch b).map (Value.int .i64)) ∧ Ext w w'
set_option maxRecDepth 100000 in
set_option maxHeartbeats 1600000 in
theorem cmd_Unchunk (A : Option Addr) (n c : Nat) (b : List UInt8) (w : World) (hb : Bs w A n b) (hn : n ≤ 20000) (hnc : n ≤ c) : Calls Try.prog 128 #[.slice A n c] w (UnchPost b w) := by
  have HE : Hid (∀ (W : World) (e : Ending), UnchPost b w e W ↔ ∃ A c code, e = .returned (.tuple #[.slice A (unch b).length c, .int .i64 code]) ∧ W.ownsRow w.heap.size 3 1 (.slice A (unch b).length c) (unch b).length ((unch b).map (Value.int .i64)) ∧ Ext w W) := Lib.hid fun _ _ => Iff.rfl
  have HBAD := Lib.hid (fun j (h : j < b.length) hv => unch_bad (b := b) (j := j) h hv)
  have HUN : Hid (unch b = if rowChB (natsOf b) = true then natsOf b else []) := Lib.hid rfl
  generalize UnchPost b w = POST at *
  generalize unch b = UB at *
  have hlen := hb.len
  have h0 := World.ownsRow_nil w w.heap.size 3 1
  go_enter Try.func128, Try.ntmps128
  go_wp2_with fail
  go_loopw [4, 5] (fun v i wr => ∃ j : Nat, i = .int .i64 j ∧ j ≤ n ∧ wr.ownsRow w.heap.size 3 1 v j ((natsOf (b.take j)).map (Value.int .i64)) ∧ Ext w wr) (fun _ i _ => n - (intOf i).toNat)
  case atStart => exact ⟨0, rfl, by omega, by simpa [natsOf] using h0, Ext.refl w⟩
  case round =>
    clear h0
    obtain ⟨j, rfl, hj, hown, hx⟩ := hrel
    obtain ⟨v4, rfl⟩ : ∃ v4 : Value, v4 = u4 := ⟨_, rfl⟩
    by_cases hjn : j < n
    · have hjl : j < b.length := by omega
      obtain ⟨A', c', hc', HC, HB'⟩ := cut_bytes bytesT A (show j ≤ n by omega) hnc (j : Int) rfl
      have HVT := Lib.hid (varint_Take A' (n - j) c' (b.drop j) wr (HB' wr b (hb.ext hx)) (by omega))
      have Hsn := Lib.hid (natsOf_snoc b j hjl)
      have HBD := Lib.hid (HBAD.out j hjl)
      have HSM := Lib.hid (fun N s => vtake_small (N := N) (s := s) hjl)
      have HU := Lib.hid (vtake_cases (b.drop j))
      have hj0 : (0 : Int) ≤ j := by omega
      have hj1 : (j : Int) < n := by omega
      have hsz := hx.size
      generalize vtake (b.drop j) = V at *
      obtain ⟨N, s, code⟩ := V
      generalize b[j] = bj at *
      dsimp only at HVT HBD HSM HU
      clear HB' HBAD
      go_wp2_with fail
      refine HVT.out.mono ?_
      rintro e w2 ⟨rfl, rfl⟩
      clear HVT HC
      by_cases hcode : code = 0
      · subst hcode
        have hN64 : N < 18446744073709551616 := by
          rcases HU.out with ⟨h, _⟩ | h | ⟨n', s', h, hu, _⟩
          · cases h
          · cases h
          · simp only [Prod.mk.injEq] at h
            rw [h.1]; exact hu
        by_cases hN : N ≤ 64
        · obtain ⟨hs1, hbj⟩ := HSM.out N s rfl hN
          subst hs1
          have hN' : ¬ (64 < (N : Int)) := by omega
          have HBJ := Lib.hid hbj
          have HN64 : Hid ((N : Int) ≤ 64) := Lib.hid (by omega)
          clear hbj hN HSM HBD HU hN64
          have p1 : j + 1 ≤ maxLen := by unfold maxLen; omega
          have p2 : (j + 1) * 8 ≤ 140737488355328 := by omega
          have P3 := Lib.hid (fun (o : Obj) => (show w.heap.size ≤ (wr.alloc o).heap.size by simp; omega))
          have hwr' : wrap64 (N : Int) = N := (wrap64_eq _).trans (IntWalk.i64_in _ ⟨by omega, by omega⟩)
          go_upto_region 7 with fail
          go_wp2_with (at_builtin; refine wpList_app intsT Nat.one_pos _ rfl rfl rfl (hown.alloc _) rfl (rd_new1 _ _ _) (one1 rfl) p1 p2 (P3.out _) ?_; intro v1 w1 hown1 hg1 hat1)
          clear hwr'
          have x1 := Below.app (hx.alloc _) hg1 (P3.out _) (hown.alloc _) (Nat.le_refl _)
          go_roundw
          case rel => exact ⟨j + 1, val_int (by omega), by omega, own_to hown1 (Nat.le_refl _) rfl (by rw [Hsn.out, List.map_append, HBJ.out]; rfl), x1⟩
          case measure => simp [intOf]; omega
        · have hub : UB = [] := HBD.out (fun h => hN h.2)
          have hN' : 64 < (N : Int) := by omega
          have hN2 : (64 : Int) < N := by omega
          clear HBD HSM HU hN
          subst hub
          go_wp2_with fail
          exact (HE.out _ _).2 ⟨none, 0, 6, rfl, World.ownsRow_nil _ _ _ _, hx⟩
      · have hub : UB = [] := HBD.out (fun h => hcode h.1)
        have hcb := bne_t (show ((code : Nat) : Int) ≠ 0 by omega)
        clear HBD HSM HU hcode
        subst hub
        go_wp2_with fail
        exact (HE.out _ _).2 ⟨none, 0, 6, rfl, World.ownsRow_nil _ _ _ _, hx⟩
    · obtain rfl : n = j := by omega
      rw [List.take_of_length_le (by omega)] at hown
      obtain ⟨Ar, cr, rfl, _⟩ := own_form hown
      have HRW := Lib.hid (cmd_row Ar n cr (natsOf b) wr (Is.of_own hown) (by omega))
      have HN := Lib.hid (natsOf_len b)
      have HOW := Lib.hid hown
      clear hown HBAD
      generalize natsOf b = NB at *
      rcases hrow : rowChB NB with _ | _
      · rw [hrow] at HRW
        have hub : UB = [] := by rw [HUN.out, hrow]; rfl
        subst hub
        clear HUN hrow
        go_wp2_with fail
        refine HRW.out.mono ?_
        rintro e w2 ⟨rfl, rfl⟩
        go_wp2_with fail
        exact (HE.out _ _).2 ⟨none, 0, 6, rfl, World.ownsRow_nil _ _ _ _, hx⟩
      · rw [hrow] at HRW
        have hub : UB = NB := by rw [HUN.out, hrow]; rfl
        have hnl : NB.length = n := by rw [HN.out]; exact hlen
        have HNL := Lib.hid hnl
        subst hub
        clear HUN hrow hnl
        go_wp2_with fail
        refine HRW.out.mono ?_
        rintro e w2 ⟨rfl, rfl⟩
        go_wp2_with fail
        exact (HE.out _ _).2 ⟨Ar, cr, 0, by rw [HNL.out]; rfl, by rw [HNL.out]; exact HOW.out, hx⟩
end Go.Proofs.Ytiildgoaiookhaa
