/- Words and walks that the last text of this claim stands on: LtS. No condition. -/
import Derived.Test.YtcoaofaofmbfbaaB06
/- The walk of some of layer 16's laws. (Turned from that of few of layer 4's by wip/tools/some.py.) -/
namespace Go.Proofs.Ytcoaofaofmbfbaa
open Go.RowKit

/-- at most 12 fields, of 60 bytes each -/
def some12 (l : List FV) : List FV := (l.take 12).map (cutF 60)
theorem some12_len (l : List FV) : (some12 l).length = min 12 l.length := by simp [some12]
theorem some12_snoc (l : List FV) (j : Nat) (h : j < l.length) (h12 : j < 12) : (some12 l).take (j + 1) = (some12 l).take j ++ [cutF 60 l[j]] := by
  have hl : j < (some12 l).length := by rw [some12_len]; omega
  rw [List.take_succ_eq_append_getElem hl]
  congr 2
  simp [some12]
theorem some12_ok {l : List FV} {w : World} (h : ∀ f ∈ l, f.Ok w) : ∀ f ∈ some12 l, f.Ok w := by
  intro f hf
  obtain ⟨g, hg, rfl⟩ := List.mem_map.1 hf
  exact cutF_ok (h g (List.mem_of_mem_take hg))
theorem some12_cut (l : List FV) : ∀ f ∈ some12 l, f.len ≤ 60 := by
  intro f hf
  obtain ⟨g, _, rfl⟩ := List.mem_map.1 hf
  unfold cutF
  split
  · exact Nat.le_refl _
  · omega

set_option maxRecDepth 100000 in
set_option maxHeartbeats 1600000 in
theorem law16_some (A : Option Addr) (n c : Nat) (l : List FV) (w : World) (hf : Fs w A n l) (hcm : c ≤ maxLen) (hnc : n ≤ c) :
    Calls Try.prog 17 #[.slice A n c] w fun e w' => ∃ v, e = .returned v ∧ w'.ownsRow w.heap.size 75 4 v (min 12 n) (rowOf (some12 l)) ∧ Ext w w' := by
  have hlen := hf.len
  have hmx : n ≤ 9223372036854775807 := by unfold maxLen at hcm; omega
  clear hcm hnc
  go_enter Try.func17, Try.ntmps17
  go_wp2
  have h0 := own_empty w 75 4
  go_loopw [3, 4] (fun v i wr => ∃ j : Nat, i = .int .i64 j ∧ j ≤ n ∧ j ≤ 12 ∧ wr.ownsRow w.heap.size 75 4 v j (rowOf ((some12 l).take j)) ∧ Ext w wr) (fun _ i _ => 12 - (intOf i).toNat)
  case atStart => exact ⟨0, rfl, by omega, by omega, by simpa [rowOf] using h0, (Ext.refl w).alloc _⟩
  case round =>
    obtain ⟨j, rfl, hj, hj12, hown, hx⟩ := hrel
    by_cases hjn : j < n
    · by_cases hj6 : j < 12
      · obtain ⟨b, off, rfl, d0, d1, d2, d3⟩ := (hf.ext hx).at_ hjn
        have hle := ((hf.ext hx).ok l[j] (List.getElem_mem _)).le
        have hsn := some12_snoc l j (by omega) hj6
        generalize l[j] = f at *
        obtain ⟨num, wire, fn, fA, flen, fcap, fb⟩ := f
        dsimp only at d0 d1 d2 d3 hle
        have Hsn := Lib.hid hsn; clear hsn
        have hszw := hx.size
        by_cases hc : 60 < flen
        · go_wp2_with (at_builtin; refine wpList_app fieldsT (by omega) _ rfl rfl rfl ((hown.alloc _).alloc _) rfl (rd_at4 _ (.int .i64 num) (.int .i64 wire) (.int .u64 fn) (.slice fA 60 fcap) _ _ (by simp)) (fcells_one _ _ _ _ _ _) (by unfold maxLen; omega) (by omega) (by simp; omega) ?_; intro v1 w1 hown1 hg1 hat1)
          go_roundw
          case rel => exact ⟨j + 1, val_int (by omega), by omega, by omega, own_to hown1 (Nat.le_refl _) rfl (by rw [Hsn.out, rowOf_append, rowOf_one]; simp [cutF, hc, FV.cells]), Below.app ((hx.alloc _).alloc _) hg1 (by simp; omega) ((hown.alloc _).alloc _) (Nat.le_refl _)⟩
          case measure => simp [intOf]; omega
        · go_wp2_with (at_builtin; refine wpList_app fieldsT (by omega) _ rfl rfl rfl ((hown.alloc _).alloc _) rfl (rd_at4 _ (.int .i64 num) (.int .i64 wire) (.int .u64 fn) (.slice fA flen fcap) _ _ (by simp)) (fcells_one _ _ _ _ _ _) (by unfold maxLen; omega) (by omega) (by simp; omega) ?_; intro v1 w1 hown1 hg1 hat1)
          go_roundw
          case rel => exact ⟨j + 1, val_int (by omega), by omega, by omega, own_to hown1 (Nat.le_refl _) rfl (by rw [Hsn.out, rowOf_append, rowOf_one]; simp [cutF, hc, FV.cells]), Below.app ((hx.alloc _).alloc _) hg1 (by simp; omega) ((hown.alloc _).alloc _) (Nat.le_refl _)⟩
          case measure => simp [intOf]; omega
      · obtain rfl : 12 = j := by omega
        have t1 : decide ((12 : Int) < (n : Int)) = true := dec_t (by omega)
        go_wp2
        go_ret
        refine ⟨_, rfl, ?_, hx⟩
        exact own_to hown (Nat.le_refl _) (by omega) (by rw [List.take_of_length_le (by rw [some12_len]; omega)])
    · obtain rfl : n = j := by omega
      go_wp2
      go_ret
      refine ⟨_, rfl, ?_, hx⟩
      exact own_to hown (Nat.le_refl _) (by omega) (by rw [List.take_of_length_le (by rw [some12_len]; omega)])
end Go.Proofs.Ytcoaofaofmbfbaa
