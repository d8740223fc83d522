/- The walk of few of layer 3's laws. -/
import Derived.Test.YtjfohlnkdagjcaaTlvN
namespace Go.Proofs.Ytjfohlnkdagjcaa
open Go.RowKit

theorem fieldsT : SliceT Try.prog 43 42 4 48 := .mk' Try.underlying43 (z := .agg #[.int .i64 0, .int .i64 0, .int .u64 0, .slice none 0 0]) (by kernel_rfl) rfl

/-- a field with at most k bytes -/
def cutF (k : Nat) (f : FV) : FV := if k < f.len then { f with len := k, b := f.b.take k } else f
theorem cutF_ok {k : Nat} {f : FV} {w : World} (h : f.Ok w) : (cutF k f).Ok w := by
  unfold cutF
  split
  · exact ⟨h.bs.upto (hi := k) (by omega), by have := h.le; dsimp only; omega, h.cap, h.u⟩
  · exact h
/-- at most 60 fields, of 300 bytes each, but the first, of 17000 -/
def fewAt (i : Nat) (f : FV) : FV := if i = 0 then cutF 17000 f else cutF 300 f
def fewL (l : List FV) : List FV := (l.take 60).mapIdx fewAt
theorem fewL_len (l : List FV) : (fewL l).length = min 60 l.length := by simp [fewL]
theorem fewL_snoc (l : List FV) (j : Nat) (h : j < l.length) (h60 : j < 60) : (fewL l).take (j + 1) = (fewL l).take j ++ [fewAt j l[j]] := by
  have hl : j < (fewL l).length := by rw [fewL_len]; omega
  rw [List.take_succ_eq_append_getElem hl]
  congr 2
  simp [fewL]

theorem rd_new4 (w : World) (a b c d : Value) (t : TypeId) : Rd (w.alloc (.cells #[a, b, c, d] t)) (some ⟨w.heap.size, 0, none⟩) 1 4 [a, b, c, d] := Rd.block w #[a, b, c, d] t 1 rfl
theorem rd_at4 (w : World) (a b c d : Value) (t : TypeId) (k : Nat) (hk : k = w.heap.size) : Rd (w.alloc (.cells #[a, b, c, d] t)) (some ⟨k, 0, none⟩) 1 4 [a, b, c, d] := hk ▸ rd_new4 w a b c d t
theorem fcells_one (num wire : Int) (n : Nat) (A : Option Addr) (len cap : Nat) : ∀ u ∈ [Value.int .i64 num, .int .i64 wire, .int .u64 n, .slice A len cap], u.oneCell' = true := by
  intro u hu
  simp only [List.mem_cons, List.not_mem_nil, or_false] at hu
  rcases hu with rfl | rfl | rfl | rfl <;> rfl

set_option maxRecDepth 100000 in
set_option maxHeartbeats 1600000 in
theorem law03_few (A : Option Addr) (n c : Nat) (l : List FV) (w : World) (hf : Fs w A n l) (hnc : n ≤ c) (hcm : c ≤ maxLen) :
    Calls Try.prog 28 #[.slice A n c] w fun e w' => ∃ v, e = .returned v ∧ w'.ownsRow w.heap.size 42 4 v (min 60 n) (rowOf (fewL l)) ∧ Ext w w' := by
  have hlen := hf.len
  have hmx : n ≤ 9223372036854775807 := by unfold maxLen at hcm; omega
  clear hcm
  go_enter Try.func28, Try.ntmps28
  go_wp2
  have h0 := own_empty w 42 4
  go_loopw [3, 4] (fun v i wr => ∃ j : Nat, i = .int .i64 j ∧ j ≤ n ∧ j ≤ 60 ∧ wr.ownsRow w.heap.size 42 4 v j (rowOf ((fewL l).take j)) ∧ Ext w wr) (fun _ i _ => 60 - (intOf i).toNat)
  case atStart => exact ⟨0, rfl, by omega, by omega, by simpa [rowOf] using h0, (Ext.refl w).alloc _⟩
  case round =>
    obtain ⟨j, rfl, hj, hj60, hown, hx⟩ := hrel
    by_cases hjn : j < n
    · by_cases hj6 : j < 60
      · obtain ⟨b, off, rfl, d0, d1, d2, d3⟩ := (hf.ext hx).at_ hjn
        have hok := (hf.ext hx).ok l[j] (List.getElem_mem _)
        have hsn := fewL_snoc l j (by omega) hj6
        generalize l[j] = f at *
        obtain ⟨num, wire, fn, fA, flen, fcap, fb⟩ := f
        dsimp only at d0 d1 d2 d3
        have hle := hok.le
        dsimp only at hle
        have Hsn := Lib.hid hsn; clear hsn
        have Hok := Lib.hid hok; clear hok
        have hszw := hx.size
        rcases Nat.eq_zero_or_pos j with rfl | hj0
        · simp only [Nat.zero_mul, Nat.add_zero] at d0 d1 d2 d3
          by_cases hc : 17000 < flen
          · go_wp2_with (at_builtin; refine wpList_app fieldsT (by omega) _ rfl rfl rfl ((hown.alloc _).alloc _) rfl (rd_at4 _ (.int .i64 num) (.int .i64 wire) (.int .u64 fn) (.slice fA 17000 fcap) _ _ (by simp)) (fcells_one _ _ _ _ _ _) (by unfold maxLen; omega) (by omega) (by simp; omega) ?_; intro v1 w1 hown1 hg1 hat1)
            go_roundw
            case rel => exact ⟨0 + 1, val_int (by omega), by omega, by omega, own_to hown1 (Nat.le_refl _) rfl (by rw [Hsn.out, rowOf_append, rowOf_one]; simp [fewAt, cutF, hc, FV.cells]), Below.app ((hx.alloc _).alloc _) hg1 (by simp; omega) ((hown.alloc _).alloc _) (Nat.le_refl _)⟩
            case measure => simp [intOf]
          · go_wp2_with (at_builtin; refine wpList_app fieldsT (by omega) _ rfl rfl rfl ((hown.alloc _).alloc _) rfl (rd_at4 _ (.int .i64 num) (.int .i64 wire) (.int .u64 fn) (.slice fA flen fcap) _ _ (by simp)) (fcells_one _ _ _ _ _ _) (by unfold maxLen; omega) (by omega) (by simp; omega) ?_; intro v1 w1 hown1 hg1 hat1)
            go_roundw
            case rel => exact ⟨0 + 1, val_int (by omega), by omega, by omega, own_to hown1 (Nat.le_refl _) rfl (by rw [Hsn.out, rowOf_append, rowOf_one]; simp [fewAt, cutF, hc, FV.cells]), Below.app ((hx.alloc _).alloc _) hg1 (by simp; omega) ((hown.alloc _).alloc _) (Nat.le_refl _)⟩
            case measure => simp [intOf]
        · by_cases hc : 300 < flen
          · go_wp2_with (at_builtin; refine wpList_app fieldsT (by omega) _ rfl rfl rfl ((hown.alloc _).alloc _) rfl (rd_at4 _ (.int .i64 num) (.int .i64 wire) (.int .u64 fn) (.slice fA 300 fcap) _ _ (by simp)) (fcells_one _ _ _ _ _ _) (by unfold maxLen; omega) (by omega) (by simp; omega) ?_; intro v1 w1 hown1 hg1 hat1)
            go_roundw
            case rel => exact ⟨j + 1, val_int (by omega), by omega, by omega, own_to hown1 (Nat.le_refl _) rfl (by rw [Hsn.out, rowOf_append, rowOf_one]; simp [fewAt, cutF, hc, FV.cells, show j ≠ 0 by omega]), Below.app ((hx.alloc _).alloc _) hg1 (by simp; omega) ((hown.alloc _).alloc _) (Nat.le_refl _)⟩
            case measure => simp [intOf]; omega
          · go_wp2_with (at_builtin; refine wpList_app fieldsT (by omega) _ rfl rfl rfl ((hown.alloc _).alloc _) rfl (rd_at4 _ (.int .i64 num) (.int .i64 wire) (.int .u64 fn) (.slice fA flen fcap) _ _ (by simp)) (fcells_one _ _ _ _ _ _) (by unfold maxLen; omega) (by omega) (by simp; omega) ?_; intro v1 w1 hown1 hg1 hat1)
            go_roundw
            case rel => exact ⟨j + 1, val_int (by omega), by omega, by omega, own_to hown1 (Nat.le_refl _) rfl (by rw [Hsn.out, rowOf_append, rowOf_one]; simp [fewAt, cutF, hc, FV.cells, show j ≠ 0 by omega]), Below.app ((hx.alloc _).alloc _) hg1 (by simp; omega) ((hown.alloc _).alloc _) (Nat.le_refl _)⟩
            case measure => simp [intOf]; omega
      · obtain rfl : j = 60 := by omega
        go_wp2
        go_ret
        refine ⟨_, rfl, ?_, hx⟩
        exact own_to hown (Nat.le_refl _) (by omega) (by rw [List.take_of_length_le (by rw [fewL_len]; omega)])
    · obtain rfl : j = n := by omega
      go_wp2
      go_ret
      refine ⟨_, rfl, ?_, hx⟩
      exact own_to hown (Nat.le_refl _) (by omega) (by rw [List.take_of_length_le (by rw [fewL_len]; omega)])
end Go.Proofs.Ytjfohlnkdagjcaa
