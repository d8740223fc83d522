/- The walks of coracleref03.Put and coracleref03.Split. -/
import Derived.Test.YtjfohlnkdagjcaaTlvN
import Derived.Test.YtjfohlnkdagjcaaTlvP
import Derived.Test.YtjfohlnkdagjcaaSplit
namespace Go.Proofs.Ytjfohlnkdagjcaa
open Go.RowKit

set_option maxRecDepth 100000 in
set_option maxHeartbeats 800000 in
theorem ref03_Put_no (A : Option Addr) (n c : Nat) (l : List FV) (w : World) (hf : Fs w A n l) (hn : n ≤ 1000) (hno : fmay l ≠ 0) :
    Calls Try.prog 36 #[.slice A n c] w fun e w' => e = .returned (.tuple #[.slice none 0 0, .int .i64 (fmay l)]) ∧ Ext w w' := by
  have hb := bne_t (show ((fmay l : Nat) : Int) ≠ 0 by omega)
  have HM := Lib.hid (ref03_May A n c l w hf hn)
  generalize fmay l = E at *
  clear hno hf
  go_enter Try.func36, Try.ntmps36
  go_wp2_with fail
  refine HM.out.mono ?_
  rintro e w1 ⟨rfl, x1⟩
  go_wp2
  go_ret2
  exact ⟨rfl, x1⟩

set_option maxRecDepth 100000 in
set_option maxHeartbeats 800000 in
theorem ref03_Put_ok (A : Option Addr) (n c : Nat) (l : List FV) (w : World) (hf : Fs w A n l) (hn : n ≤ 1000) (hno : fmay l = 0) :
    Calls Try.prog 36 #[.slice A n c] w fun e w' => ∃ v, e = .returned (.tuple #[v, .int .i64 0]) ∧ w'.ownsRow w.heap.size 5 1 v (rput l).length ((rput l).map bv) ∧ Ext w w' := by
  have hlen := hf.len
  obtain ⟨hall, hsum⟩ := fmay_ok hno
  have hM := ref03_May A n c l w hf hn
  rw [hno] at hM
  have HM := Lib.hid hM; clear hM hno
  have Hall := Lib.hid hall; clear hall
  go_enter Try.func36, Try.ntmps36
  go_wp2_with fail
  refine HM.out.mono ?_
  rintro e w1 ⟨rfl, x1⟩
  have h0 := own_base (base' := w.heap.size) (own_empty w1 5 1) x1.size
  go_wp2
  go_loopw [5, 6] (fun v i wr => ∃ j : Nat, i = .int .i64 j ∧ j ≤ n ∧ wr.ownsRow w.heap.size 5 1 v (rput (l.take j)).length ((rput (l.take j)).map bv) ∧ Ext w wr) (fun _ i _ => n - (intOf i).toNat)
  case atStart => exact ⟨0, rfl, by omega, by simpa [rput] using h0, x1.alloc _⟩
  case round =>
    clear h0 x1
    obtain ⟨j, rfl, hj, hown, hx⟩ := hrel
    by_cases hjn : j < n
    · obtain ⟨b, off, rfl, d0, d1, d2, d3⟩ := (hf.ext hx).at_ hjn
      have hok := (hf.ext hx).ok l[j] (List.getElem_mem _)
      have hal := Hall.out l[j] (List.getElem_mem _)
      have hsn := rput_snoc l j (by omega)
      have hle : (rput (l.take j)).length ≤ 16384 := by rw [rput_len]; have := fsum_take l j; omega
      have hfs := fsize_le l[j] hal.1 hok hal.2
      have HP := Lib.hid (ref03_one_f l[j] _ hal.1 hok hal.2)
      have hszw := hx.size
      change Hid (Calls _ _ _ _ fun e w' => ∃ v, e = .returned v ∧ w'.ownsRow _ 5 1 v (fsize l[j]) ((fbytes l[j]).map bv) ∧ _) at HP
      have hbl : (fbytes l[j]).length = fsize l[j] := rfl
      generalize l[j] = f at *
      generalize rput (l.take j) = R at *
      have Hsn := Lib.hid hsn; clear hsn
      have Hbl := Lib.hid hbl; clear hbl
      clear hal hok
      go_wp2_with fail
      refine HP.out.mono ?_
      rintro e w2 ⟨v2, rfl, hown2, y2⟩
      obtain ⟨A2, k2, rfl, _⟩ := own_form hown2
      have b2 := Rd.of_own hown2
      have hown' := own_ext hown y2
      have hz2 := y2.size
      go_wp2_with (at_builtin; refine wpList_app bytesT (by omega) _ rfl rfl rfl hown' rfl b2 (bvs_one _) (by unfold maxLen; omega) (by omega) (by omega) ?_; intro v3 w3 hown3 hg3 hat3)
      go_roundw
      case rel => exact ⟨j + 1, val_int (by omega), by omega, own_to hown3 (Nat.le_refl _) (by rw [Hsn.out, List.length_append, Hbl.out]) (by rw [Hsn.out, List.map_append]), Below.app (hx.trans y2) hg3 (by omega) hown' (Nat.le_refl _)⟩
      case measure => simp [intOf]; omega
    · obtain rfl : j = n := by omega
      rw [List.take_of_length_le (by omega)] at hown
      go_wp2
      go_ret2
      exact ⟨_, rfl, hown, hx⟩

set_option maxRecDepth 100000 in
set_option maxHeartbeats 1600000 in
theorem ref03_Split (most : Int) (A : Option Addr) (n c : Nat) (l : List FV) (w : World) (hf : Fs w A n l) (hn : n ≤ 1000) :
    Calls Try.prog 35 #[.slice A n c, .int .i64 most] w fun e w' => ∃ vK vQ, e = .returned (.tuple #[vK, vQ]) ∧ w'.ownsRow w.heap.size 42 4 vK (l.filter (loB most)).length (rowOf (l.filter (loB most))) ∧ w'.ownsRow w.heap.size 42 4 vQ (l.filter (fun f => !loB most f)).length (rowOf (l.filter (fun f => !loB most f))) ∧
      Ext w w' := by
  have hlen := hf.len
  have e1 := own_base (base' := w.heap.size) (own_ext (own_empty w 42 4) ((Ext.refl _).alloc (.cells #[] 42))) (Nat.le_refl _)
  have e2 := own_base (base' := w.heap.size) (own_empty (w.alloc (.cells #[] 42)) 42 4) (by simp)
  have hz : (w.alloc (.cells #[] 42)).heap.size = w.heap.size + 1 := by simp
  rw [hz] at e2
  have E1 := Lib.hid e1
  have E2 := Lib.hid e2
  clear e1 e2 hz
  go_enter Try.func35, Try.ntmps35
  go_wp2
  go_loopw [6, 7, 8] (fun vK vQ i wr => ∃ j : Nat, i = .int .i64 j ∧ j ≤ n ∧ wr.ownsRow w.heap.size 42 4 vK ((l.take j).filter (loB most)).length (rowOf ((l.take j).filter (loB most))) ∧ wr.ownsRow w.heap.size 42 4 vQ ((l.take j).filter (fun f => !loB most f)).length (rowOf ((l.take j).filter (fun f => !loB most f))) ∧ (vK.ownBlock = none ∨ vK.ownBlock ≠ vQ.ownBlock) ∧ Ext w wr) (fun _ _ i _ => n - (intOf i).toNat)
  case atStart =>
    exact ⟨0, rfl, by omega, by simpa [rowOf] using E1.out, by simpa [rowOf] using E2.out, .inr (by simp [Value.ownBlock]), ((Ext.refl w).alloc _).alloc _⟩
  case round =>
    clear E1 E2
    obtain ⟨j, rfl, hj, hK, hQ, hap, hx⟩ := hrel
    have hPl : ((l.take j).filter (loB most)).length ≤ j := Nat.le_trans (List.length_filter_le _ _) (List.length_take_le _ _)
    have hQl : ((l.take j).filter (fun f => !loB most f)).length ≤ j := Nat.le_trans (List.length_filter_le _ _) (List.length_take_le _ _)
    have Hap := Lib.hid hap
    clear hap
    by_cases hjn : j < n
    · obtain ⟨b, off, rfl, d0, d1, d2, d3⟩ := (hf.ext hx).at_ hjn
      have hjl : j < l.length := by omega
      have hs1 := filt_snoc (loB most) l j hjl
      have hs2 := filt_snoc (fun f => !loB most f) l j hjl
      obtain ⟨f, hfj⟩ : ∃ f, l[j]'hjl = f := ⟨_, rfl⟩
      simp only [hfj] at hs1 hs2 d0 d1 d2 d3
      clear hfj
      generalize (l.take j).filter (loB most) = PP at *
      generalize (l.take j).filter (fun f => !loB most f) = QQ at *
      have Hs1 := Lib.hid hs1
      have Hs2 := Lib.hid hs2
      clear hs1 hs2
      obtain ⟨num, wire, fn, fA, flen, fcap, fb⟩ := f
      dsimp only at d0 d1 d2 d3
      have hszw := hx.size
      by_cases hm : num ≤ most
      · have hlo : loB most ⟨num, wire, fn, fA, flen, fcap, fb⟩ = true := by simp [loB, hm]
        have Hlo := Lib.hid hlo; clear hlo
        have hK' := hK.alloc (.cells #[.int .i64 num, .int .i64 wire, .int .u64 fn, .slice fA flen fcap] 42)
        go_wp2_with (at_builtin; refine wpList_app fieldsT (by omega) _ rfl rfl rfl hK' rfl (rd_at4 _ (.int .i64 num) (.int .i64 wire) (.int .u64 fn) (.slice fA flen fcap) _ _ (by simp)) (fcells_one _ _ _ _ _ _) (by unfold maxLen; omega) (by omega) (by simp; omega) ?_; intro v2 w2 hown2 hg2 hat2)
        go_roundw
        case rel =>
          refine ⟨j + 1, val_int (by omega), by omega, ?_, ?_, ?_, ?_⟩
          · rw [Hs1.out, if_pos Hlo.out]
            exact own_to hown2 (Nat.le_refl _) (by simp) (by rw [rowOf_append, rowOf_one]; rfl)
          · rw [Hs2.out, if_neg (by rw [Hlo.out]; simp), List.append_nil]
            exact (hQ.alloc _).kept hg2 (own_ne Hap.out)
          · exact own_ne (apart_new (W := wr.alloc (.cells #[.int .i64 num, .int .i64 wire, .int .u64 fn, .slice fA flen fcap] 42)) hQ (by simp) (own_ne Hap.out) hat2)
          · exact Below.app (hx.alloc _) hg2 (by simp; omega) hK' (Nat.le_refl _)
        case measure => simp [intOf]; omega
      · have hlo : loB most ⟨num, wire, fn, fA, flen, fcap, fb⟩ = false := by simp [loB]; omega
        have Hlo := Lib.hid hlo; clear hlo
        have hQ' := hQ.alloc (.cells #[.int .i64 num, .int .i64 wire, .int .u64 fn, .slice fA flen fcap] 42)
        go_wp2_with (at_builtin; refine wpList_app fieldsT (by omega) _ rfl rfl rfl hQ' rfl (rd_at4 _ (.int .i64 num) (.int .i64 wire) (.int .u64 fn) (.slice fA flen fcap) _ _ (by simp)) (fcells_one _ _ _ _ _ _) (by unfold maxLen; omega) (by omega) (by simp; omega) ?_; intro v2 w2 hown2 hg2 hat2)
        go_roundw
        case rel =>
          refine ⟨j + 1, val_int (by omega), by omega, ?_, ?_, ?_, ?_⟩
          · rw [Hs1.out, if_neg (by rw [Hlo.out]; simp), List.append_nil]
            exact (hK.alloc _).kept hg2 Hap.out
          · rw [Hs2.out, if_pos (by rw [Hlo.out]; simp)]
            exact own_to hown2 (Nat.le_refl _) (by simp) (by rw [rowOf_append, rowOf_one]; rfl)
          · exact apart_new (W := wr.alloc (.cells #[.int .i64 num, .int .i64 wire, .int .u64 fn, .slice fA flen fcap] 42)) hK (by simp) Hap.out hat2
          · exact Below.app (hx.alloc _) hg2 (by simp; omega) hQ' (Nat.le_refl _)
        case measure => simp [intOf]; omega
    · obtain rfl : n = j := by omega
      rw [List.take_of_length_le (by omega)] at hK hQ
      go_wp2
      go_ret2
      exact ⟨_, _, rfl, hK, hQ, hx⟩
end Go.Proofs.Ytjfohlnkdagjcaa
