/- The walks of stable and letter of layer 18's laws. -/
import Derived.Test.YtcdnjhcddbkciaaElA
namespace Go.Proofs.Ytcdnjhcddbkciaa
open Go.RowKit

set_option maxRecDepth 100000 in
set_option maxHeartbeats 1600000 in
theorem law18_stable (floor term vote : Int) (A : Option Addr) (n c : Nat) (l : List EV) (w : World) (hes : Es w A n l) (hnc : n ≤ c) (hcm : c ≤ maxLen) :
    Calls Try.prog 37 #[.agg #[.int .i64 floor, .int .i64 term, .int .i64 vote, .slice A n c]] w fun e w' => ∃ v, e = .returned (.agg #[.int .i64 floor, .int .i64 term, .int .i64 vote, v]) ∧ w'.ownsRow w.heap.size 36 2 v (min 70 n) (logOf (cutL 70 250 l)) ∧ Ext w w' := by
  have hlen := hes.len
  have hmx : n ≤ 9223372036854775807 := by unfold maxLen at hcm; omega
  clear hcm
  have hB1 : Blk ((w.alloc (.cells #[.int .i64 floor, .int .i64 term, .int .i64 vote, .slice A n c] 45)).alloc (.cells #[.int .i64 0, .int .i64 0, .int .i64 0, .slice none 0 0] 45)) w.heap.size 45 [.int .i64 floor, .int .i64 term, .int .i64 vote, .slice A n c] := (Blk.new w 45 [.int .i64 floor, .int .i64 term, .int .i64 vote, .slice A n c]).alloc _
  have hB2 : Blk ((w.alloc (.cells #[.int .i64 floor, .int .i64 term, .int .i64 vote, .slice A n c] 45)).alloc (.cells #[.int .i64 0, .int .i64 0, .int .i64 0, .slice none 0 0] 45)) (w.heap.size + 1) 45 [.int .i64 0, .int .i64 0, .int .i64 0, .slice none 0 0] := by
    have := Blk.new (w.alloc (.cells #[.int .i64 floor, .int .i64 term, .int .i64 vote, .slice A n c] 45)) 45 [.int .i64 0, .int .i64 0, .int .i64 0, .slice none 0 0]
    simpa using this
  have hes0 : Es ((w.alloc (.cells #[.int .i64 floor, .int .i64 term, .int .i64 vote, .slice A n c] 45)).alloc (.cells #[.int .i64 0, .int .i64 0, .int .i64 0, .slice none 0 0] 45)) A n l := hes.ext (((Ext.refl w).alloc _).alloc _)
  have hx0 : Ext w ((w.alloc (.cells #[.int .i64 floor, .int .i64 term, .int .i64 vote, .slice A n c] 45)).alloc (.cells #[.int .i64 0, .int .i64 0, .int .i64 0, .slice none 0 0] 45)) := ((Ext.refl w).alloc _).alloc _
  have hz0 : ((w.alloc (.cells #[.int .i64 floor, .int .i64 term, .int .i64 vote, .slice A n c] 45)).alloc (.cells #[.int .i64 0, .int .i64 0, .int .i64 0, .slice none 0 0] 45)).heap.size = w.heap.size + 2 := by simp
  have h0 := own_empty ((w.alloc (.cells #[.int .i64 floor, .int .i64 term, .int .i64 vote, .slice A n c] 45)).alloc (.cells #[.int .i64 0, .int .i64 0, .int .i64 0, .slice none 0 0] 45)) 36 2
  rw [hz0] at h0
  have Hz0 := Lib.hid hz0; clear hz0 hes
  go_enter Try.func37, Try.ntmps37
  go_wp2
  go_loopw [3, 4] (fun v i wr => ∃ j : Nat, i = .int .i64 j ∧ j ≤ n ∧ j ≤ 70 ∧ wr.ownsRow (w.heap.size + 2) 36 2 v j (logOf ((cutL 70 250 l).take j)) ∧ Ext ((w.alloc (.cells #[.int .i64 floor, .int .i64 term, .int .i64 vote, .slice A n c] 45)).alloc (.cells #[.int .i64 0, .int .i64 0, .int .i64 0, .slice none 0 0] 45)) wr) (fun _ i _ => 70 - (intOf i).toNat)
  case atStart => exact ⟨0, rfl, by omega, by omega, by simpa [logOf] using h0, (Ext.refl _).alloc _⟩
  case round =>
    obtain ⟨j, rfl, hj, hjm, hown, hx⟩ := hrel
    replace hB1 := hB1.ext hx
    replace hB2 := hB2.ext hx
    clear h0
    by_cases hlt : j < n ∧ j < 70
    · obtain ⟨hjn, hj7⟩ := hlt
      obtain ⟨b, off, rfl, c0, c1⟩ := (hes0.ext hx).at_ hjn
      have hyc := ((hes0.ext hx).ok l[j] (List.getElem_mem _)).le
      have hsn := cutL_snoc 70 250 l j (by omega) hj7
      generalize l[j] = y at *
      obtain ⟨yt, yA, yl, yc, yb⟩ := y
      dsimp only at c0 c1 hyc
      have Hsn := Lib.hid hsn; clear hsn
      have hs3 := hB1.cell 3
      simp only [List.getElem?_cons_zero, List.getElem?_cons_succ] at hs3
      have hszw := hx.size
      rw [Hz0.out] at hszw
      have HB := Lib.hid hB1
      clear hB1 hB2
      by_cases hc : 250 < yl
      · go_wp2_with (at_builtin; refine wpList_app entsT (by omega) _ rfl rfl rfl ((hown.alloc _).alloc _) rfl (rd_at2 _ (.int .i64 yt) (.slice yA 250 yc) _ _ (by simp)) (ecells_one _ _ _ _) (by unfold maxLen; omega) (by omega) (by simp; omega) ?_; intro v1 w1 hown1 hg1 hat1)
        go_roundw
        case rel => exact ⟨j + 1, val_int (by omega), by omega, by omega, own_to hown1 (Nat.le_refl _) rfl (by rw [Hsn.out, logOf_append, logOf_one]; simp [cutE, hc, EV.cells]), Below.app ((hx.alloc _).alloc _) hg1 (by rw [Hz0.out]; simp; omega) ((hown.alloc _).alloc _) (by rw [Hz0.out]; omega)⟩
        case measure => simp [intOf]; omega
      · go_wp2_with (at_builtin; refine wpList_app entsT (by omega) _ rfl rfl rfl ((hown.alloc _).alloc _) rfl (rd_at2 _ (.int .i64 yt) (.slice yA yl yc) _ _ (by simp)) (ecells_one _ _ _ _) (by unfold maxLen; omega) (by omega) (by simp; omega) ?_; intro v1 w1 hown1 hg1 hat1)
        go_roundw
        case rel => exact ⟨j + 1, val_int (by omega), by omega, by omega, own_to hown1 (Nat.le_refl _) rfl (by rw [Hsn.out, logOf_append, logOf_one]; simp [cutE, hc, EV.cells]), Below.app ((hx.alloc _).alloc _) hg1 (by rw [Hz0.out]; simp; omega) ((hown.alloc _).alloc _) (by rw [Hz0.out]; omega)⟩
        case measure => simp [intOf]; omega
    · have hjm : j = min 70 n := by omega
      have hown' := own_to (base' := w.heap.size + 2) (ys := logOf (cutL 70 250 l)) hown (by omega) rfl (by rw [List.take_of_length_le (by rw [cutL_len]; omega)])
      obtain ⟨A', c', rfl, hc'⟩ := own_form hown'
      have Hown := Lib.hid hown'
      have hcs : j = n ∨ j < n ∧ j = 70 := by omega
      clear hown hown' hc' hjm hlt
      have c0 := hB1.cell 0
      have c1 := hB1.cell 1
      have c2 := hB1.cell 2
      have c3 := hB1.cell 3
      have f3 := hB1.frozen 3
      have d0 := hB2.cell 0
      have e0 := hB2.frozen 0
      have d1 := hB2.cell 1
      have e1 := hB2.frozen 1
      have d2 := hB2.cell 2
      have e2 := hB2.frozen 2
      have d3 := hB2.cell 3
      have e3 := hB2.frozen 3
      simp only [List.getElem?_cons_zero, List.getElem?_cons_succ] at c0 d0 c1 d1 c2 d2 c3 d3
      have hz := hx.size
      rw [Hz0.out] at hz
      have hlt1 : w.heap.size + 1 < wr.heap.size := by omega
      have hx' : Ext w wr := hx0.trans hx
      clear hB1 hB2 hes0 hx0 hx
      rcases hcs with rfl | ⟨hjn, rfl⟩
      · go_wp2
        refine bodyPost_ret (v := .agg #[.int .i64 floor, .int .i64 term, .int .i64 vote, .slice A' j c']) (by simp [results, Try.results37, go_sem, d0, d1, d2, d3]) rfl ⟨_, rfl, ?_, ?_⟩
        · refine own_base (base := w.heap.size + 2) ?_ (by omega)
          repeat (refine own_set ?_ (by simp) _)
          exact own_to Hown.out (Nat.le_refl _) (by omega) rfl
        · repeat (refine Ext.setCell ?_ (by simp) _)
          exact hx'
      · have t1 : decide ((70 : Int) < (n : Int)) = true := dec_t (by omega)
        go_wp2
        refine bodyPost_ret (v := .agg #[.int .i64 floor, .int .i64 term, .int .i64 vote, .slice A' 70 c']) (by simp [results, Try.results37, go_sem, d0, d1, d2, d3]) rfl ⟨_, rfl, ?_, ?_⟩
        · refine own_base (base := w.heap.size + 2) ?_ (by omega)
          repeat (refine own_set ?_ (by simp) _)
          exact own_to Hown.out (Nat.le_refl _) (by omega) rfl
        · repeat (refine Ext.setCell ?_ (by simp) _)
          exact hx'

set_option maxRecDepth 100000 in
set_option maxHeartbeats 1600000 in
theorem law18_letter (kind src dst term la lb lc bin : Int) (ok : Bool) (A : Option Addr) (n c : Nat) (l : List EV) (w : World) (hes : Es w A n l) (hnc : n ≤ c) (hcm : c ≤ maxLen) :
    Calls Try.prog 38 #[.agg #[.int .i64 kind, .int .i64 src, .int .i64 dst, .int .i64 term, .int .i64 la, .int .i64 lb, .int .i64 lc, .int .i64 bin, .bool ok, .slice A n c]] w fun e w' => ∃ v, e = .returned (.agg #[.int .i64 kind, .int .i64 src, .int .i64 dst, .int .i64 term, .int .i64 la, .int .i64 lb, .int .i64 lc, .int .i64 bin, .bool ok, v]) ∧ w'.ownsRow w.heap.size 36 2 v (min 6 n) (logOf (cutL 6 250 l)) ∧ Ext w w' := by
  have hlen := hes.len
  have hmx : n ≤ 9223372036854775807 := by unfold maxLen at hcm; omega
  clear hcm
  have hB1 : Blk ((w.alloc (.cells #[.int .i64 kind, .int .i64 src, .int .i64 dst, .int .i64 term, .int .i64 la, .int .i64 lb, .int .i64 lc, .int .i64 bin, .bool ok, .slice A n c] 47)).alloc (.cells #[.int .i64 0, .int .i64 0, .int .i64 0, .int .i64 0, .int .i64 0, .int .i64 0, .int .i64 0, .int .i64 0, .bool false, .slice none 0 0] 47)) w.heap.size 47 [.int .i64 kind, .int .i64 src, .int .i64 dst, .int .i64 term, .int .i64 la, .int .i64 lb, .int .i64 lc, .int .i64 bin, .bool ok, .slice A n c] := (Blk.new w 47 [.int .i64 kind, .int .i64 src, .int .i64 dst, .int .i64 term, .int .i64 la, .int .i64 lb, .int .i64 lc, .int .i64 bin, .bool ok, .slice A n c]).alloc _
  have hB2 : Blk ((w.alloc (.cells #[.int .i64 kind, .int .i64 src, .int .i64 dst, .int .i64 term, .int .i64 la, .int .i64 lb, .int .i64 lc, .int .i64 bin, .bool ok, .slice A n c] 47)).alloc (.cells #[.int .i64 0, .int .i64 0, .int .i64 0, .int .i64 0, .int .i64 0, .int .i64 0, .int .i64 0, .int .i64 0, .bool false, .slice none 0 0] 47)) (w.heap.size + 1) 47 [.int .i64 0, .int .i64 0, .int .i64 0, .int .i64 0, .int .i64 0, .int .i64 0, .int .i64 0, .int .i64 0, .bool false, .slice none 0 0] := by
    have := Blk.new (w.alloc (.cells #[.int .i64 kind, .int .i64 src, .int .i64 dst, .int .i64 term, .int .i64 la, .int .i64 lb, .int .i64 lc, .int .i64 bin, .bool ok, .slice A n c] 47)) 47 [.int .i64 0, .int .i64 0, .int .i64 0, .int .i64 0, .int .i64 0, .int .i64 0, .int .i64 0, .int .i64 0, .bool false, .slice none 0 0]
    simpa using this
  have hes0 : Es ((w.alloc (.cells #[.int .i64 kind, .int .i64 src, .int .i64 dst, .int .i64 term, .int .i64 la, .int .i64 lb, .int .i64 lc, .int .i64 bin, .bool ok, .slice A n c] 47)).alloc (.cells #[.int .i64 0, .int .i64 0, .int .i64 0, .int .i64 0, .int .i64 0, .int .i64 0, .int .i64 0, .int .i64 0, .bool false, .slice none 0 0] 47)) A n l := hes.ext (((Ext.refl w).alloc _).alloc _)
  have hx0 : Ext w ((w.alloc (.cells #[.int .i64 kind, .int .i64 src, .int .i64 dst, .int .i64 term, .int .i64 la, .int .i64 lb, .int .i64 lc, .int .i64 bin, .bool ok, .slice A n c] 47)).alloc (.cells #[.int .i64 0, .int .i64 0, .int .i64 0, .int .i64 0, .int .i64 0, .int .i64 0, .int .i64 0, .int .i64 0, .bool false, .slice none 0 0] 47)) := ((Ext.refl w).alloc _).alloc _
  have hz0 : ((w.alloc (.cells #[.int .i64 kind, .int .i64 src, .int .i64 dst, .int .i64 term, .int .i64 la, .int .i64 lb, .int .i64 lc, .int .i64 bin, .bool ok, .slice A n c] 47)).alloc (.cells #[.int .i64 0, .int .i64 0, .int .i64 0, .int .i64 0, .int .i64 0, .int .i64 0, .int .i64 0, .int .i64 0, .bool false, .slice none 0 0] 47)).heap.size = w.heap.size + 2 := by simp
  have h0 := own_empty ((w.alloc (.cells #[.int .i64 kind, .int .i64 src, .int .i64 dst, .int .i64 term, .int .i64 la, .int .i64 lb, .int .i64 lc, .int .i64 bin, .bool ok, .slice A n c] 47)).alloc (.cells #[.int .i64 0, .int .i64 0, .int .i64 0, .int .i64 0, .int .i64 0, .int .i64 0, .int .i64 0, .int .i64 0, .bool false, .slice none 0 0] 47)) 36 2
  rw [hz0] at h0
  have Hz0 := Lib.hid hz0; clear hz0 hes
  go_enter Try.func38, Try.ntmps38
  go_wp2
  go_loopw [3, 4] (fun v i wr => ∃ j : Nat, i = .int .i64 j ∧ j ≤ n ∧ j ≤ 6 ∧ wr.ownsRow (w.heap.size + 2) 36 2 v j (logOf ((cutL 6 250 l).take j)) ∧ Ext ((w.alloc (.cells #[.int .i64 kind, .int .i64 src, .int .i64 dst, .int .i64 term, .int .i64 la, .int .i64 lb, .int .i64 lc, .int .i64 bin, .bool ok, .slice A n c] 47)).alloc (.cells #[.int .i64 0, .int .i64 0, .int .i64 0, .int .i64 0, .int .i64 0, .int .i64 0, .int .i64 0, .int .i64 0, .bool false, .slice none 0 0] 47)) wr) (fun _ i _ => 6 - (intOf i).toNat)
  case atStart => exact ⟨0, rfl, by omega, by omega, by simpa [logOf] using h0, (Ext.refl _).alloc _⟩
  case round =>
    obtain ⟨j, rfl, hj, hjm, hown, hx⟩ := hrel
    replace hB1 := hB1.ext hx
    replace hB2 := hB2.ext hx
    clear h0
    by_cases hlt : j < n ∧ j < 6
    · obtain ⟨hjn, hj7⟩ := hlt
      obtain ⟨b, off, rfl, c0, c1⟩ := (hes0.ext hx).at_ hjn
      have hyc := ((hes0.ext hx).ok l[j] (List.getElem_mem _)).le
      have hsn := cutL_snoc 6 250 l j (by omega) hj7
      generalize l[j] = y at *
      obtain ⟨yt, yA, yl, yc, yb⟩ := y
      dsimp only at c0 c1 hyc
      have Hsn := Lib.hid hsn; clear hsn
      have hs3 := hB1.cell 9
      simp only [List.getElem?_cons_zero, List.getElem?_cons_succ] at hs3
      have hszw := hx.size
      rw [Hz0.out] at hszw
      have HB := Lib.hid hB1
      clear hB1 hB2
      by_cases hc : 250 < yl
      · go_wp2_with (at_builtin; refine wpList_app entsT (by omega) _ rfl rfl rfl ((hown.alloc _).alloc _) rfl (rd_at2 _ (.int .i64 yt) (.slice yA 250 yc) _ _ (by simp)) (ecells_one _ _ _ _) (by unfold maxLen; omega) (by omega) (by simp; omega) ?_; intro v1 w1 hown1 hg1 hat1)
        go_roundw
        case rel => exact ⟨j + 1, val_int (by omega), by omega, by omega, own_to hown1 (Nat.le_refl _) rfl (by rw [Hsn.out, logOf_append, logOf_one]; simp [cutE, hc, EV.cells]), Below.app ((hx.alloc _).alloc _) hg1 (by rw [Hz0.out]; simp; omega) ((hown.alloc _).alloc _) (by rw [Hz0.out]; omega)⟩
        case measure => simp [intOf]; omega
      · go_wp2_with (at_builtin; refine wpList_app entsT (by omega) _ rfl rfl rfl ((hown.alloc _).alloc _) rfl (rd_at2 _ (.int .i64 yt) (.slice yA yl yc) _ _ (by simp)) (ecells_one _ _ _ _) (by unfold maxLen; omega) (by omega) (by simp; omega) ?_; intro v1 w1 hown1 hg1 hat1)
        go_roundw
        case rel => exact ⟨j + 1, val_int (by omega), by omega, by omega, own_to hown1 (Nat.le_refl _) rfl (by rw [Hsn.out, logOf_append, logOf_one]; simp [cutE, hc, EV.cells]), Below.app ((hx.alloc _).alloc _) hg1 (by rw [Hz0.out]; simp; omega) ((hown.alloc _).alloc _) (by rw [Hz0.out]; omega)⟩
        case measure => simp [intOf]; omega
    · have hjm : j = min 6 n := by omega
      have hown' := own_to (base' := w.heap.size + 2) (ys := logOf (cutL 6 250 l)) hown (by omega) rfl (by rw [List.take_of_length_le (by rw [cutL_len]; omega)])
      obtain ⟨A', c', rfl, hc'⟩ := own_form hown'
      have Hown := Lib.hid hown'
      have hcs : j = n ∨ j < n ∧ j = 6 := by omega
      clear hown hown' hc' hjm hlt
      have c0 := hB1.cell 0
      have c1 := hB1.cell 1
      have c2 := hB1.cell 2
      have c3 := hB1.cell 3
      have c4 := hB1.cell 4
      have c5 := hB1.cell 5
      have c6 := hB1.cell 6
      have c7 := hB1.cell 7
      have c8 := hB1.cell 8
      have c9 := hB1.cell 9
      have f9 := hB1.frozen 9
      have d0 := hB2.cell 0
      have e0 := hB2.frozen 0
      have d1 := hB2.cell 1
      have e1 := hB2.frozen 1
      have d2 := hB2.cell 2
      have e2 := hB2.frozen 2
      have d3 := hB2.cell 3
      have e3 := hB2.frozen 3
      have d4 := hB2.cell 4
      have e4 := hB2.frozen 4
      have d5 := hB2.cell 5
      have e5 := hB2.frozen 5
      have d6 := hB2.cell 6
      have e6 := hB2.frozen 6
      have d7 := hB2.cell 7
      have e7 := hB2.frozen 7
      have d8 := hB2.cell 8
      have e8 := hB2.frozen 8
      have d9 := hB2.cell 9
      have e9 := hB2.frozen 9
      simp only [List.getElem?_cons_zero, List.getElem?_cons_succ] at c0 d0 c1 d1 c2 d2 c3 d3 c4 d4 c5 d5 c6 d6 c7 d7 c8 d8 c9 d9
      have hz := hx.size
      rw [Hz0.out] at hz
      have hlt1 : w.heap.size + 1 < wr.heap.size := by omega
      have hx' : Ext w wr := hx0.trans hx
      clear hB1 hB2 hes0 hx0 hx
      rcases hcs with rfl | ⟨hjn, rfl⟩
      · go_wp2
        refine bodyPost_ret (v := .agg #[.int .i64 kind, .int .i64 src, .int .i64 dst, .int .i64 term, .int .i64 la, .int .i64 lb, .int .i64 lc, .int .i64 bin, .bool ok, .slice A' j c']) (by simp [results, Try.results38, go_sem, d0, d1, d2, d3, d4, d5, d6, d7, d8, d9]) rfl ⟨_, rfl, ?_, ?_⟩
        · refine own_base (base := w.heap.size + 2) ?_ (by omega)
          repeat (refine own_set ?_ (by simp) _)
          exact own_to Hown.out (Nat.le_refl _) (by omega) rfl
        · repeat (refine Ext.setCell ?_ (by simp) _)
          exact hx'
      · have t1 : decide ((6 : Int) < (n : Int)) = true := dec_t (by omega)
        go_wp2
        refine bodyPost_ret (v := .agg #[.int .i64 kind, .int .i64 src, .int .i64 dst, .int .i64 term, .int .i64 la, .int .i64 lb, .int .i64 lc, .int .i64 bin, .bool ok, .slice A' 6 c']) (by simp [results, Try.results38, go_sem, d0, d1, d2, d3, d4, d5, d6, d7, d8, d9]) rfl ⟨_, rfl, ?_, ?_⟩
        · refine own_base (base := w.heap.size + 2) ?_ (by omega)
          repeat (refine own_set ?_ (by simp) _)
          exact own_to Hown.out (Nat.le_refl _) (by omega) rfl
        · repeat (refine Ext.setCell ?_ (by simp) _)
          exact hx'
end Go.Proofs.Ytcdnjhcddbkciaa
