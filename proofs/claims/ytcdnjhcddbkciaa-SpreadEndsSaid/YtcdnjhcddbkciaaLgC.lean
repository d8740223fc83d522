/- The walks of cut, Match, slices.Clone of layer 17. (Printed once by hand.) -/
import Derived.Test.YtcdnjhcddbkciaaLogB
import Derived.Test.YtcdnjhcddbkciaaElB
namespace Go.Proofs.Ytcdnjhcddbkciaa
open Go.RowKit

set_option maxRecDepth 100000 in
set_option maxHeartbeats 1600000 in
theorem law17_cut (A : Option Addr) (n c : Nat) (l : List EV) (w : World) (hes : Es w A n l) (hnc : n ≤ c) (hcm : c ≤ maxLen) :
    Calls Try.prog 21 #[.slice A n c] w fun e w' => ∃ v, e = .returned v ∧ w'.ownsRow w.heap.size 36 2 v (min 40 n) (logOf (cutL 40 100 l)) ∧ Ext w w' := by
  have hlen := hes.len
  have hmx : n ≤ 9223372036854775807 := by unfold maxLen at hcm; omega
  clear hcm
  have h0 := own_empty w 36 2
  go_enter Try.func21, Try.ntmps21
  go_wp2
  go_loopw [3, 4] (fun v i wr => ∃ j : Nat, i = .int .i64 j ∧ j ≤ n ∧ j ≤ 40 ∧ wr.ownsRow w.heap.size 36 2 v j (logOf ((cutL 40 100 l).take j)) ∧ Ext w wr) (fun _ i _ => 40 - (intOf i).toNat)
  case atStart => exact ⟨0, rfl, by omega, by omega, by simpa [logOf] using h0, (Ext.refl _).alloc _⟩
  case round =>
    obtain ⟨j, rfl, hj, hjm, hown, hx⟩ := hrel
    clear h0
    by_cases hlt : j < n ∧ j < 40
    · obtain ⟨hjn, hj7⟩ := hlt
      obtain ⟨b, off, rfl, c0, c1⟩ := (hes.ext hx).at_ hjn
      have hyc := ((hes.ext hx).ok l[j] (List.getElem_mem _)).le
      have hsn := cutL_snoc 40 100 l j (by omega) hj7
      generalize l[j] = y at *
      obtain ⟨yt, yA, yl, yc, yb⟩ := y
      dsimp only at c0 c1 hyc
      have Hsn := Lib.hid hsn; clear hsn
      have hszw := hx.size
      by_cases hc : 100 < yl
      · go_wp2_with (at_builtin; refine wpList_app entsT (by omega) _ rfl rfl rfl ((hown.alloc _).alloc _) rfl (rd_at2 _ (.int .i64 yt) (.slice yA 100 yc) _ _ (by simp)) (ecells_one _ _ _ _) (by unfold maxLen; omega) (by omega) (by simp; omega) ?_; intro v1 w1 hown1 hg1 hat1)
        go_roundw
        case rel => exact ⟨j + 1, val_int (by omega), by omega, by omega, own_to hown1 (Nat.le_refl _) rfl (by rw [Hsn.out, logOf_append, logOf_one]; simp [cutE, hc, EV.cells]), Below.app ((hx.alloc _).alloc _) hg1 (by simp; omega) ((hown.alloc _).alloc _) (Nat.le_refl _)⟩
        case measure => simp [intOf]; omega
      · go_wp2_with (at_builtin; refine wpList_app entsT (by omega) _ rfl rfl rfl ((hown.alloc _).alloc _) rfl (rd_at2 _ (.int .i64 yt) (.slice yA yl yc) _ _ (by simp)) (ecells_one _ _ _ _) (by unfold maxLen; omega) (by omega) (by simp; omega) ?_; intro v1 w1 hown1 hg1 hat1)
        go_roundw
        case rel => exact ⟨j + 1, val_int (by omega), by omega, by omega, own_to hown1 (Nat.le_refl _) rfl (by rw [Hsn.out, logOf_append, logOf_one]; simp [cutE, hc, EV.cells]), Below.app ((hx.alloc _).alloc _) hg1 (by simp; omega) ((hown.alloc _).alloc _) (Nat.le_refl _)⟩
        case measure => simp [intOf]; omega
    · have hjm : j = min 40 n := by omega
      have hown' := own_to (base' := w.heap.size) (ys := logOf (cutL 40 100 l)) hown (by omega) hjm (by rw [List.take_of_length_le (by rw [cutL_len]; omega)])
      have Hown := Lib.hid hown'
      have hcs : j = n ∨ j < n ∧ j = 40 := by omega
      clear hown hown' hjm hlt hes
      rcases hcs with rfl | ⟨hjn, rfl⟩
      · go_wp2
        go_ret
        exact ⟨_, rfl, Hown.out, hx⟩
      · have t1 : decide ((40 : Int) < (n : Int)) = true := dec_t (by omega)
        go_wp2
        go_ret
        exact ⟨_, rfl, Hown.out, hx⟩
set_option maxRecDepth 100000 in
theorem logs_Match (A : Option Addr) (n c : Nat) (l : List EV) (a t : Int) (w : World) (hf : Es w A n l) (hn : n ≤ 1000) :
    Calls Try.prog 26 #[.slice A n c, .int .i64 a, .int .i64 t] w fun e w' => e = .returned (.bool (termB l a == t)) ∧ w = w' := by
  have HT := Lib.hid (logs_Term A n c l a w hf hn)
  generalize termB l a = u at *
  clear hf
  go_enter Try.func26, Try.ntmps26
  go_wp2_with fail
  refine HT.out.mono ?_
  rintro e w1 ⟨rfl, rfl⟩
  go_wp2
  go_ret
  exact ⟨rfl, rfl⟩
set_option maxRecDepth 100000 in
theorem ref17_Match (A : Option Addr) (n c : Nat) (l : List EV) (a t : Int) (w : World) (hf : Es w A n l) (hn : n ≤ 1000) :
    Calls Try.prog 34 #[.slice A n c, .int .i64 a, .int .i64 t] w fun e w' => e = .returned (.bool (termB l a == t)) ∧ w = w' := by
  have HT := Lib.hid (ref17_Term A n c l a w hf hn)
  generalize termB l a = u at *
  clear hf
  go_enter Try.func34, Try.ntmps34
  go_wp2_with fail
  refine HT.out.mono ?_
  rintro e w1 ⟨rfl, rfl⟩
  go_wp2
  go_ret
  exact ⟨rfl, rfl⟩

set_option maxRecDepth 100000 in
set_option maxHeartbeats 400000 in
theorem ents_Clone (A : Option Addr) (n c : Nat) (l : List EV) (w : World) (hb : Es w A n l) (hn : n ≤ 100000) :
    Calls Try.prog 62 #[.slice A n c] w fun e w' => ∃ v, e = .returned v ∧ w'.ownsRow w.heap.size 36 2 v n (logOf l) ∧ Ext w w' := by
  have he := fun w => Lib.run_eql_slice_nil (P := Try.prog) w 26 36 A n c 0 0 Try.underlying26
  rcases A with _ | a
  · have h0 : n = 0 := by
      rcases Nat.eq_zero_or_pos n with h | h
      · exact h
      · obtain ⟨b, off, h', _⟩ := hb.at_ h; cases h'
    subst h0
    have hl : l = [] := List.eq_nil_of_length_eq_zero hb.len
    subst hl
    simp only [Option.isNone_none] at he
    clear hb
    go_enter Try.func62, Try.ntmps62
    go_wp2
    go_ret
    exact ⟨_, rfl, World.ownsRow_nil _ _ _ _, Ext.refl w⟩
  · simp only [Option.isNone_some] at he
    have hemp := own_empty w 36 2
    go_enter Try.func62, Try.ntmps62
    go_wp2_with (at_builtin; refine wpList_app entsT (by omega) _ rfl rfl rfl hemp rfl (hb.rd.alloc _) (logOf_cells _) (by unfold maxLen; omega) (by omega) (by simp) ?_; intro v4 w4 hown4 hg4 hat4)
    go_ret
    exact ⟨_, rfl, own_to hown4 (Nat.le_refl _) (by omega) (by simp), Below.app ((Ext.refl w).alloc _) hg4 (by simp) hemp (Nat.le_refl _)⟩
end Go.Proofs.Ytcdnjhcddbkciaa
