/- The document's Behind and Major of layer 17. -/
import Derived.Test.YtcdnjhcddbkciaaLgN
import Derived.Test.YtcdnjhcddbkciaaLgM
namespace Go.Proofs.Ytcdnjhcddbkciaa
open Go.RowKit

set_option maxRecDepth 100000 in
set_option maxHeartbeats 1600000 in
theorem ref17_Behind (A : Option Addr) (n c : Nat) (l : List EV) (b q : Int) (w : World) (h1 : Es w A n l) (hn : n ≤ 1000) :
    Calls Try.prog 31 #[.slice A n c, .int .i64 b, .int .i64 q] w fun e w' => ∃ v, e = .returned v ∧ w'.ownsRow w.heap.size 36 2 v (behB l b q).length (logOf (behB l b q)) ∧ Ext w w' := by
  have hl1 := h1.len
  have hemp := own_empty w 36 2
  have x0 : Ext w (w.alloc (.cells #[] 36)) := (Ext.refl w).alloc _
  by_cases c0 : b < 0
  · have e0 : behB l b q = [] := by unfold behB; rw [if_pos (Or.inl c0)]
    rw [e0]
    have t0 := dec_f (show ¬ 0 ≤ b by omega)
    clear e0 hl1 h1
    go_enter Try.func31, Try.ntmps31
    go_wp2
    go_loopw [7, 8] (fun v i wr => v = .slice (some ⟨w.heap.size, 0, none⟩) 0 0 ∧ i = .int .i64 b ∧ wr = w.alloc (.cells #[] 36)) (fun _ _ _ => 0)
    case atStart => exact ⟨rfl, rfl, rfl⟩
    case round =>
      obtain ⟨rfl, rfl, rfl⟩ := hrel
      go_wp2
      go_ret
      exact ⟨_, rfl, hemp, x0⟩
  obtain ⟨k, rfl⟩ : ∃ k : Nat, b = k := ⟨b.toNat, by omega⟩
  have hB : behB l k q = if (n : Int) < k ∨ q < 1 then [] else (l.drop k).take q.toNat := by
    unfold behB
    rw [hl1]
    by_cases h : (n : Int) < k ∨ q < 1
    · rw [if_pos (Or.inr h), if_pos h]
    · rw [if_neg (by omega), if_neg h]; rfl
  have t0 := dec_t (show (0 : Int) ≤ k by omega)
  have HL : Hid (∀ j, j < n - k → (j : Int) < q → k < n → (behB l k q).take (j + 1) = (behB l k q).take j ++ [l[k + j]?.getD ⟨0, none, 0, 0, []⟩] ∧ j + 1 ≤ (behB l k q).length) := Lib.hid (fun j hj hq hk => by
    have h : ¬ ((n : Int) < k ∨ q < 1) := by omega
    rw [hB, if_neg h]
    have hlen : ((l.drop k).take q.toNat).length = min q.toNat (n - k) := by rw [List.length_take, List.length_drop, hl1]
    have hjl : j < ((l.drop k).take q.toNat).length := by omega
    refine ⟨?_, by omega⟩
    rw [List.take_succ_eq_append_getElem hjl, List.getElem_take, List.getElem_drop, List.getElem?_eq_getElem (by omega)]
    rfl)
  have HE : Hid (∀ j : Nat, (n ≤ k + j ∨ q ≤ j) → (behB l k q).length ≤ j) := Lib.hid (fun j hj => by
    rw [hB]
    by_cases h : (n : Int) < k ∨ q < 1
    · rw [if_pos h]; simp
    · rw [if_neg h, List.length_take, List.length_drop, hl1]; omega)
  clear hB c0
  generalize behB l k q = r at *
  go_enter Try.func31, Try.ntmps31
  go_wp2
  go_loopw [7, 8] (fun v i wr => ∃ (j i0 : Nat), i = .int .i64 i0 ∧ Hid (i0 = k + j) ∧ j ≤ r.length ∧ j ≤ n ∧ (j = 0 ∨ k + j ≤ n) ∧ wr.ownsRow w.heap.size 36 2 v j (logOf (r.take j)) ∧ Ext w wr) (fun _ i _ => n - (intOf i).toNat)
  case atStart => exact ⟨0, k, rfl, Lib.hid rfl, by omega, by omega, .inl rfl, by simpa [logOf] using hemp, x0⟩
  case round =>
    obtain ⟨j, i, rfl, HI, hj, hjn, hkj, hown, hx⟩ := hrel
    clear hemp x0
    have hi := HI.out
    obtain ⟨Av, cv, rfl, _⟩ := own_form hown
    by_cases hlt : i < n ∧ (j : Int) < q
    · obtain ⟨hl2, hl3⟩ := hlt
      obtain ⟨g1, g2⟩ := HL.out j (by omega) hl3 (by omega)
      obtain ⟨bb, off, rfl, p0, p1⟩ := (h1.ext hx).at_ hl2
      rw [← hi, List.getElem?_eq_getElem (by omega)] at g1
      have hG : Hid (r.take (j + 1) = r.take j ++ [l[i]'(by omega)]) := Lib.hid g1
      clear g1
      generalize l[i]'(by omega) = y at *
      obtain ⟨yt, yA, yl, yc, yb⟩ := y
      dsimp only at p0 p1
      have d1 := dec_t hl2
      have d1b := dec_t (show (i : Int) < n by omega)
      have d2 := dec_t hl3
      have hsz := hx.size
      have e1 : IntKind.i64.wrap ((i : Int) + 1) = (i : Int) + 1 := IntWalk.i64_in _ (by omega)
      have q0 : (0 : Int) ≤ (i : Int) := by omega
      have q1 : (i : Int) < (n : Int) := by omega
      have m1 : j + 1 ≤ n := by omega
      have m2 : k + (j + 1) ≤ n := by omega
      have HI2 : Hid (i + 1 = k + (j + 1)) := Lib.hid (by omega)
      clear HL HE hl1 hi HI hkj
      go_wp2_with (at_builtin; refine wpList_app entsT (by omega) _ rfl rfl rfl (hown.alloc _) rfl (rd_at2 _ (.int .i64 yt) (.slice yA yl yc) _ _ (by simp)) (ecells_one _ _ _ _) (by unfold maxLen; omega) (by omega) (by simp; omega) ?_; intro v5 w5 hown5 hg5 hat5; have x5 : Ext w w5 := Below.app (hx.alloc _) hg5 (by simp; omega) (hown.alloc _) (Nat.le_refl _); clear hg5 hat5)
      go_roundw
      case rel => exact ⟨j + 1, i + 1, val_int (by omega), HI2, g2, m1, .inr m2, own_to hown5 (Nat.le_refl _) rfl (by rw [hG.out, logOf_append, logOf_one]; rfl), x5⟩
      case measure => simp [intOf]; omega
    · have hj2 : j = r.length := by have := HE.out j (by omega); omega
      have htk : r.take j = r := List.take_of_length_le (by omega)
      rw [htk] at hown
      have HO := Lib.hid (own_to hown (n' := r.length) (Nat.le_refl _) hj2 rfl)
      have HV : Hid (j = r.length) := Lib.hid hj2
      clear HL HE hl1 htk hj2 hj hown
      rcases Nat.lt_or_ge i n with hc | hc
      · have d1 := dec_t hc
        have d1b := dec_t (show (i : Int) < n by omega)
        have d2 := dec_f (show ¬ (j : Int) < q by omega)
        clear hlt hi HI hkj
        go_wp2
        go_ret
        exact ⟨_, rfl, HO.out, hx⟩
      · have d1 := dec_f (show ¬ i < n by omega)
        have d1b := dec_f (show ¬ (i : Int) < n by omega)
        clear hlt hi HI hkj
        go_wp2
        go_ret
        exact ⟨_, rfl, HO.out, hx⟩
end Go.Proofs.Ytcdnjhcddbkciaa
