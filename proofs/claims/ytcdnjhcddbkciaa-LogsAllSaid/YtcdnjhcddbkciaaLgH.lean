/- The walk of the law LogsMajor. (Printed by wip/tools/lgmajor.py.) -/
import Derived.Test.YtcdnjhcddbkciaaLgF
import Derived.Test.YtcdnjhcddbkciaaCat
import Derived.Test.YtcdnjhcddbkciaaRec
namespace Go.Proofs.Ytcdnjhcddbkciaa
open Go.RowKit

theorem cntB_snoc (m : Int) (l : List Int) (j : Nat) (h : j < l.length) : cntB m (l.take (j + 1)) = cntB m (l.take j) + if m ≤ l[j] then 1 else 0 := by
  unfold cntB
  rw [List.take_succ_eq_append_getElem h, List.countP_append, List.countP_singleton]
  simp
theorem cntB_le (m : Int) (l : List Int) (j : Nat) : cntB m (l.take j) ≤ j := by
  unfold cntB
  have h1 := List.countP_le_length (p := fun x => decide (m ≤ x)) (l := l.take j)
  rw [List.length_take] at h1
  omega

set_option maxRecDepth 100000 in
set_option maxHeartbeats 3200000 in
theorem law_LogsMajor (A : Option Addr) (n c : Nat) (l : List Int) (x : Int) (w : World) (h : Is w A n l) (hnc : n ≤ c) :
    Calls Try.prog 3 #[.slice A n c, .int .i64 x] w fun e w' => e = .returned (.bool true) ∧ Ext w w' := by
  go_enter Try.func3, Try.ntmps3
  go_wp2_with fail
  refine (law17_shown _).mono ?_
  rintro e w1 ⟨rfl, x1⟩
  go_upto_if 15 with fail
  go_cut [0] (fun v wx => v = .slice A (min 20 n) c ∧ wx = w1)
  case first =>
    clear h
    by_cases hn : 20 < n
    · have d1 := dec_t (show (20 : Int) < n by omega)
      have d2 := dec_t hn
      have hc : (20 : Int) ≤ c := by omega
      have hm : min 20 n = 20 := by omega
      go_wp2_with fail
      go_meet
      exact ⟨by rw [hm], rfl⟩
    · have d1 := dec_f (show ¬ (20 : Int) < n by omega)
      have d2 := dec_f hn
      have hm : min 20 n = n := by omega
      go_wp2_with fail
      go_meet
      exact ⟨by rw [hm], rfl⟩
  case rest =>
    obtain ⟨rfl, rfl⟩ := hcut
    have iw : Is w A (min 20 n) (l.take (min 20 n)) := Is.upto h (by omega)
    have hm : min 20 n ≤ 20 := by omega
    have hmc : min 20 n ≤ c := by omega
    clear h hnc
    generalize l.take (min 20 n) = l at *
    generalize min 20 n = n at *
    have hlen := iw.len
    have h1 := iw.ext x1
    have hemp := own_empty wc 3 1
    have x2 : Ext w (wc.alloc (.cells #[] 3)) := x1.alloc _
    have hM := Lib.hid (logs_Major A n c l (wc.alloc (.cells #[] 3)) (h1.ext ((Ext.refl wc).alloc _)) (by omega))
    have hemp2 := own_base hemp x1.size
    go_wp2_with fail
    refine hM.out.mono ?_
    rintro e w2 ⟨rfl, x3⟩
    clear hM
    have hown2 := own_ext hemp2 x3
    have x4 := x2.trans x3
    have HMJ := Lib.hid (rfl : majorB l = majorB l)
    generalize hmj : majorB l = m at *
    clear HMJ hemp hemp2 x2 x3 h1
    have HMJ := Lib.hid hmj
    clear hmj
    go_wp2
    go_loopw [6, 7, 8, 10, 11] (fun v6 v7 v8 v10 i wr => ∃ (j : Nat) (v : Value) (a b : Nat) (r : Bool), v6 = v ∧ v7 = .int .i64 a ∧ v8 = .int .i64 b ∧ v10 = .bool r ∧ i = .int .i64 j ∧ j ≤ n ∧ wr.ownsRow w.heap.size 3 1 v j ((l.take j).reverse.map (Value.int .i64)) ∧ a = cntB m (l.take j) ∧ b = cntB x (l.take j) ∧ (r = true ↔ m ∈ l.take j) ∧ Ext w wr) (fun _ _ _ _ i _ => n - (intOf i).toNat)
    case atStart => exact ⟨0, _, 0, 0, false, rfl, rfl, rfl, rfl, rfl, by omega, hown2, by simp [cntB], by simp [cntB], by simp, x4⟩
    case round =>
      obtain ⟨j, v, a, b, r, rfl, rfl, rfl, rfl, rfl, hj, hown, ha, hb, hr, hx⟩ := hrel
      by_cases hlt : j < n
      · have hjl : j < l.length := by omega
        obtain ⟨bb, off, rfl, cw⟩ := iw.at_ hlt
        have c0 := hx.cell cw
        have hsz := hx.size
        have sa := cntB_snoc m l j hjl
        have sb := cntB_snoc x l j hjl
        rw [← ha] at sa
        rw [← hb] at sb
        have la : a ≤ j := by rw [ha]; exact cntB_le m l j
        have lb : b ≤ j := by rw [hb]; exact cntB_le x l j
        have hrv : [Value.int .i64 l[j]] ++ (l.take j).reverse.map (Value.int .i64) = (l.take (j + 1)).reverse.map (Value.int .i64) := by
          rw [List.take_succ_eq_append_getElem hjl, List.reverse_append]
          rfl
        have hmem : (m ∈ l.take (j + 1)) ↔ (r = true ∨ m = l[j]) := by
          rw [List.take_succ_eq_append_getElem hjl, List.mem_append, List.mem_singleton, hr]
        obtain ⟨Av, cv, rfl, _⟩ := own_form hown
        have HRV := Lib.hid hrv
        generalize l[j] = y at *
        have wa : IntKind.i64.wrap ((a : Int) + 1) = (a : Int) + 1 := IntWalk.i64_in _ (by omega)
        have wb : IntKind.i64.wrap ((b : Int) + 1) = (b : Int) + 1 := IntWalk.i64_in _ (by omega)
        have hi : (j : Int) < n := by omega
        have hi0 : (0 : Int) ≤ j := by omega
        clear ha hb hr hrv
        rcases r with _ | _
        · by_cases h3 : m = y
          · have d3 := beq_self_eq_true y
            have HT : Hid (true = true ↔ m ∈ l.take (j + 1)) := Lib.hid (by rw [hmem]; simp [h3])
            clear hmem
            subst h3
            rw [if_pos (Int.le_refl _)] at sa
            have HA := Lib.hid sa.symm
            clear sa
            have d1 := dec_t (Int.le_refl m)
            by_cases h2 : x ≤ m
            · have d2 := dec_t h2
              rw [if_pos h2] at sb
              have HB := Lib.hid sb.symm
              clear sb h2
              go_wp2_with (at_builtin; refine wpList_app intsT (by omega) _ rfl rfl rfl (blk_own wr #[.int .i64 m] 3 1 1 rfl (by omega) hsz _ rfl) rfl ((Rd.of_own hown).alloc _) (ivs_one _) (by unfold maxLen; omega) (by omega) (by simp; omega) ?_; intro v5 w5 hown5 hg5 hat5; have x5 : Ext w w5 := Below.app (hx.alloc _) hg5 (by simp; omega) (blk_own wr #[.int .i64 m] 3 1 1 rfl (by omega) hsz _ rfl) (Nat.le_refl _); have c5 := x5.cell cw)
              go_roundw
              case rel => exact ⟨j + 1, _, a + 1, b + 1, true, rfl, val_int (by omega), val_int (by omega), rfl, val_int (by omega), by omega, own_to hown5 (Nat.le_refl _) (by omega) HRV.out, HA.out, HB.out, HT.out, x5⟩
              case measure => simp [intOf]; omega
            · have d2 := dec_f h2
              rw [if_neg h2] at sb
              have HB := Lib.hid sb.symm
              clear sb h2
              go_wp2_with (at_builtin; refine wpList_app intsT (by omega) _ rfl rfl rfl (blk_own wr #[.int .i64 m] 3 1 1 rfl (by omega) hsz _ rfl) rfl ((Rd.of_own hown).alloc _) (ivs_one _) (by unfold maxLen; omega) (by omega) (by simp; omega) ?_; intro v5 w5 hown5 hg5 hat5; have x5 : Ext w w5 := Below.app (hx.alloc _) hg5 (by simp; omega) (blk_own wr #[.int .i64 m] 3 1 1 rfl (by omega) hsz _ rfl) (Nat.le_refl _); have c5 := x5.cell cw)
              go_roundw
              case rel => exact ⟨j + 1, _, a + 1, b, true, rfl, val_int (by omega), val_int (by omega), rfl, val_int (by omega), by omega, own_to hown5 (Nat.le_refl _) (by omega) HRV.out, HA.out, HB.out, HT.out, x5⟩
              case measure => simp [intOf]; omega
          · have d3 := beq_f (Ne.symm h3)
            have HT : Hid (false = true ↔ m ∈ l.take (j + 1)) := Lib.hid (by rw [hmem]; simp [h3])
            clear hmem h3
            by_cases h1 : m ≤ y
            · have d1 := dec_t h1
              rw [if_pos h1] at sa
              have HA := Lib.hid sa.symm
              clear sa h1
              by_cases h2 : x ≤ y
              · have d2 := dec_t h2
                rw [if_pos h2] at sb
                have HB := Lib.hid sb.symm
                clear sb h2
                go_wp2_with (at_builtin; refine wpList_app intsT (by omega) _ rfl rfl rfl (blk_own wr #[.int .i64 y] 3 1 1 rfl (by omega) hsz _ rfl) rfl ((Rd.of_own hown).alloc _) (ivs_one _) (by unfold maxLen; omega) (by omega) (by simp; omega) ?_; intro v5 w5 hown5 hg5 hat5; have x5 : Ext w w5 := Below.app (hx.alloc _) hg5 (by simp; omega) (blk_own wr #[.int .i64 y] 3 1 1 rfl (by omega) hsz _ rfl) (Nat.le_refl _); have c5 := x5.cell cw)
                go_roundw
                case rel => exact ⟨j + 1, _, a + 1, b + 1, false, rfl, val_int (by omega), val_int (by omega), rfl, val_int (by omega), by omega, own_to hown5 (Nat.le_refl _) (by omega) HRV.out, HA.out, HB.out, HT.out, x5⟩
                case measure => simp [intOf]; omega
              · have d2 := dec_f h2
                rw [if_neg h2] at sb
                have HB := Lib.hid sb.symm
                clear sb h2
                go_wp2_with (at_builtin; refine wpList_app intsT (by omega) _ rfl rfl rfl (blk_own wr #[.int .i64 y] 3 1 1 rfl (by omega) hsz _ rfl) rfl ((Rd.of_own hown).alloc _) (ivs_one _) (by unfold maxLen; omega) (by omega) (by simp; omega) ?_; intro v5 w5 hown5 hg5 hat5; have x5 : Ext w w5 := Below.app (hx.alloc _) hg5 (by simp; omega) (blk_own wr #[.int .i64 y] 3 1 1 rfl (by omega) hsz _ rfl) (Nat.le_refl _); have c5 := x5.cell cw)
                go_roundw
                case rel => exact ⟨j + 1, _, a + 1, b, false, rfl, val_int (by omega), val_int (by omega), rfl, val_int (by omega), by omega, own_to hown5 (Nat.le_refl _) (by omega) HRV.out, HA.out, HB.out, HT.out, x5⟩
                case measure => simp [intOf]; omega
            · have d1 := dec_f h1
              rw [if_neg h1] at sa
              have HA := Lib.hid sa.symm
              clear sa h1
              by_cases h2 : x ≤ y
              · have d2 := dec_t h2
                rw [if_pos h2] at sb
                have HB := Lib.hid sb.symm
                clear sb h2
                go_wp2_with (at_builtin; refine wpList_app intsT (by omega) _ rfl rfl rfl (blk_own wr #[.int .i64 y] 3 1 1 rfl (by omega) hsz _ rfl) rfl ((Rd.of_own hown).alloc _) (ivs_one _) (by unfold maxLen; omega) (by omega) (by simp; omega) ?_; intro v5 w5 hown5 hg5 hat5; have x5 : Ext w w5 := Below.app (hx.alloc _) hg5 (by simp; omega) (blk_own wr #[.int .i64 y] 3 1 1 rfl (by omega) hsz _ rfl) (Nat.le_refl _); have c5 := x5.cell cw)
                go_roundw
                case rel => exact ⟨j + 1, _, a, b + 1, false, rfl, val_int (by omega), val_int (by omega), rfl, val_int (by omega), by omega, own_to hown5 (Nat.le_refl _) (by omega) HRV.out, HA.out, HB.out, HT.out, x5⟩
                case measure => simp [intOf]; omega
              · have d2 := dec_f h2
                rw [if_neg h2] at sb
                have HB := Lib.hid sb.symm
                clear sb h2
                go_wp2_with (at_builtin; refine wpList_app intsT (by omega) _ rfl rfl rfl (blk_own wr #[.int .i64 y] 3 1 1 rfl (by omega) hsz _ rfl) rfl ((Rd.of_own hown).alloc _) (ivs_one _) (by unfold maxLen; omega) (by omega) (by simp; omega) ?_; intro v5 w5 hown5 hg5 hat5; have x5 : Ext w w5 := Below.app (hx.alloc _) hg5 (by simp; omega) (blk_own wr #[.int .i64 y] 3 1 1 rfl (by omega) hsz _ rfl) (Nat.le_refl _); have c5 := x5.cell cw)
                go_roundw
                case rel => exact ⟨j + 1, _, a, b, false, rfl, val_int (by omega), val_int (by omega), rfl, val_int (by omega), by omega, own_to hown5 (Nat.le_refl _) (by omega) HRV.out, HA.out, HB.out, HT.out, x5⟩
                case measure => simp [intOf]; omega
        · have HT : Hid (true = true ↔ m ∈ l.take (j + 1)) := Lib.hid (by rw [hmem]; simp)
          clear hmem
          by_cases h1 : m ≤ y
          · have d1 := dec_t h1
            rw [if_pos h1] at sa
            have HA := Lib.hid sa.symm
            clear sa h1
            by_cases h2 : x ≤ y
            · have d2 := dec_t h2
              rw [if_pos h2] at sb
              have HB := Lib.hid sb.symm
              clear sb h2
              go_wp2_with (at_builtin; refine wpList_app intsT (by omega) _ rfl rfl rfl (blk_own wr #[.int .i64 y] 3 1 1 rfl (by omega) hsz _ rfl) rfl ((Rd.of_own hown).alloc _) (ivs_one _) (by unfold maxLen; omega) (by omega) (by simp; omega) ?_; intro v5 w5 hown5 hg5 hat5; have x5 : Ext w w5 := Below.app (hx.alloc _) hg5 (by simp; omega) (blk_own wr #[.int .i64 y] 3 1 1 rfl (by omega) hsz _ rfl) (Nat.le_refl _); have c5 := x5.cell cw)
              go_roundw
              case rel => exact ⟨j + 1, _, a + 1, b + 1, true, rfl, val_int (by omega), val_int (by omega), rfl, val_int (by omega), by omega, own_to hown5 (Nat.le_refl _) (by omega) HRV.out, HA.out, HB.out, HT.out, x5⟩
              case measure => simp [intOf]; omega
            · have d2 := dec_f h2
              rw [if_neg h2] at sb
              have HB := Lib.hid sb.symm
              clear sb h2
              go_wp2_with (at_builtin; refine wpList_app intsT (by omega) _ rfl rfl rfl (blk_own wr #[.int .i64 y] 3 1 1 rfl (by omega) hsz _ rfl) rfl ((Rd.of_own hown).alloc _) (ivs_one _) (by unfold maxLen; omega) (by omega) (by simp; omega) ?_; intro v5 w5 hown5 hg5 hat5; have x5 : Ext w w5 := Below.app (hx.alloc _) hg5 (by simp; omega) (blk_own wr #[.int .i64 y] 3 1 1 rfl (by omega) hsz _ rfl) (Nat.le_refl _); have c5 := x5.cell cw)
              go_roundw
              case rel => exact ⟨j + 1, _, a + 1, b, true, rfl, val_int (by omega), val_int (by omega), rfl, val_int (by omega), by omega, own_to hown5 (Nat.le_refl _) (by omega) HRV.out, HA.out, HB.out, HT.out, x5⟩
              case measure => simp [intOf]; omega
          · have d1 := dec_f h1
            rw [if_neg h1] at sa
            have HA := Lib.hid sa.symm
            clear sa h1
            by_cases h2 : x ≤ y
            · have d2 := dec_t h2
              rw [if_pos h2] at sb
              have HB := Lib.hid sb.symm
              clear sb h2
              go_wp2_with (at_builtin; refine wpList_app intsT (by omega) _ rfl rfl rfl (blk_own wr #[.int .i64 y] 3 1 1 rfl (by omega) hsz _ rfl) rfl ((Rd.of_own hown).alloc _) (ivs_one _) (by unfold maxLen; omega) (by omega) (by simp; omega) ?_; intro v5 w5 hown5 hg5 hat5; have x5 : Ext w w5 := Below.app (hx.alloc _) hg5 (by simp; omega) (blk_own wr #[.int .i64 y] 3 1 1 rfl (by omega) hsz _ rfl) (Nat.le_refl _); have c5 := x5.cell cw)
              go_roundw
              case rel => exact ⟨j + 1, _, a, b + 1, true, rfl, val_int (by omega), val_int (by omega), rfl, val_int (by omega), by omega, own_to hown5 (Nat.le_refl _) (by omega) HRV.out, HA.out, HB.out, HT.out, x5⟩
              case measure => simp [intOf]; omega
            · have d2 := dec_f h2
              rw [if_neg h2] at sb
              have HB := Lib.hid sb.symm
              clear sb h2
              go_wp2_with (at_builtin; refine wpList_app intsT (by omega) _ rfl rfl rfl (blk_own wr #[.int .i64 y] 3 1 1 rfl (by omega) hsz _ rfl) rfl ((Rd.of_own hown).alloc _) (ivs_one _) (by unfold maxLen; omega) (by omega) (by simp; omega) ?_; intro v5 w5 hown5 hg5 hat5; have x5 : Ext w w5 := Below.app (hx.alloc _) hg5 (by simp; omega) (blk_own wr #[.int .i64 y] 3 1 1 rfl (by omega) hsz _ rfl) (Nat.le_refl _); have c5 := x5.cell cw)
              go_roundw
              case rel => exact ⟨j + 1, _, a, b, true, rfl, val_int (by omega), val_int (by omega), rfl, val_int (by omega), by omega, own_to hown5 (Nat.le_refl _) (by omega) HRV.out, HA.out, HB.out, HT.out, x5⟩
              case measure => simp [intOf]; omega
      · have hje : j = n := by omega
        subst hje
        have htk : l.take j = l := List.take_of_length_le (by omega)
        rw [htk] at ha hb hr hown
        obtain ⟨Av, cv, rfl, _⟩ := own_form hown
        rcases Nat.eq_zero_or_pos j with rfl | hj0
        · have hl : l = [] := List.eq_nil_of_length_eq_zero hlen
          have hm0 : m = 0 := by rw [← HMJ.out, hl]; exact majorB_nil
          clear ha hb hr hown hl htk hlen iw HMJ
          subst hm0
          go_wp2
          go_ret
          exact ⟨rfl, hx⟩
        · have hne : l ≠ [] := by intro e; rw [e] at hlen; simp at hlen; omega
          have hin : m ∈ l := by rw [← HMJ.out]; exact majorB_mem hne
          have hrt : r = true := hr.2 hin
          have hmaj := majorB_maj hne
          have htop : ¬ x ≤ m → 2 * b ≤ j := fun h => by
            have := majorB_top hne (y := x) (by rw [HMJ.out]; omega)
            unfold majB at this
            omega
          rw [HMJ.out] at hmaj
          unfold majB at hmaj
          rw [← ha, hlen] at hmaj
          have hpm : majorB l.reverse = m := by rw [← HMJ.out]; exact majorB_perm (List.reverse_perm l)
          have hMB := logs_Major Av j cv l.reverse wr (Rd.of_own hown) (by omega)
          rw [hpm] at hMB
          have HMB := Lib.hid hMB
          have la : a ≤ j := by have := cntB_le m l j; rw [htk] at this; omega
          have lb : b ≤ j := by have := cntB_le x l j; rw [htk] at this; omega
          have wa : IntKind.i64.wrap (2 * (a : Int)) = 2 * (a : Int) := IntWalk.i64_in _ (by omega)
          have wb : IntKind.i64.wrap (2 * (b : Int)) = 2 * (b : Int) := IntWalk.i64_in _ (by omega)
          have ej := beq_f (show (j : Int) ≠ 0 by omega)
          have d1 := dec_t (show (j : Int) < 2 * (a : Int) by omega)
          have d2 := dec_t (show j < 2 * a by omega)
          clear ha hb hr hown hin hne htk hlen iw HMJ hpm hMB hmaj
          subst hrt
          by_cases hxm : x ≤ m
          · have d3 := dec_t hxm
            clear htop
            go_wp2_with fail
            refine HMB.out.mono ?_
            rintro e w7 ⟨rfl, x7⟩
            go_wp2
            go_ret
            exact ⟨rfl, hx.trans x7⟩
          · have d3 := dec_f hxm
            have d4 := dec_t (show 2 * (b : Int) ≤ (j : Int) by have := htop hxm; omega)
            have d5 := dec_t (htop hxm)
            clear htop
            go_wp2_with fail
            refine HMB.out.mono ?_
            rintro e w7 ⟨rfl, x7⟩
            go_wp2
            go_ret
            exact ⟨rfl, hx.trans x7⟩
end Go.Proofs.Ytcdnjhcddbkciaa
