/- The walk of the law LogsBehind. (Printed by wip/tools/lgbehind.py.) -/
import Derived.Test.YtcdnjhcddbkciaaLgE
import Derived.Test.YtcdnjhcddbkciaaLgF
import Derived.Test.YtcdnjhcddbkciaaElO
namespace Go.Proofs.Ytcdnjhcddbkciaa
open Go.RowKit

theorem and7 (n : Int) (h0 : 0 ≤ n) (h1 : n < 256) : ∃ q : Nat, q ≤ 7 ∧ bits .and .u8 n 7 = q := by
  have : ∀ y : Fin 256, 0 ≤ bits .and .u8 ((y.val : Nat) : Int) 7 ∧ bits .and .u8 ((y.val : Nat) : Int) 7 ≤ 7 := by decide +kernel
  obtain ⟨k, rfl⟩ := Int.eq_ofNat_of_zero_le h0
  have h := this ⟨k, by omega⟩
  exact ⟨(bits .and .u8 (k : Int) 7).toNat, by have := h.2; simp only at this; omega, by have := h.1; simp only at this; omega⟩

set_option maxRecDepth 100000 in
set_option maxHeartbeats 3200000 in
theorem law_LogsBehind (A : Option Addr) (n c : Nat) (l : List EV) (at_ : Nat) (b : Int) (q : Nat) (w : World) (ha : at_ < 256) (hq7 : q ≤ 7) (hqb : bits .and .u8 b 7 = q) (h : Es w A n l) (hnc : n ≤ c) (hcm : c ≤ maxLen) :
    Calls Try.prog 4 #[.slice A n c, .int .u8 at_, .int .u8 b] w fun e w' => e = .returned (.bool true) ∧ Ext w w' := by
  have HQB := Lib.hid hqb
  clear hqb
  go_enter Try.func4, Try.ntmps4
  go_wp2_with fail
  refine (law17_shown _).mono ?_
  rintro e w1 ⟨rfl, x1⟩
  have HL := Lib.hid (fun (W : World) (x : Ext w W) => law17_cut A n c l W (h.ext x) hnc hcm)
  go_wp2_with fail
  refine (HL.out _ x1).mono ?_
  clear HL
  rintro e Wt ⟨v, rfl, own_t0, x2⟩
  have xt := x1.trans x2
  obtain ⟨A_t, c_t, rfl, cc_t, cm_t⟩ := own_form17 own_t0
  have own_t := own_to (base' := w.heap.size) own_t0 x1.size rfl rfl
  have et := Es.of_own own_t (cutL_ok (fun f hf => (h.ext xt).ok f hf))
  have e_t := et
  have ht_t : min 40 n ≤ 40 := by omega
  clear et own_t0 x2
  have ho_t : cutL 40 100 l = cutL 40 100 l := rfl
  generalize cutL 40 100 l = t at *
  generalize min 40 n = m_t at *
  clear ho_t
  have xW := xt
  generalize Wt = W at *
  have hlt := e_t.len
  have hk : at_ % (m_t + 1) ≤ m_t := by have := Nat.mod_lt at_ (show 0 < m_t + 1 by omega); omega
  have hmod : Int.tmod (at_ : Int) ((m_t : Int) + 1) = ((at_ % (m_t + 1) : Nat) : Int) := by rw [Int.tmod_eq_emod_of_nonneg (by omega), Int.natCast_emod]; rfl
  have hwa : IntKind.i64.wrap (at_ : Int) = (at_ : Int) := IntWalk.i64_in _ (by omega)
  have hwm : IntKind.i64.wrap ((m_t : Int) + 1) = (m_t : Int) + 1 := IntWalk.i64_in _ (by omega)
  have hwq : IntKind.i64.wrap (q : Int) = (q : Int) := IntWalk.i64_in _ (by omega)
  have hwn : IntKind.i64.wrap (1 + (q : Int)) = 1 + (q : Int) := IntWalk.i64_in _ (by omega)
  generalize at_ % (m_t + 1) = k at *
  have hemp := own_empty W 36 2
  have k0 : (0 : Int) ≤ k := by omega
  have k1 : (k : Int) ≤ c_t := by omega
  have hrk := (e_t.upto hk).rd.alloc (.cells #[] 36)
  have hqb := HQB.out
  clear own_t h xt x1 HQB
  go_wp2_with (at_builtin; refine wpList_app entsT (by omega) _ rfl rfl rfl hemp rfl hrk (logOf_cells _) (by unfold maxLen; omega) (by omega) (by simp) ?_; intro v2 w2 hown2 hg2 hat2; have x2 : Ext W w2 := Below.app ((Ext.refl W).alloc _) hg2 (by simp) hemp (Nat.le_refl _); clear hg2 hat2)
  clear hmod hwa hwm hrk hemp hqb hwq k0 k1
  have hown3 := own_to (n' := k) (ys := logOf (t.take k)) hown2 (Nat.le_refl _) (by omega) (by simp)
  go_loopw [10, 11] (fun v i wr => ∃ (j p : Nat) (v0 : Value), v = v0 ∧ i = .int .i64 j ∧ j ≤ 41 ∧ p ≤ m_t ∧ (p = m_t ∨ j ≤ p) ∧ wr.ownsRow W.heap.size 36 2 v0 p (logOf (t.take p)) ∧ Ext W wr) (fun _ i _ => 41 - (intOf i).toNat)
  case atStart => exact ⟨0, k, _, rfl, rfl, by omega, hk, .inr (by omega), hown3, x2⟩
  case round =>
    obtain ⟨j, p, v, rfl, rfl, hj, hp, hpj, hown, hx⟩ := hrel
    clear hown2 hown3 x2
    by_cases hlt41 : j < 41
    · have hbe : behB t p (1 + (q : Int)) = (t.drop p).take (1 + q) := by
        unfold behB
        rw [if_neg (by omega)]
        have e : (1 + (q : Int)).toNat = 1 + q := by omega
        rw [e]
        rfl
      have HBh := Lib.hid (logs_Behind A_t m_t c_t t p (1 + (q : Int)) wr (e_t.ext hx) (by omega) cc_t)
      rw [hbe] at HBh
      have hr : ((t.drop p).take (1 + q)).length = min (1 + q) (m_t - p) := by rw [List.length_take, List.length_drop, hlt]
      have happ : logOf (t.take p) ++ logOf ((t.drop p).take (1 + q)) = logOf (t.take (p + min (1 + q) (m_t - p))) := by
        have e2 : (t.drop p).take (1 + q) = (t.drop p).take (min (1 + q) (m_t - p)) := by rw [← hlt, ← List.length_drop, ← List.take_eq_take_min]
        rw [← logOf_append, e2, ← List.take_add]
      rw [hr] at HBh
      have r1 : min (1 + q) (m_t - p) ≤ 1 + q := by omega
      have r2 : p + min (1 + q) (m_t - p) ≤ m_t := by omega
      have r3 : p + min (1 + q) (m_t - p) = m_t ∨ j + 1 ≤ p + min (1 + q) (m_t - p) := by omega
      have HAP := Lib.hid happ
      have HR3 := Lib.hid r3
      have d0 := dec_t (show (j : Int) < 41 by omega)
      clear happ hbe hr r3 hlt
      generalize min (1 + q) (m_t - p) = r at *
      have d1 := dec_f (show ¬ 1 + (q : Int) < (r : Int) by omega)
      have d2 := dec_f (show ¬ 1 + q < r by omega)
      have d3 := dec_f (show ¬ (m_t : Int) < ((p + r : Nat) : Int) by omega)
      have d4 := dec_f (show ¬ m_t < p + r by omega)
      have d5 := dec_f (show ¬ (m_t : Int) < (p : Int) + (r : Int) by omega)
      obtain ⟨Av, cv, rfl, _⟩ := own_form hown
      go_wp2_with (first | (go_at_call 22; refine HBh.out.mono ?_; rintro e w3 ⟨v3, rfl, hown3, x3⟩; obtain ⟨A3, c3, rfl, _⟩ := own_form hown3; have hownx := own_ext hown x3; have hsz : W.heap.size ≤ w3.heap.size := (hx.trans x3).size) | (at_builtin; refine wpList_app entsT (by omega) _ rfl rfl rfl hownx rfl (Rd.of_own hown3) (logOf_cells _) (by unfold maxLen; omega) (by omega) hsz ?_; intro v5 w5 hown5 hg5 hat5; obtain ⟨A5, c5, rfl, _⟩ := own_form hown5; have x5 : Ext W w5 := Below.app (hx.trans x3) hg5 hsz hownx (Nat.le_refl _); clear hg5 hat5))
      go_roundw
      case rel => exact ⟨j + 1, p + r, _, rfl, val_int (by omega), by omega, r2, HR3.out, own_to hown5 (Nat.le_refl _) rfl HAP.out, x5⟩
      case measure => simp [intOf]; omega
    · have hpm : p = m_t := by omega
      subst hpm
      have htk : t.take p = t := List.take_of_length_le (by omega)
      rw [htk] at hown
      obtain ⟨Av, cv, rfl, _⟩ := own_form hown
      have eo := Es.of_own hown (fun f hf => (e_t.ok f hf).ext hx)
      have d0 := dec_f (show ¬ (j : Int) < 41 by omega)
      have HS := Lib.hid (ref11_SameLog Av A_t p cv c_t t t wr eo (e_t.ext hx) rfl (by omega))
      have b1 : behB t (-1) (1 + (q : Int)) = [] := by unfold behB; rw [if_pos (Or.inl (by omega))]
      have b2 : behB t (k : Int) 0 = [] := by unfold behB; rw [if_pos (Or.inr (Or.inr (by omega)))]
      have H1 := Lib.hid (fun (V : World) (y : Ext W V) => logs_Behind A_t p c_t t (-1) (1 + (q : Int)) V (e_t.ext y) (by omega) cc_t)
      have H2 := Lib.hid (fun (V : World) (y : Ext W V) => logs_Behind A_t p c_t t k 0 V (e_t.ext y) (by omega) cc_t)
      rw [b1] at H1
      rw [b2] at H2
      clear b1 b2 htk eo hown hlt41 hpj hp hj
      go_wp2_with fail
      refine HS.out.mono ?_
      rintro e w3 ⟨rfl, x3⟩
      go_wp2_with fail
      refine (H1.out _ (hx.trans x3)).mono ?_
      rintro e w4 ⟨v4, rfl, hown4, x4⟩
      obtain ⟨A4, c4, rfl, _⟩ := own_form hown4
      go_wp2_with fail
      refine (H2.out _ ((hx.trans x3).trans x4)).mono ?_
      rintro e w5 ⟨v5, rfl, hown5, x5⟩
      obtain ⟨A5, c5, rfl, _⟩ := own_form hown5
      go_wp2
      go_ret
      exact ⟨rfl, (((xW.trans hx).trans x3).trans x4).trans x5⟩
theorem law_LogsBehindI (A : Option Addr) (n c : Nat) (l : List EV) (a b : Int) (w : World) (a0 : 0 ≤ a) (a1 : a < 256) (b0 : 0 ≤ b) (b1 : b < 256) (h : Es w A n l) (hnc : n ≤ c) (hcm : c ≤ maxLen) :
    Calls Try.prog 4 #[.slice A n c, .int .u8 a, .int .u8 b] w fun e w' => e = .returned (.bool true) ∧ Ext w w' := by
  obtain ⟨k, rfl⟩ := Int.eq_ofNat_of_zero_le a0
  obtain ⟨q, h7, hq⟩ := and7 b b0 b1
  exact law_LogsBehind A n c l k b q w (by omega) h7 hq h hnc hcm
end Go.Proofs.Ytcdnjhcddbkciaa
