/- The walk of the law LogsMerge. (Printed by wip/tools/lgmerge.py.) -/
import Derived.Test.YtcdnjhcddbkciaaLgE
import Derived.Test.YtcdnjhcddbkciaaLgF
import Derived.Test.YtcdnjhcddbkciaaElO
import Derived.Test.YtcdnjhcddbkciaaLgJ
import Derived.Deep.RegionHeld3
namespace Go.Proofs.Ytcdnjhcddbkciaa
open Go.RowKit

set_option maxRecDepth 100000 in
set_option maxHeartbeats 3200000 in
theorem law_LogsMerge (A : Option Addr) (n c : Nat) (l : List EV) (A' : Option Addr) (n' c' : Nat) (l' : List EV) (at_ : Nat) (w : World) (ha : at_ < 256) (h : Es w A n l) (hnc : n ≤ c) (hcm : c ≤ maxLen) (h' : Es w A' n' l') (hnc' : n' ≤ c') (hcm' : c' ≤ maxLen) :
    Calls Try.prog 7 #[.slice A n c, .slice A' n' c', .int .u8 at_] w fun e w' => e = .returned (.bool true) ∧ Ext w w' := by
  go_enter Try.func7, Try.ntmps7
  go_wp2_with fail
  refine (law17_shown _).mono ?_
  rintro e w1 ⟨rfl, x1⟩
  have HL := Lib.hid (fun (W : World) (x : Ext w W) => law17_cut A n c l W (h.ext x) hnc hcm)
  go_wp2_with fail
  refine (HL.out _ x1).mono ?_
  clear HL
  rintro e Wt ⟨v, rfl, own_t0, x2⟩
  have xt := x1.trans x2
  obtain ⟨A_t, c_t, rfl, cc_t, cm_t⟩ := own_form17 own_t0
  have own_t := own_to (base' := w.heap.size) own_t0 x1.size rfl rfl
  have et := Es.of_own own_t (cutL_ok (fun f hf => (h.ext xt).ok f hf))
  have e_t := et
  have ht_t : min 40 n ≤ 40 := by omega
  clear et own_t0 x2
  have ho_t : cutL 40 100 l = cutL 40 100 l := rfl
  generalize cutL 40 100 l = t at *
  generalize min 40 n = m_t at *
  clear ho_t
  have HL := Lib.hid (fun (W : World) (x : Ext w W) => law17_cut A' n' c' l' W (h'.ext x) hnc' hcm')
  go_wp2_with fail
  refine (HL.out _ xt).mono ?_
  clear HL
  rintro e Wb ⟨v, rfl, own_b0, x2⟩
  have xb := xt.trans x2
  obtain ⟨A_b, c_b, rfl, cc_b, cm_b⟩ := own_form17 own_b0
  have own_b := own_to (base' := w.heap.size) own_b0 xt.size rfl rfl
  have et := Es.of_own own_b (cutL_ok (fun f hf => (h'.ext xb).ok f hf))
  replace e_t := e_t.ext x2
  have own_t' := own_ext own_t x2
  clear own_t
  have own_t := own_t'
  clear own_t'
  have e_b := et
  have ht_b : min 40 n' ≤ 40 := by omega
  clear et own_b0 x2
  have ho_b : cutL 40 100 l' = cutL 40 100 l' := rfl
  generalize cutL 40 100 l' = b at *
  generalize min 40 n' = m_b at *
  clear ho_b
  have xW := xb
  generalize Wb = W at *
  have hlt := e_t.len
  have hlb := e_b.len
  have hk : at_ % (m_t + 1) ≤ m_t := by have := Nat.mod_lt at_ (show 0 < m_t + 1 by omega); omega
  have hmod : Int.tmod (at_ : Int) ((m_t : Int) + 1) = ((at_ % (m_t + 1) : Nat) : Int) := by rw [Int.tmod_eq_emod_of_nonneg (by omega), Int.natCast_emod]; rfl
  have hwa : IntKind.i64.wrap (at_ : Int) = (at_ : Int) := IntWalk.i64_in _ (by omega)
  have hwm : IntKind.i64.wrap ((m_t : Int) + 1) = (m_t : Int) + 1 := IntWalk.i64_in _ (by omega)
  generalize at_ % (m_t + 1) = k at *
  obtain ⟨cc, rest, hr, g1, g2, g3, g4, g5, g6, g7, g8, g9, g10⟩ := merge_facts t b k (by omega)
  rw [hlt] at g1 g6 g9
  rw [hlb] at g2 g3 g4 g7
  have PM := Lib.hid (logs_Merge_in A_t m_t c_t t k A_b m_b c_b b W e_t e_b (by omega) (by omega) cc_t cc_b hk)
  rw [hr] at PM
  dsimp only at PM
  have hkn : keepN t cc = if cc = 0 then m_t else cc - 1 := by unfold keepN; rw [hlt]
  have hrl : rest.length = rest.length := rfl
  generalize hrr : rest.length = r at *
  clear hrl hr own_t own_b
  have HG7 := Lib.hid g7
  have HG8 := Lib.hid g8
  have HG10 := Lib.hid g10
  have HRR := Lib.hid hrr
  have HKN := Lib.hid hkn
  have HLT := Lib.hid hlt
  have HLB := Lib.hid hlb
  generalize hkk : keepN t cc = kn at *
  have HKK := Lib.hid hkk
  clear g7 g8 g10 hrr hkn hkk hlt hlb
  go_wp2_with fail
  refine PM.out.mono ?_
  rintro e w3 ⟨v3, rfl, hown3, x3⟩
  clear PM hmod hwa hwm
  obtain ⟨A3, c3, rfl, _⟩ := own_form hown3
  go_upto_region 6 with fail
  go_cut [62] (fun v wx => v = .bool false ∧ wx = w3)
  case first =>
    have d1 := dec_f (show ¬ m_b < r by omega)
    have d2 := dec_f (show ¬ (m_b : Int) < (r : Int) by omega)
    rcases g1 with rfl | ⟨q1, q2, q3⟩
    · have d3 := dec_f (show ¬ (m_t : Int) < 0 by omega)
      have d4 := dec_f (show ¬ m_t < 0 by omega)
      go_wp2_with fail
      go_meet
      exact ⟨rfl, rfl⟩
    · have d0 := dec_f (show ¬ (cc : Int) < 0 by omega)
      have d3 := dec_f (show ¬ (m_t : Int) < (cc : Int) by omega)
      have d4 := dec_f (show ¬ m_t < cc by omega)
      have d5 := dec_t (show (0 : Int) < (cc : Int) by omega)
      have d6 := dec_t (show 0 < cc by omega)
      have d7 := dec_f (show ¬ cc ≤ k by omega)
      have d8 := dec_f (show ¬ (cc : Int) ≤ (k : Int) by omega)
      have d9 := beq_f (show (r : Int) ≠ 0 by omega)
      go_wp2_with fail
      go_meet
      exact ⟨rfl, rfl⟩
  case rest =>
    obtain ⟨rfl, rfl⟩ := hcut
    have hemp := own_empty wc 36 2
    have hrk := (e_t.ext x3).rd.alloc (.cells #[] 36)
    have xw3 := xW.trans x3
    go_upto_if 67 with (at_builtin; refine wpList_app entsT (by omega) _ rfl rfl rfl hemp rfl hrk (logOf_cells _) (by unfold maxLen; omega) (by omega) (by simp) ?_; intro v4 w4 hown4 hg4 hat4; have x4 : Ext wc w4 := Below.app ((Ext.refl wc).alloc _) hg4 (by simp) hemp (Nat.le_refl _); clear hg4 hat4)
    have hown4' := own_to (n' := m_t) (ys := logOf t) hown4 (Nat.le_refl _) (by omega) (by simp)
    obtain ⟨A4, c4, rfl, hc4⟩ := own_form hown4'
    have hownB := own_base hown4' x3.size
    have xW4 := x3.trans x4
    have hown3B := own_ext hown3 x4
    clear hown3 hown4' hown4 hemp hrk
    go_cut [11] (fun v wx => v = .slice A4 kn c4 ∧ wx = w4)
    case first =>
      rcases g1 with rfl | ⟨q1, q2, q3⟩
      · have e1 : kn = m_t := by rw [HKN.out, if_pos rfl]
        go_wp2_with fail
        go_meet
        exact ⟨by rw [e1], rfl⟩
      · have e1 : kn = cc - 1 := by rw [HKN.out, if_neg (by omega)]
        have d5 := dec_t (show (0 : Int) < (cc : Int) by omega)
        have d6 := dec_t (show 0 < cc by omega)
        have e2 : IntKind.i64.wrap ((cc : Int) - 1) = (kn : Int) := by rw [IntWalk.i64_in _ (by omega)]; omega
        have e3 : (0 : Int) ≤ (kn : Int) := by omega
        have e4 : (kn : Int) ≤ c4 := by omega
        clear e1 HKN
        go_wp2_with fail
        go_meet
        exact ⟨rfl, rfl⟩
    case rest =>
      obtain ⟨rfl, rfl⟩ := hcut
      have hownK := own_to (own_cut hownB g6) (ys := logOf (t.take kn)) (Nat.le_refl _) rfl (by rw [logOf_take])
      go_upto_region 11 with fail
      go_cut [86] (fun v wx => v = .bool false ∧ wx = wc)
      case first =>
        rcases Nat.eq_zero_or_pos r with r0 | r0
        · have d1 := dec_f (show ¬ (0 : Int) < (r : Int) by omega)
          have d2 := dec_f (show ¬ 0 < r by omega)
          clear HRR
          go_wp2_with fail
          go_meet
          exact ⟨rfl, rfl⟩
        · have d1 := dec_t (show (0 : Int) < (r : Int) by omega)
          have d2 := dec_t r0
          have e1 : IntKind.i64.wrap ((k : Int) + m_b) = (k : Int) + m_b := IntWalk.i64_in _ (by omega)
          have e2 : IntKind.i64.wrap ((k : Int) + m_b - r) = (kn : Int) := by rw [IntWalk.i64_in _ (by omega)]; omega
          clear HRR
          go_wp2_with fail
          go_meet
          exact ⟨rfl, rfl⟩
      case rest =>
        obtain ⟨rfl, rfl⟩ := hcut
        have hsz : W.heap.size ≤ wc.heap.size := xW4.size
        have er := Rd.of_own hown3B
        have e1 : IntKind.i64.wrap ((k : Int) + m_b) = (k : Int) + m_b := IntWalk.i64_in _ (by omega)
        have d1 := dec_f (show ¬ (((kn + r : Nat) : Int) < (k : Int) + m_b) by omega)
        have d2 := dec_f (show ¬ (kn + r < k + m_b) by omega)
        have d3 := dec_f (show ¬ ((kn : Int) + r < (k : Int) + m_b) by omega)
        have hro : ∀ f ∈ rest, f.Ok W := fun f hf => e_b.ok f (HG10.out f hf)
        go_wp2_with (at_builtin; refine wpList_app entsT (by omega) _ rfl rfl rfl hownK rfl er (logOf_cells _) (by unfold maxLen; omega) (by omega) hsz ?_; intro v5 w5 hown5 hg5 hat5; have x5 : Ext W w5 := Below.app xW4 hg5 hsz hownK (Nat.le_refl _); obtain ⟨A5, c5, rfl, hc5⟩ := own_form hown5; clear hg5 hat5)
        have hownN := own_to hown5 (ys := logOf (t.take kn ++ rest)) (Nat.le_refl _) rfl (by rw [logOf_append])
        have eN : Es w5 A5 (kn + r) (t.take kn ++ rest) := Es.of_own hownN (fun f hf => by
          rcases List.mem_append.1 hf with hf | hf
          · exact (e_t.ok f (List.mem_of_mem_take hf)).ext x5
          · exact (hro f hf).ext x5)
        have hNk : (t.take kn ++ rest).take k = t.take k := by
          rw [List.take_append_of_le_length (by rw [List.length_take, HLT.out]; omega), List.take_take, Nat.min_eq_left (by omega)]
        have hG7 := HG7.out
        have hG8 := HG8.out
        clear d1 d2 d3 e1 er hsz hro hownK hownB hown3B hown5 hownN HG7 HG8 HG10 HKN HKK HRR
        generalize t.take kn ++ rest = N at *
        have hN : N.length = kn + r := eN.len
        have HTM : Hid (∀ j, (hj : j < b.length) → (hj2 : k + j < N.length) → N[k + j].term = b[j].term) := Lib.hid (fun j hj hj2 => by
          have := hG7 j (by have := HLB.out; omega)
          rwa [tm_at hj2, tm_at hj] at this)
        have hlb := HLB.out
        clear hG7
        go_loopw [12] (fun i wr => ∃ j : Nat, i = .int .i64 j ∧ j ≤ m_b ∧ Ext w5 wr) (fun i _ => m_b - (intOf i).toNat)
        case atStart => exact ⟨0, rfl, by omega, Ext.refl _⟩
        case round =>
          obtain ⟨j, rfl, hj, hx⟩ := hrel
          by_cases hjm : j < m_b
          · obtain ⟨y1, o1, hA5, p0, -⟩ := (eN.ext hx).at_ (show k + j < kn + r by omega)
            obtain ⟨y2, o2, hAb, p1, -⟩ := (e_b.ext (x5.trans hx)).at_ hjm
            have he := HTM.out j (by omega) (by omega)
            subst hA5 hAb
            generalize (N[k + j]'(by omega)).term = s1 at *
            generalize (b[j]'(by omega)).term = s2 at *
            subst he
            have e1 : IntKind.i64.wrap ((k : Int) + j) = ((k + j : Nat) : Int) := by rw [IntWalk.i64_in _ (by omega)]; omega
            have i1 : ((k + j : Nat) : Int) < ((kn + r : Nat) : Int) := by omega
            have i2 : (0 : Int) ≤ ((k + j : Nat) : Int) := by omega
            have i3 : (j : Int) < (m_b : Int) := by omega
            have i4 : (0 : Int) ≤ (j : Int) := by omega
            clear HTM hG8 HLT HLB hlb hN hNk
            go_wp2_with fail
            go_quiet (fail)
            go_wp2_with fail
            go_roundw
            case rel => exact ⟨j + 1, val_int (by omega), by omega, hx.drewN _⟩
            case measure => simp [intOf]; omega
          · have hje : j = m_b := by omega
            subst hje
            have xwr := x5.trans hx
            have PM2 := Lib.hid (logs_Merge_in A5 (kn + r) c5 N k A_b j c_b b wr (eN.ext hx) (e_b.ext xwr) (by omega) (by omega) hc5 cc_b (by omega))
            rw [hG8] at PM2
            dsimp only at PM2
            have i1 : (0 : Int) ≤ (k : Int) := by omega
            have i2 : (k : Int) ≤ (c5 : Int) := by omega
            have i3 : (k : Int) ≤ (c_t : Int) := by omega
            have PS := Lib.hid (fun (V : World) (y : Ext wr V) => ref11_SameLog A5 A_t k c5 c_t (N.take k) (t.take k) V (((eN.ext hx).ext y).upto (by omega)) ((e_t.ext (xwr.trans y)).upto hk) (by rw [hNk]) (by omega))
            have xfin := xW.trans xwr
            have HG9 := Lib.hid g9
            clear HTM hG8 HLT HLB hlb hN hNk hjm g1 g2 g3 g4 g5 g6 g9 eN e_t e_b hx
            go_wp2_with fail
            refine PM2.out.mono ?_
            rintro e w6 ⟨v6, rfl, hown6, x6⟩
            obtain ⟨A6, c6, rfl, _⟩ := own_form hown6
            clear PM2 hown6
            go_upto_region 22 with fail
            go_region_held3 (fun _ => True) (trivial) (first | (go_at_call 23; refine (PS.out _ x6.drew).mono ?_; rintro e w7 ⟨rfl, x7⟩))
            all_goals
              have x67 : Ext wr w7 := x6.drew.trans x7
              rcases Nat.eq_zero_or_pos r with r0 | r0
              · have d1 := dec_f (show ¬ (0 : Int) < (r : Int) by omega)
                have d2 := dec_f (show ¬ 0 < r by omega)
                have e9 : kn + r = m_t := by rcases HG9.out with q | q <;> omega
                clear PS HG9
                subst r0
                obtain rfl : kn = m_t := by omega
                go_wp2
                go_ret
                exact ⟨rfl, xfin.trans x67⟩
              · have d1 := dec_t (show (0 : Int) < (r : Int) by omega)
                have d2 := dec_t r0
                clear PS HG9
                go_wp2
                go_ret
                exact ⟨rfl, xfin.trans x67⟩
theorem law_LogsMergeI (A : Option Addr) (n c : Nat) (l : List EV) (A' : Option Addr) (n' c' : Nat) (l' : List EV) (a : Int) (w : World) (a0 : 0 ≤ a) (a1 : a < 256) (h : Es w A n l) (hnc : n ≤ c) (hcm : c ≤ maxLen) (h' : Es w A' n' l') (hnc' : n' ≤ c') (hcm' : c' ≤ maxLen) :
    Calls Try.prog 7 #[.slice A n c, .slice A' n' c', .int .u8 a] w fun e w' => e = .returned (.bool true) ∧ Ext w w' := by
  obtain ⟨k, rfl⟩ := Int.eq_ofNat_of_zero_le a0
  exact law_LogsMerge A n c l A' n' c' l' k w (by omega) h hnc hcm h' hnc' hcm'
end Go.Proofs.Ytcdnjhcddbkciaa
