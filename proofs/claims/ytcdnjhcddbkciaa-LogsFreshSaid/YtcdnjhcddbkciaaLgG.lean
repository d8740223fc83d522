/- The walk of the law LogsFresh. (Printed by wip/tools/lgfresh.py.) -/
import Derived.Test.YtcdnjhcddbkciaaLgE
import Derived.Test.YtcdnjhcddbkciaaLgF
namespace Go.Proofs.Ytcdnjhcddbkciaa
open Go.RowKit

/-- the first terms do not fall, and none is below nought -/
def RisE (l : List EV) (n : Nat) : Prop := ∀ i, (h : i < n) → (hl : i < l.length) → 0 ≤ l[i].term ∧ (0 < i → (l[i - 1]'(by omega)).term ≤ l[i].term)
theorem RisE.zero (l : List EV) : RisE l 0 := fun i h _ => absurd h (by omega)
theorem RisE.succ {l : List EV} {j : Nat} (h : RisE l j) (hj : j < l.length) (h0 : 0 ≤ l[j].term) (h1 : 0 < j → (l[j - 1]'(by omega)).term ≤ l[j].term) : RisE l (j + 1) := fun i hi hl => by
  rcases Nat.lt_or_ge i j with k | k
  · exact h i k hl
  · have : i = j := by omega
    subst this
    exact ⟨h0, h1⟩
theorem RisE.mono {l : List EV} (h : RisE l l.length) : ∀ (d i : Nat) (hi : i + d < l.length), (l[i]'(by omega)).term ≤ (l[i + d]'hi).term
  | 0, i, hi => by simp
  | d + 1, i, hi => by
    have h1 := h.mono d i (by omega)
    have h2 := (h (i + d + 1) (by omega) (by omega)).2 (by omega)
    have e : i + d + 1 - 1 = i + d := by omega
    simp only [e] at h2
    exact Int.le_trans h1 h2
theorem lastT_ne {l : List EV} (n : Nat) (h : l.length = n) (h0 : 0 < n) : lastT l = (l[n - 1]'(by omega)).term := by
  obtain ⟨m, rfl⟩ : ∃ m, n = m + 1 := ⟨n - 1, by omega⟩
  exact lastT_at l m h
theorem fresh_early {l : List EV} (h : RisE l l.length) (k : Nat) (hk : k ≤ l.length) : freshB (l.take k) l.length (lastT l) = true := by
  have hl : (l.take k).length = k := by rw [List.length_take]; omega
  have hle : lastT (l.take k) ≤ lastT l := by
    rcases Nat.eq_zero_or_pos l.length with h0 | h0
    · have : l = [] := List.eq_nil_of_length_eq_zero h0
      subst this
      simp
    · rw [lastT_ne l.length rfl h0]
      have hb := (h (l.length - 1) (by omega) (by omega)).1
      rcases Nat.eq_zero_or_pos k with rfl | k0
      · rw [List.take_zero, lastT_nil]; exact hb
      · rw [lastT_ne k hl k0, List.getElem_take]
        have := h.mono (l.length - 1 - (k - 1)) (k - 1) (by omega)
        have e : k - 1 + (l.length - 1 - (k - 1)) = l.length - 1 := by omega
        simp only [e] at this
        exact this
  unfold freshB
  rw [hl]
  rcases Int.lt_or_eq_of_le hle with h1 | h1
  · simp [h1]
  · have h2 : (k : Int) ≤ l.length := by omega
    simp [h1, h2]

theorem fresh_pair (t b : List EV) : (freshB t b.length (lastT b) = true ∧ freshB b t.length (lastT t) = false ∧ lastT t ≠ lastT b) ∨ (freshB t b.length (lastT b) = false ∧ freshB b t.length (lastT t) = true ∧ lastT t ≠ lastT b) ∨
    (freshB t b.length (lastT b) = true ∧ freshB b t.length (lastT t) = false ∧ lastT t = lastT b ∧ t.length ≠ b.length) ∨ (freshB t b.length (lastT b) = false ∧ freshB b t.length (lastT t) = true ∧ lastT t = lastT b ∧ t.length ≠ b.length) ∨
    (freshB t b.length (lastT b) = true ∧ freshB b t.length (lastT t) = true ∧ lastT t = lastT b ∧ t.length = b.length) := by
  unfold freshB
  generalize lastT t = p
  generalize lastT b = q
  generalize t.length = i
  generalize b.length = j
  rcases Int.lt_trichotomy p q with h | rfl | h
  · have h1 : ¬ q < p := by omega
    have h2 : p ≠ q := by omega
    exact .inl ⟨by simp [h], by simp [h1, h2], h2⟩
  · rcases Nat.lt_trichotomy i j with k | rfl | k
    · have k1 : (i : Int) ≤ j := by omega
      have k2 : ¬ (j : Int) ≤ i := by omega
      exact .inr (.inr (.inl ⟨by simp; omega, by simp; omega, rfl, by omega⟩))
    · exact .inr (.inr (.inr (.inr ⟨by simp, by simp, rfl, rfl⟩)))
    · exact .inr (.inr (.inr (.inl ⟨by simp; omega, by simp; omega, rfl, by omega⟩)))
  · have h1 : ¬ p < q := by omega
    have h2 : p ≠ q := by omega
    exact .inr (.inl ⟨by simp [h1]; omega, by simp [h], h2⟩)

set_option maxRecDepth 100000 in
set_option maxHeartbeats 3200000 in
theorem law_LogsFresh (A : Option Addr) (n c : Nat) (l : List EV) (A' : Option Addr) (n' c' : Nat) (l' : List EV) (at_ : Nat) (w : World) (ha : at_ < 256) (h : Es w A n l) (hnc : n ≤ c) (hcm : c ≤ maxLen) (h' : Es w A' n' l') (hnc' : n' ≤ c') (hcm' : c' ≤ maxLen) :
    Calls Try.prog 6 #[.slice A n c, .slice A' n' c', .int .u8 at_] w fun e w' => e = .returned (.bool true) ∧ Ext w w' := by
  go_enter Try.func6, Try.ntmps6
  go_wp2_with fail
  refine (law17_shown _).mono ?_
  rintro e w1 ⟨rfl, x1⟩
  have HL := Lib.hid (fun (W : World) (x : Ext w W) => law17_cut A n c l W (h.ext x) hnc hcm)
  go_wp2_with fail
  refine (HL.out _ x1).mono ?_
  clear HL
  rintro e Wt ⟨v, rfl, own_t0, x2⟩
  have xt := x1.trans x2
  obtain ⟨A_t, c_t, rfl, cc_t, cm_t⟩ := own_form17 own_t0
  have own_t := own_to (base' := w.heap.size) own_t0 x1.size rfl rfl
  have et := Es.of_own own_t (cutL_ok (fun f hf => (h.ext xt).ok f hf))
  have e_t := et
  have ht_t : min 40 n ≤ 40 := by omega
  clear et own_t0 x2
  have ho_t : cutL 40 100 l = cutL 40 100 l := rfl
  generalize cutL 40 100 l = t at *
  generalize min 40 n = m_t at *
  clear ho_t
  have HL := Lib.hid (fun (W : World) (x : Ext w W) => law17_cut A' n' c' l' W (h'.ext x) hnc' hcm')
  go_wp2_with fail
  refine (HL.out _ xt).mono ?_
  clear HL
  rintro e Wb ⟨v, rfl, own_b0, x2⟩
  have xb := xt.trans x2
  obtain ⟨A_b, c_b, rfl, cc_b, cm_b⟩ := own_form17 own_b0
  have own_b := own_to (base' := w.heap.size) own_b0 xt.size rfl rfl
  have et := Es.of_own own_b (cutL_ok (fun f hf => (h'.ext xb).ok f hf))
  replace e_t := e_t.ext x2
  have own_t' := own_ext own_t x2
  clear own_t
  have own_t := own_t'
  clear own_t'
  have e_b := et
  have ht_b : min 40 n' ≤ 40 := by omega
  clear et own_b0 x2
  have ho_b : cutL 40 100 l' = cutL 40 100 l' := rfl
  generalize cutL 40 100 l' = b at *
  generalize min 40 n' = m_b at *
  clear ho_b
  have xW := xb
  generalize Wb = W at *
  have hlt := e_t.len
  have hlb := e_b.len
  have cs := fresh_pair t b
  rw [hlt, hlb] at cs
  have HCS := Lib.hid cs
  clear cs
  have PL := Lib.hid (logs_Last A_t m_t c_t t W e_t (by omega))
  go_wp2_with fail
  refine PL.out.mono ?_
  rintro e w3 ⟨rfl, x3⟩
  clear PL
  have PL := Lib.hid (logs_Last A_b m_b c_b b w3 (e_b.ext x3) (by omega))
  go_wp2_with fail
  refine PL.out.mono ?_
  rintro e w4 ⟨rfl, x4⟩
  clear PL
  have x34 := x3.trans x4
  have PF := Lib.hid (logs_Fresh A_t m_t c_t t m_b (lastT b) w4 (e_t.ext x34) (by omega))
  generalize freshB t m_b (lastT b) = o1 at *
  go_wp2_with fail
  refine PF.out.mono ?_
  rintro e w5 ⟨rfl, x5⟩
  clear PF
  have x35 := x34.trans x5
  have PF := Lib.hid (logs_Fresh A_b m_b c_b b m_t (lastT t) w5 (e_b.ext x35) (by omega))
  generalize freshB b m_t (lastT t) = o2 at *
  go_wp2_with fail
  refine PF.out.mono ?_
  rintro e w6 ⟨rfl, x6⟩
  clear PF
  have x36 := x35.trans x6
  have e_t6 := e_t.ext x36
  have xf := xW.trans x36
  clear e_b own_b own_t e_t x3 x4 x34 x5 x35 x6 x36 xt xb x1
  have HE := Lib.hid (fun (k : Nat) (hk : k ≤ t.length) (hr : RisE t t.length) => fresh_early hr k hk)
  rw [hlt] at HE
  have hTl : termB t (m_t : Int) = lastT t := by rw [← hlt]; exact termB_last t
  have PM := Lib.hid (fun (W : World) (x : Ext w6 W) => logs_Match A_t m_t c_t t m_t (lastT t) W (e_t6.ext x) (by omega))
  rw [hTl, beq_self_eq_true] at PM
  have hk : at_ % (m_t + 1) ≤ m_t := by have := Nat.mod_lt at_ (show 0 < m_t + 1 by omega); omega
  have PE := Lib.hid (fun (W : World) (x : Ext w6 W) => logs_Fresh A_t (at_ % (m_t + 1)) c_t (t.take (at_ % (m_t + 1))) m_t (lastT t) W ((e_t6.ext x).upto hk) (by omega))
  have HB := Lib.hid (fun (hr : RisE t m_t) => HE.out _ hk hr)
  have hmod : Int.tmod (at_ : Int) ((m_t : Int) + 1) = ((at_ % (m_t + 1) : Nat) : Int) := by rw [Int.tmod_eq_emod_of_nonneg (by omega), Int.natCast_emod]; rfl
  have hwa : IntKind.i64.wrap (at_ : Int) = (at_ : Int) := IntWalk.i64_in _ (by omega)
  have hwm : IntKind.i64.wrap ((m_t : Int) + 1) = (m_t : Int) + 1 := IntWalk.i64_in _ (by omega)
  clear HE hTl
  generalize at_ % (m_t + 1) = k at *
  generalize freshB (t.take k) (m_t : Int) (lastT t) = fe at *
  go_upto_region 8 with fail
  go_cut [79] (fun v wx => v = .bool false ∧ wx = w6)
  case first =>
    generalize lastT b = q at *
    generalize lastT t = p at *
    clear PM PE HB
    rcases HCS.out with ⟨rfl, rfl, h1⟩ | ⟨rfl, rfl, h1⟩ | ⟨rfl, rfl, rfl, h1⟩ | ⟨rfl, rfl, rfl, h1⟩ | ⟨rfl, rfl, rfl, rfl⟩
    · have h2 := beq_f h1
      clear HCS h1
      rcases Nat.lt_trichotomy m_t m_b with h3 | rfl | h3
      · have h4 := beq_f (show (m_t : Int) ≠ m_b by omega)
        go_wp2_with fail
        go_meet
        exact ⟨rfl, rfl⟩
      · go_wp2_with fail
        go_meet
        exact ⟨rfl, rfl⟩
      · have h4 := beq_f (show (m_t : Int) ≠ m_b by omega)
        go_wp2_with fail
        go_meet
        exact ⟨rfl, rfl⟩
    · have h2 := beq_f h1
      clear HCS h1
      rcases Nat.lt_trichotomy m_t m_b with h3 | rfl | h3
      · have h4 := beq_f (show (m_t : Int) ≠ m_b by omega)
        go_wp2_with fail
        go_meet
        exact ⟨rfl, rfl⟩
      · go_wp2_with fail
        go_meet
        exact ⟨rfl, rfl⟩
      · have h4 := beq_f (show (m_t : Int) ≠ m_b by omega)
        go_wp2_with fail
        go_meet
        exact ⟨rfl, rfl⟩
    · have h4 := beq_f (show (m_t : Int) ≠ m_b by omega)
      clear HCS h1
      go_wp2_with fail
      go_meet
      exact ⟨rfl, rfl⟩
    · have h4 := beq_f (show (m_t : Int) ≠ m_b by omega)
      clear HCS h1
      go_wp2_with fail
      go_meet
      exact ⟨rfl, rfl⟩
    · clear HCS
      go_wp2_with fail
      go_meet
      exact ⟨rfl, rfl⟩
  case rest =>
    obtain ⟨rfl, rfl⟩ := hcut
    clear HCS
    go_wp2
    go_loopw [14, 15] (fun v i wr => ∃ (j : Nat) (r : Bool), v = .bool r ∧ i = .int .i64 j ∧ j ≤ m_t ∧ (r = true → RisE t j) ∧ Ext wc wr) (fun _ i _ => m_t - (intOf i).toNat)
    case atStart => exact ⟨0, true, rfl, rfl, by omega, fun _ => RisE.zero t, Ext.refl _⟩
    case round =>
      obtain ⟨j, r, rfl, rfl, hj, hr, hx⟩ := hrel
      have HR := Lib.hid hr
      clear hr
      by_cases hjm : j < m_t
      · rcases r with _ | _
        · have hi : (j : Int) < m_t := by omega
          go_wp2_with fail
          go_quiet (fail)
          go_wp2_with fail
          go_roundw
          case rel => exact ⟨j + 1, false, rfl, val_int (by omega), by omega, (fun h => absurd h (by simp)), hx.drewN _⟩
          case measure => simp [intOf]; omega
        · have hjl : j < t.length := by omega
          obtain ⟨g, off, rfl, c0, _⟩ := (e_t6.ext hx).at_ hjm
          have hRs := fun h0 h1 => RisE.succ (HR.out rfl) hjl h0 h1
          rcases Nat.eq_zero_or_pos j with rfl | hj0
          · have HS := Lib.hid (fun h0 => hRs h0 (fun h => absurd h (by omega)))
            have hi : (0 : Int) < m_t := by omega
            clear hRs HR
            generalize t[0].term = y at *
            rw [Nat.zero_mul, Nat.add_zero] at c0
            by_cases h0 : 0 ≤ y
            · have d0 := dec_t h0
              have HS2 := Lib.hid (HS.out h0)
              clear h0 HS
              go_wp2_with fail
              go_quiet (fail)
              go_wp2_with fail
              go_roundw
              case rel => exact ⟨0 + 1, true, rfl, val_int (by omega), by omega, fun _ => HS2.out, hx.drewN _⟩
              case measure => simp [intOf]; omega
            · have d0 := dec_f h0
              clear h0 HS
              go_wp2_with fail
              go_quiet (fail)
              go_wp2_with fail
              go_roundw
              case rel => exact ⟨0 + 1, false, rfl, val_int (by omega), by omega, (fun h => absurd h (by simp)), hx.drewN _⟩
              case measure => simp [intOf]; omega
          · obtain ⟨m, hm⟩ : ∃ m, j - 1 = m := ⟨_, rfl⟩
            obtain ⟨g2, off2, hA2, c2, _⟩ := (e_t6.ext hx).at_ (show m < m_t by omega)
            have HS := Lib.hid (fun h0 h1 => hRs h0 (fun _ => h1))
            simp only [hm] at HS
            injection hA2 with hA2
            injection hA2 with k1 k2
            subst k1 k2
            have hi : (j : Int) < m_t := by omega
            have hi2 : (m : Int) < m_t := by omega
            have hi3 : (0 : Int) ≤ (j : Int) := by omega
            have hi4 : (0 : Int) ≤ (m : Int) := by omega
            have e1 : IntKind.i64.wrap ((j : Int) - 1) = m := by rw [show (j : Int) - 1 = m by omega]; exact IntWalk.i64_in _ (by omega)
            have e2 := beq_f (show (j : Int) ≠ 0 by omega)
            clear hRs HR
            generalize t[j].term = y at *
            generalize t[m].term = x at *
            by_cases h0 : 0 ≤ y
            · have d0 := dec_t h0
              by_cases h1 : x ≤ y
              · have d1 := dec_t h1
                have HS2 := Lib.hid (HS.out h0 h1)
                clear h0 h1 HS
                go_wp2_with fail
                go_quiet (fail)
                go_wp2_with fail
                go_roundw
                case rel => exact ⟨j + 1, true, rfl, val_int (by omega), by omega, fun _ => HS2.out, hx.drewN _⟩
                case measure => simp [intOf]; omega
              · have d1 := dec_f h1
                clear h0 h1 HS
                go_wp2_with fail
                go_quiet (fail)
                go_wp2_with fail
                go_roundw
                case rel => exact ⟨j + 1, false, rfl, val_int (by omega), by omega, (fun h => absurd h (by simp)), hx.drewN _⟩
                case measure => simp [intOf]; omega
            · have d0 := dec_f h0
              clear h0 HS
              go_wp2_with fail
              go_quiet (fail)
              go_wp2_with fail
              go_roundw
              case rel => exact ⟨j + 1, false, rfl, val_int (by omega), by omega, (fun h => absurd h (by simp)), hx.drewN _⟩
              case measure => simp [intOf]; omega
      · have hje : j = m_t := by omega
        subst hje
        have HM := Lib.hid (PM.out wr hx)
        have PMW := Lib.hid PM.out
        have hx0 := Lib.hid hx
        have HE := Lib.hid (PE.out wr hx)
        have xe := xf.trans hx
        have k0 : (0 : Int) ≤ k := by omega
        have k1 : (k : Int) ≤ c_t := by omega
        have HBR := Lib.hid (fun (h : r = true) => HB.out (HR.out h))
        clear PM PE HB HR hjm e_t6 hlt hj hx
        rcases r with _ | _
        · go_wp2_with fail
          refine HM.out.mono ?_
          rintro e wq ⟨rfl, rfl⟩
          go_wp2
          go_ret
          exact ⟨rfl, xe⟩
        · have hfe := HBR.out rfl
          subst hfe
          go_wp2_with fail
          refine HE.out.mono ?_
          rintro e wq ⟨rfl, xq⟩
          clear HM
          have HM2 := Lib.hid (PMW.out wq (hx0.out.trans xq))
          go_wp2_with fail
          refine HM2.out.mono ?_
          rintro e wq2 ⟨rfl, rfl⟩
          go_wp2
          go_ret
          exact ⟨rfl, xe.trans xq⟩
theorem law_LogsFreshI (A : Option Addr) (n c : Nat) (l : List EV) (A' : Option Addr) (n' c' : Nat) (l' : List EV) (a : Int) (w : World) (a0 : 0 ≤ a) (a1 : a < 256) (h : Es w A n l) (hnc : n ≤ c) (hcm : c ≤ maxLen) (h' : Es w A' n' l') (hnc' : n' ≤ c') (hcm' : c' ≤ maxLen) :
    Calls Try.prog 6 #[.slice A n c, .slice A' n' c', .int .u8 a] w fun e w' => e = .returned (.bool true) ∧ Ext w w' := by
  obtain ⟨k, rfl⟩ := Int.eq_ofNat_of_zero_le a0
  exact law_LogsFresh A n c l A' n' c' l' k w (by omega) h hnc hcm h' hnc' hcm'
end Go.Proofs.Ytcdnjhcddbkciaa
