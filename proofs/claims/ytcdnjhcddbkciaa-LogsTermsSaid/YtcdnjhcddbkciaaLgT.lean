/- The walk of the law LogsTerms. (Printed by wip/tools/lgterms.py.) -/
import Derived.Test.YtcdnjhcddbkciaaLgE
import Derived.Test.YtcdnjhcddbkciaaLgF
namespace Go.Proofs.Ytcdnjhcddbkciaa
open Go.RowKit

theorem succ_ne {x : Int} (h : I64 x) : IntKind.i64.wrap (x + 1) ≠ x := by
  rcases Int.lt_or_le x 9223372036854775807 with h1 | h1
  · have := h.lo
    rw [IntWalk.i64_in _ (by omega)]; omega
  · have := h.hi
    have : x = 9223372036854775807 := by omega
    subst this
    decide

set_option maxRecDepth 100000 in
set_option maxHeartbeats 3200000 in
theorem law_LogsTerms (A : Option Addr) (n c : Nat) (l : List EV) (at_ term : Int) (w : World) (h : Es w A n l) (hnc : n ≤ c) (hcm : c ≤ maxLen) :
    Calls Try.prog 5 #[.slice A n c, .int .i64 at_, .int .i64 term] w fun e w' => e = .returned (.bool true) ∧ Ext w w' := by
  go_enter Try.func5, Try.ntmps5
  go_wp2_with fail
  refine (law17_shown _).mono ?_
  rintro e w1 ⟨rfl, x1⟩
  have HL := Lib.hid (fun (W : World) (x : Ext w W) => law17_cut A n c l W (h.ext x) hnc hcm)
  go_wp2_with fail
  refine (HL.out _ x1).mono ?_
  clear HL
  rintro e Wt ⟨v, rfl, own_t0, x2⟩
  have xt := x1.trans x2
  obtain ⟨A_t, c_t, rfl, cc_t, cm_t⟩ := own_form17 own_t0
  have own_t := own_to (base' := w.heap.size) own_t0 x1.size rfl rfl
  have et := Es.of_own own_t (cutL_ok (fun f hf => (h.ext xt).ok f hf))
  have e_t := et
  have ht_t : min 40 n ≤ 40 := by omega
  clear et own_t0 x2
  have ho_t : cutL 40 100 l = cutL 40 100 l := rfl
  generalize cutL 40 100 l = t at *
  generalize min 40 n = m_t at *
  clear ho_t
  have xW := xt
  generalize Wt = W at *
  have hlen := e_t.len
  have PL := Lib.hid (logs_Last A_t m_t c_t t W e_t (by omega))
  go_wp2_with fail
  refine PL.out.mono ?_
  rintro e w3 ⟨rfl, x3⟩
  clear PL
  have e_t3 := e_t.ext x3
  have PT := Lib.hid (fun (x : Int) (W : World) (h : Ext w3 W) => logs_Term A_t m_t c_t t x W (e_t3.ext h) (by omega))
  have PM := Lib.hid (fun (x y : Int) (W : World) (h : Ext w3 W) => logs_Match A_t m_t c_t t x y W (e_t3.ext h) (by omega))
  go_wp2
  go_loopw [10] (fun i wr => ∃ j : Nat, i = .int .i64 j ∧ j ≤ m_t ∧ Ext w3 wr) (fun i _ => m_t - (intOf i).toNat)
  case atStart => exact ⟨0, rfl, by omega, Ext.refl _⟩
  case round =>
    obtain ⟨j, rfl, hj, hx⟩ := hrel
    by_cases hlt : j < m_t
    · have hjl : j < t.length := by omega
      obtain ⟨b, off, hA, c0, c1⟩ := (e_t3.ext hx).at_ hlt
      have hu := ((e_t3.ext hx).ok t[j] (List.getElem_mem _)).u
      have hT := fun k => PT.out ((j : Int) + 1) (wr.drewN k) (hx.drewN k)
      have hM := fun y k => PM.out ((j : Int) + 1) y (wr.drewN k) (hx.drewN k)
      rw [termB_at t j hjl] at hT hM
      generalize t[j] = f at *
      obtain ⟨ft, fA, fl, fc, fb⟩ := f
      dsimp only at c0 c1 hu hT hM
      have hne : (ft == wrap64 (ft + 1)) = false := beq_f (fun e => succ_ne hu (by rw [IntWalk.i64_left]; exact e.symm))
      have heq : (ft == ft) = true := beq_self_eq_true ft
      have hw1 : IntKind.i64.wrap ((j : Int) + 1) = (j : Int) + 1 := IntWalk.i64_in _ (by omega)
      have q0 : (0 : Int) ≤ (j : Int) := by omega
      have q1 : (j : Int) < (m_t : Int) := by omega
      subst hA
      have HT := Lib.hid hT
      have HM := Lib.hid hM
      clear hT hM hu c1 hjl hlen
      go_wp2_with fail
      go_quiet ((first | (go_at_call 25; exact quiet_same (HT.out _)) | (go_at_call 26; exact quiet_same (HM.out _ _))))
      go_wp2_with fail
      go_roundw
      case rel => exact ⟨j + 1, val_int (by omega), by omega, hx.drewN _⟩
      case measure => simp [intOf]; omega
    · have hjm : j = m_t := by omega
      subst hjm
      have hTl := fun (x : Int) => PT.out x wr hx
      have hMl := fun (x y : Int) => PM.out x y wr hx
      have z0 : termB t 0 = 0 := termB_zero t
      have zl : termB t (j : Int) = lastT t := by rw [← hlen]; exact termB_last t
      have zo : at_ < 0 ∨ (j : Int) < at_ → termB t at_ = -1 := fun h => termB_out t at_ (by omega)
      have xf : Ext w wr := (xW.trans x3).trans hx
      have HTl := Lib.hid hTl
      have HMl := Lib.hid hMl
      have HZO := Lib.hid zo
      clear hlen hlt hj e_t e_t3 h own_t PT PM zo hTl hMl
      have cs : at_ < 0 ∨ (¬ at_ < 0 ∧ (j : Int) < at_) ∨ at_ = 0 ∨ (¬ at_ < 0 ∧ ¬ (j : Int) < at_ ∧ at_ ≠ 0) := by omega
      rcases cs with c1 | ⟨c1, c2⟩ | c1 | ⟨c1, c2, c3⟩
      · have za := HZO.out (.inl c1)
        have d1 := dec_t c1
        have d3 := bne_t (show at_ ≠ 0 by omega)
        clear HZO c1
        by_cases ht : term = -1
        · subst ht
          go_wp2_with (first | (go_at_call 25; refine (HTl.out _).mono ?_; rintro e wq ⟨rfl, rfl⟩) | (go_at_call 26; refine (HMl.out _ _).mono ?_; rintro e wq ⟨rfl, rfl⟩))
          go_ret
          exact ⟨rfl, xf⟩
        · have h1 := beq_f ht
          have h2 := beq_f (Ne.symm ht)
          clear ht
          go_wp2_with (first | (go_at_call 25; refine (HTl.out _).mono ?_; rintro e wq ⟨rfl, rfl⟩) | (go_at_call 26; refine (HMl.out _ _).mono ?_; rintro e wq ⟨rfl, rfl⟩))
          go_ret
          exact ⟨rfl, xf⟩
      · have za := HZO.out (.inr c2)
        have d1 := dec_f c1
        have d2 := dec_t c2
        have d3 := bne_t (show at_ ≠ 0 by omega)
        clear HZO c1 c2
        by_cases ht : term = -1
        · subst ht
          go_wp2_with (first | (go_at_call 25; refine (HTl.out _).mono ?_; rintro e wq ⟨rfl, rfl⟩) | (go_at_call 26; refine (HMl.out _ _).mono ?_; rintro e wq ⟨rfl, rfl⟩))
          go_ret
          exact ⟨rfl, xf⟩
        · have h1 := beq_f ht
          have h2 := beq_f (Ne.symm ht)
          clear ht
          go_wp2_with (first | (go_at_call 25; refine (HTl.out _).mono ?_; rintro e wq ⟨rfl, rfl⟩) | (go_at_call 26; refine (HMl.out _ _).mono ?_; rintro e wq ⟨rfl, rfl⟩))
          go_ret
          exact ⟨rfl, xf⟩
      · subst c1
        have d2 := dec_f (show ¬ (j : Int) < 0 by omega)
        clear HZO
        by_cases ht : term = 0
        · subst ht
          go_wp2_with (first | (go_at_call 25; refine (HTl.out _).mono ?_; rintro e wq ⟨rfl, rfl⟩) | (go_at_call 26; refine (HMl.out _ _).mono ?_; rintro e wq ⟨rfl, rfl⟩))
          go_ret
          exact ⟨rfl, xf⟩
        · have h1 := beq_f ht
          have h2 := beq_f (Ne.symm ht)
          clear ht
          go_wp2_with (first | (go_at_call 25; refine (HTl.out _).mono ?_; rintro e wq ⟨rfl, rfl⟩) | (go_at_call 26; refine (HMl.out _ _).mono ?_; rintro e wq ⟨rfl, rfl⟩))
          go_ret
          exact ⟨rfl, xf⟩
      · have d1 := dec_f c1
        have d2 := dec_f c2
        have d3 := bne_t c3
        clear HZO c1 c2 c3
        · go_wp2_with (first | (go_at_call 25; refine (HTl.out _).mono ?_; rintro e wq ⟨rfl, rfl⟩) | (go_at_call 26; refine (HMl.out _ _).mono ?_; rintro e wq ⟨rfl, rfl⟩))
          go_ret
          exact ⟨rfl, xf⟩
end Go.Proofs.Ytcdnjhcddbkciaa
