/- The walk of the law FormGrows. -/
import Derived.Test.YtjfohlnkdagjcaaFormC
namespace Go.Proofs.Ytjfohlnkdagjcaa
open Go.RowKit

def growChk (L M : List SpV) (v : Nat) : Bool :=
  topL L == L.length && decide (M.length ≤ L.length) && (List.range 10).all fun i => match L[i]? with
    | none => true
    | some s => s.num == i + 1 && decide (1 ≤ s.since) && decide (s.since ≤ v) && (decide (s.since ≤ 1) || !s.need) && (if i < M.length then M[i]? == some s else s.since == v)
theorem grow_all : ((List.range 16).all fun k => (List.range 3).all fun v => growChk (specL (k : Nat) ((v : Int) + 1)) (specL (k : Nat) (v : Nat)) (v + 1) && (decide (0 < (specL (k : Nat) ((v : Int) + 1)).length) == (decide (1 ≤ k) && decide (k ≤ 7)))) = true := by decide +kernel
theorem grow_at {k v : Nat} (hk : k < 16) (h1 : 1 ≤ v) (h3 : v ≤ 3) : growChk (specL (k : Nat) (v : Nat)) (specL (k : Nat) ((v : Int) - 1)) v = true ∧ (decide (0 < (specL (k : Nat) (v : Nat)).length) = (decide (1 ≤ k) && decide (k ≤ 7))) := by
  have h := List.all_eq_true.1 (List.all_eq_true.1 grow_all k (List.mem_range.2 hk)) (v - 1) (List.mem_range.2 (by omega))
  obtain ⟨u, rfl⟩ : ∃ u, v = u + 1 := ⟨v - 1, by omega⟩
  simp only [Nat.add_sub_cancel, Bool.and_eq_true, beq_iff_eq] at h
  rw [show ((u + 1 : Nat) : Int) - 1 = (u : Int) by omega, show ((u + 1 : Nat) : Int) = (u : Int) + 1 by omega]
  exact ⟨by simpa using h.1, h.2⟩
theorem grow_get {L M : List SpV} {v : Nat} (h : growChk L M v = true) (hl : L.length ≤ 10) : topL L = L.length ∧ M.length ≤ L.length ∧ ∀ i (hi : i < L.length), L[i].num = i + 1 ∧ 1 ≤ L[i].since ∧ L[i].since ≤ v ∧ (L[i].since ≤ 1 ∨ L[i].need = false) ∧ (∀ hm : i < M.length, M[i] = L[i]) ∧ (M.length ≤ i → L[i].since = v) := by
  unfold growChk at h
  simp only [Bool.and_eq_true, beq_iff_eq, decide_eq_true_eq] at h
  obtain ⟨⟨h1, h2⟩, h3⟩ := h
  refine ⟨h1, h2, fun i hi => ?_⟩
  have := List.all_eq_true.1 h3 i (List.mem_range.2 (by omega))
  rw [List.getElem?_eq_getElem hi] at this
  simp only [Bool.and_eq_true, beq_iff_eq, decide_eq_true_eq, Bool.or_eq_true, Bool.not_eq_true'] at this
  obtain ⟨⟨⟨⟨a, b⟩, c⟩, d⟩, e⟩ := this
  refine ⟨a, b, c, d, fun hm => ?_, fun hm => ?_⟩
  · rw [if_pos hm, List.getElem?_eq_getElem hm] at e
    simpa using e
  · rw [if_neg (by omega)] at e
    simpa using e
theorem and15 (n : Int) (h0 : 0 ≤ n) (h1 : n < 256) : ∃ k : Nat, k < 16 ∧ bits .and .u8 n 15 = (k : Int) := by
  have : ∀ y : Fin 256, bits .and .u8 ((y.val : Nat) : Int) 15 = ((y.val % 16 : Nat) : Int) := by decide +kernel
  obtain ⟨m, rfl⟩ := Int.eq_ofNat_of_zero_le h0
  exact ⟨m % 16, Nat.mod_lt _ (by omega), this ⟨m, by omega⟩⟩

set_option maxRecDepth 100000 in
set_option maxHeartbeats 3200000 in
theorem law_FormGrows (n : Int) (w : World) (h0 : 0 ≤ n) (h1 : n < 256) :
    Calls Try.prog 13 #[.int .u8 n] w fun e w' => e = .returned (.bool true) ∧ Ext w w' := by
  obtain ⟨k, hk, hand⟩ := and15 n h0 h1
  have HF := Lib.hid (fun v (a : 1 ≤ v) (b : v ≤ 3) => grow_at hk a b)
  have hcs : ((k : Int) < 1 ∧ k < 1) ∨ ((1 : Int) ≤ k ∧ (7 : Int) < k ∧ 7 < k) ∨ ((1 : Int) ≤ k ∧ (k : Int) ≤ 7 ∧ 1 ≤ k ∧ k ≤ 7) := by omega
  have hk' : (k : Int) < 16 := by omega
  have HS := Lib.hid (fun (v : Int) w => forms_Specs k v w)
  have HT := Lib.hid (fun (v : Int) w => forms_Top k v w)
  clear hk
  rcases hcs with ⟨g1, g2⟩ | ⟨g1, g2, g3⟩ | ⟨g1, g2, g3, g4⟩
  · go_enter Try.func13, Try.ntmps13
    go_wp2_with fail
    refine (law04_shown _).mono ?_
    rintro e w1 ⟨rfl, x1⟩
    go_wp2
    go_loopw [5] (fun v wr => ∃ j : Nat, v = .int .i64 j ∧ 1 ≤ j ∧ j ≤ 4 ∧ Ext w wr) (fun v _ => 4 - (intOf v).toNat)
    case atStart => exact ⟨1, rfl, by omega, by omega, x1⟩
    case round =>
      obtain ⟨j, rfl, hj1, hj4, hx⟩ := hrel
      obtain ⟨wo, rfl⟩ : ∃ wo : World, wo = wr := ⟨_, rfl⟩
      by_cases hj : j ≤ 3
      · obtain ⟨f1, f2⟩ := HF.out j hj1 hj
        obtain ⟨f3, f4, f5⟩ := grow_get f1 (specL_len _ _)
        have hN10 := specL_len (k : Nat) (j : Nat)
        have H1 := Lib.hid (HS.out j wo)
        have H2 := Lib.hid (fun w => HT.out j w)
        rw [f3] at H2
        have H3 := Lib.hid (fun w => HS.out ((j : Int) - 1) w)
        clear f1 f3
        generalize specL (k : Nat) (j : Nat) = L at *
        generalize specL (k : Nat) ((j : Int) - 1) = M at *
        have HF5 := Lib.hid f5; clear f5
        have hLc : (1 ≤ k ∧ k ≤ 7 ∧ 0 < L.length) ∨ (¬ (1 ≤ k ∧ k ≤ 7) ∧ L.length = 0) := by
          by_cases c : 1 ≤ k ∧ k ≤ 7
          · left; refine ⟨c.1, c.2, ?_⟩; simpa [c.1, c.2] using f2
          · right; refine ⟨c, ?_⟩
            have : ¬ 0 < L.length := by
              intro h
              rw [decide_eq_true h] at f2
              have := f2.symm
              simp only [Bool.and_eq_true, decide_eq_true_eq] at this
              exact c this
            omega
        have e1 : IntKind.i64.wrap ((j : Int) - 1) = (j : Int) - 1 := IntWalk.i64_in _ (by omega)
        clear f2
        go_wp2_with fail
        refine H1.out.mono ?_
        rintro e w2 ⟨V, rfl, hown, x2⟩
        obtain ⟨A, c, rfl, _⟩ := own_form hown
        have hL := Ss.of_own hown
        have hx2 := hx.trans x2
        clear hown H1 hx x2
        generalize hN : L.length = N at H2 hL hLc hN10 f4 ⊢
        have HN := Lib.hid hN; clear hN
        generalize hMN : M.length = K at H3 f4 ⊢
        have HK := Lib.hid hMN; clear hMN
        obtain rfl : N = 0 := by omega
        clear hLc
        go_wp2_with (go_at_call 41; refine (H2.out _).mono ?_; rintro e w3 ⟨rfl, x3⟩)
        go_loopw [7] (fun i wr => ∃ q : Nat, i = .int .i64 q ∧ q ≤ 0 ∧ Ext w2 wr) (fun i _ => 0 - (intOf i).toNat)
        case atStart => exact ⟨0, rfl, by omega, x3⟩
        case round =>
          obtain ⟨q, rfl, hq, hxq⟩ := hrel
          by_cases hqn : q < 0
          · exact absurd hqn (by omega)
          · obtain rfl : q = 0 := by omega
            by_cases hjj : j ≤ 1
            · go_wp2_with fail
              refine ⟨⟨j + 1, val_int (by omega), by omega, by omega, hx2.trans hxq⟩, by simp [intOf]; omega⟩
            · go_wp2_with fail
              refine (H3.out _).mono ?_
              rintro e w5 ⟨V5, rfl, hown5, x5⟩
              obtain ⟨A5, c5, rfl, _⟩ := own_form hown5
              have hM := Ss.of_own hown5
              have hL5 := hL.ext (hxq.trans x5)
              have hx5 := hx2.trans (hxq.trans x5)
              clear hown5
              go_wp2
              go_loopw [9] (fun i wr => ∃ q : Nat, i = .int .i64 q ∧ q ≤ 0 ∧ Ext w5 wr) (fun i _ => 0 - (intOf i).toNat)
              case atStart => exact ⟨0, rfl, by omega, Ext.refl _⟩
              case round =>
                obtain ⟨q, rfl, hq, hxr⟩ := hrel
                by_cases hqn2 : q < 0
                · exact absurd hqn2 (by omega)
                · obtain rfl : q = 0 := by omega
                  go_wp2_with fail
                  refine ⟨⟨j + 1, val_int (by omega), by omega, by omega, hx5.trans hxr⟩, by simp [intOf]; omega⟩
      · obtain rfl : j = 4 := by omega
        go_wp2_with fail
        refine (HS.out _ _).mono ?_
        rintro e w2 ⟨V2, rfl, hown2, x2⟩
        obtain ⟨A2, c2, rfl, _⟩ := own_form hown2
        rw [show specL k 0 = [] by unfold specL; rw [if_neg (by omega)]]
        clear hown2
        go_wp2_with fail
        refine (HS.out _ _).mono ?_
        rintro e w3 ⟨V3, rfl, hown3, x3⟩
        obtain ⟨A3, c3, rfl, _⟩ := own_form hown3
        rw [show specL k 4 = [] by unfold specL; rw [if_neg (by omega)]]
        clear hown3
        go_wp2
        go_ret
        exact ⟨rfl, hx.trans (x2.trans x3)⟩
  · go_enter Try.func13, Try.ntmps13
    go_wp2_with fail
    refine (law04_shown _).mono ?_
    rintro e w1 ⟨rfl, x1⟩
    go_wp2
    go_loopw [5] (fun v wr => ∃ j : Nat, v = .int .i64 j ∧ 1 ≤ j ∧ j ≤ 4 ∧ Ext w wr) (fun v _ => 4 - (intOf v).toNat)
    case atStart => exact ⟨1, rfl, by omega, by omega, x1⟩
    case round =>
      obtain ⟨j, rfl, hj1, hj4, hx⟩ := hrel
      obtain ⟨wo, rfl⟩ : ∃ wo : World, wo = wr := ⟨_, rfl⟩
      by_cases hj : j ≤ 3
      · obtain ⟨f1, f2⟩ := HF.out j hj1 hj
        obtain ⟨f3, f4, f5⟩ := grow_get f1 (specL_len _ _)
        have hN10 := specL_len (k : Nat) (j : Nat)
        have H1 := Lib.hid (HS.out j wo)
        have H2 := Lib.hid (fun w => HT.out j w)
        rw [f3] at H2
        have H3 := Lib.hid (fun w => HS.out ((j : Int) - 1) w)
        clear f1 f3
        generalize specL (k : Nat) (j : Nat) = L at *
        generalize specL (k : Nat) ((j : Int) - 1) = M at *
        have HF5 := Lib.hid f5; clear f5
        have hLc : (1 ≤ k ∧ k ≤ 7 ∧ 0 < L.length) ∨ (¬ (1 ≤ k ∧ k ≤ 7) ∧ L.length = 0) := by
          by_cases c : 1 ≤ k ∧ k ≤ 7
          · left; refine ⟨c.1, c.2, ?_⟩; simpa [c.1, c.2] using f2
          · right; refine ⟨c, ?_⟩
            have : ¬ 0 < L.length := by
              intro h
              rw [decide_eq_true h] at f2
              have := f2.symm
              simp only [Bool.and_eq_true, decide_eq_true_eq] at this
              exact c this
            omega
        have e1 : IntKind.i64.wrap ((j : Int) - 1) = (j : Int) - 1 := IntWalk.i64_in _ (by omega)
        clear f2
        go_wp2_with fail
        refine H1.out.mono ?_
        rintro e w2 ⟨V, rfl, hown, x2⟩
        obtain ⟨A, c, rfl, _⟩ := own_form hown
        have hL := Ss.of_own hown
        have hx2 := hx.trans x2
        clear hown H1 hx x2
        generalize hN : L.length = N at H2 hL hLc hN10 f4 ⊢
        have HN := Lib.hid hN; clear hN
        generalize hMN : M.length = K at H3 f4 ⊢
        have HK := Lib.hid hMN; clear hMN
        obtain rfl : N = 0 := by omega
        clear hLc
        go_wp2_with (go_at_call 41; refine (H2.out _).mono ?_; rintro e w3 ⟨rfl, x3⟩)
        go_loopw [7] (fun i wr => ∃ q : Nat, i = .int .i64 q ∧ q ≤ 0 ∧ Ext w2 wr) (fun i _ => 0 - (intOf i).toNat)
        case atStart => exact ⟨0, rfl, by omega, x3⟩
        case round =>
          obtain ⟨q, rfl, hq, hxq⟩ := hrel
          by_cases hqn : q < 0
          · exact absurd hqn (by omega)
          · obtain rfl : q = 0 := by omega
            by_cases hjj : j ≤ 1
            · go_wp2_with fail
              refine ⟨⟨j + 1, val_int (by omega), by omega, by omega, hx2.trans hxq⟩, by simp [intOf]; omega⟩
            · go_wp2_with fail
              refine (H3.out _).mono ?_
              rintro e w5 ⟨V5, rfl, hown5, x5⟩
              obtain ⟨A5, c5, rfl, _⟩ := own_form hown5
              have hM := Ss.of_own hown5
              have hL5 := hL.ext (hxq.trans x5)
              have hx5 := hx2.trans (hxq.trans x5)
              clear hown5
              go_wp2
              go_loopw [9] (fun i wr => ∃ q : Nat, i = .int .i64 q ∧ q ≤ 0 ∧ Ext w5 wr) (fun i _ => 0 - (intOf i).toNat)
              case atStart => exact ⟨0, rfl, by omega, Ext.refl _⟩
              case round =>
                obtain ⟨q, rfl, hq, hxr⟩ := hrel
                by_cases hqn2 : q < 0
                · exact absurd hqn2 (by omega)
                · obtain rfl : q = 0 := by omega
                  go_wp2_with fail
                  refine ⟨⟨j + 1, val_int (by omega), by omega, by omega, hx5.trans hxr⟩, by simp [intOf]; omega⟩
      · obtain rfl : j = 4 := by omega
        go_wp2_with fail
        refine (HS.out _ _).mono ?_
        rintro e w2 ⟨V2, rfl, hown2, x2⟩
        obtain ⟨A2, c2, rfl, _⟩ := own_form hown2
        rw [show specL k 0 = [] by unfold specL; rw [if_neg (by omega)]]
        clear hown2
        go_wp2_with fail
        refine (HS.out _ _).mono ?_
        rintro e w3 ⟨V3, rfl, hown3, x3⟩
        obtain ⟨A3, c3, rfl, _⟩ := own_form hown3
        rw [show specL k 4 = [] by unfold specL; rw [if_neg (by omega)]]
        clear hown3
        go_wp2
        go_ret
        exact ⟨rfl, hx.trans (x2.trans x3)⟩
  · go_enter Try.func13, Try.ntmps13
    go_wp2_with fail
    refine (law04_shown _).mono ?_
    rintro e w1 ⟨rfl, x1⟩
    go_wp2
    go_loopw [5] (fun v wr => ∃ j : Nat, v = .int .i64 j ∧ 1 ≤ j ∧ j ≤ 4 ∧ Ext w wr) (fun v _ => 4 - (intOf v).toNat)
    case atStart => exact ⟨1, rfl, by omega, by omega, x1⟩
    case round =>
      obtain ⟨j, rfl, hj1, hj4, hx⟩ := hrel
      obtain ⟨wo, rfl⟩ : ∃ wo : World, wo = wr := ⟨_, rfl⟩
      by_cases hj : j ≤ 3
      · obtain ⟨f1, f2⟩ := HF.out j hj1 hj
        obtain ⟨f3, f4, f5⟩ := grow_get f1 (specL_len _ _)
        have hN10 := specL_len (k : Nat) (j : Nat)
        have H1 := Lib.hid (HS.out j wo)
        have H2 := Lib.hid (fun w => HT.out j w)
        rw [f3] at H2
        have H3 := Lib.hid (fun w => HS.out ((j : Int) - 1) w)
        clear f1 f3
        generalize specL (k : Nat) (j : Nat) = L at *
        generalize specL (k : Nat) ((j : Int) - 1) = M at *
        have HF5 := Lib.hid f5; clear f5
        have hLc : (1 ≤ k ∧ k ≤ 7 ∧ 0 < L.length) ∨ (¬ (1 ≤ k ∧ k ≤ 7) ∧ L.length = 0) := by
          by_cases c : 1 ≤ k ∧ k ≤ 7
          · left; refine ⟨c.1, c.2, ?_⟩; simpa [c.1, c.2] using f2
          · right; refine ⟨c, ?_⟩
            have : ¬ 0 < L.length := by
              intro h
              rw [decide_eq_true h] at f2
              have := f2.symm
              simp only [Bool.and_eq_true, decide_eq_true_eq] at this
              exact c this
            omega
        have e1 : IntKind.i64.wrap ((j : Int) - 1) = (j : Int) - 1 := IntWalk.i64_in _ (by omega)
        clear f2
        go_wp2_with fail
        refine H1.out.mono ?_
        rintro e w2 ⟨V, rfl, hown, x2⟩
        obtain ⟨A, c, rfl, _⟩ := own_form hown
        have hL := Ss.of_own hown
        have hx2 := hx.trans x2
        clear hown H1 hx x2
        generalize hN : L.length = N at H2 hL hLc hN10 f4 ⊢
        have HN := Lib.hid hN; clear hN
        generalize hMN : M.length = K at H3 f4 ⊢
        have HK := Lib.hid hMN; clear hMN
        obtain ⟨a1, a2, a3⟩ : 1 ≤ k ∧ k ≤ 7 ∧ 0 < N := by omega
        have hb : decide ((0 : Int) < (N : Int)) = true := dec_t (by omega)
        clear hLc
        go_wp2_with (go_at_call 41; refine (H2.out _).mono ?_; rintro e w3 ⟨rfl, x3⟩)
        go_loopw [7] (fun i wr => ∃ q : Nat, i = .int .i64 q ∧ q ≤ N ∧ Ext w2 wr) (fun i _ => N - (intOf i).toNat)
        case atStart => exact ⟨0, rfl, by omega, x3⟩
        case round =>
          obtain ⟨q, rfl, hq, hxq⟩ := hrel
          by_cases hqn : q < N
          · obtain ⟨b, off, rfl, d0, d1, d2, d3, d4⟩ := (hL.ext hxq).at_ hqn
            obtain ⟨p1, p2, p3, p4, _, _⟩ := HF5.out q (by rw [HN.out]; exact hqn)
            generalize L[q]'(by rw [HN.out]; exact hqn) = f at *
            obtain ⟨num, wire, since, need, many⟩ := f
            dsimp only at p1 p2 p3 p4 d0 d1 d2 d3 d4
            subst p1
            have hq0 : (0 : Int) ≤ q := by omega
            have hq1 : (q : Int) < N := by omega
            have p2' : decide ((since : Int) < 1) = false := dec_f (by omega)
            have t3 : decide (j < since) = false := dec_f (by omega)
            clear p2 p3
            have p4' : decide ((1 : Int) < since) = false ∨ decide ((1 : Int) < since) = true ∧ need = false := by
              rcases p4 with h | h
              · exact .inl (dec_f (by omega))
              · by_cases h1 : since ≤ 1
                · exact .inl (dec_f (by omega))
                · exact .inr ⟨dec_t (by omega), h⟩
            clear p4
            rcases p4' with p4 | ⟨p4, rfl⟩
            all_goals
              go_wp2
              all_goals
                go_roundw
                case rel => exact ⟨q + 1, val_int (by omega), by omega, hxq⟩
                case measure => simp [intOf]; omega
          · obtain rfl : N = q := by omega
            by_cases hjj : j ≤ 1
            · go_wp2_with fail
              refine ⟨⟨j + 1, val_int (by omega), by omega, by omega, hx2.trans hxq⟩, by simp [intOf]; omega⟩
            · go_wp2_with fail
              refine (H3.out _).mono ?_
              rintro e w5 ⟨V5, rfl, hown5, x5⟩
              obtain ⟨A5, c5, rfl, _⟩ := own_form hown5
              have hM := Ss.of_own hown5
              have hL5 := hL.ext (hxq.trans x5)
              have hx5 := hx2.trans (hxq.trans x5)
              clear hown5
              go_wp2
              go_loopw [9] (fun i wr => ∃ q : Nat, i = .int .i64 q ∧ q ≤ N ∧ Ext w5 wr) (fun i _ => N - (intOf i).toNat)
              case atStart => exact ⟨0, rfl, by omega, Ext.refl _⟩
              case round =>
                obtain ⟨q, rfl, hq, hxr⟩ := hrel
                by_cases hqn2 : q < N
                · have hj0 : (0 : Int) ≤ q := by omega
                  have hj1 : (q : Int) < N := by omega
                  obtain ⟨b, off, rfl, d0, d1, d2, d3, d4⟩ := (hL5.ext hxr).at_ hqn2
                  obtain ⟨_, _, _, _, p5, p6⟩ := HF5.out q (by rw [HN.out]; exact hqn2)
                  by_cases hqK : q < K
                  · obtain ⟨b', off', rfl, e0, e1', e2, e3, e4⟩ := (hM.ext hxr).at_ hqK
                    have p5' := p5 (by rw [HK.out]; exact hqK)
                    rw [p5'] at e0 e1' e2 e3 e4
                    clear p5 p5' p6
                    generalize L[q]'(by rw [HN.out]; exact hqn2) = f at *
                    have hq2 : (q : Int) < K := by omega
                    have t1 : decide (q < K) = true := dec_t (by omega)
                    have t2 : decide (K ≤ q) = false := dec_f (by omega)
                    go_wp2
                    go_quiet (fail)
                    go_wp2
                    go_roundw
                    case rel => exact ⟨q + 1, val_int (by omega), by omega, hxr.drewN _⟩
                    case measure => simp [intOf]; omega
                  · have p6' := p6 (by rw [HK.out]; omega)
                    rw [p6'] at d2
                    clear p5 p6 p6'
                    generalize L[q]'(by rw [HN.out]; exact hqn2) = f at *
                    have hq2 : (K : Int) ≤ (q : Int) := by omega
                    have t1 : decide (q < K) = false := dec_f (by omega)
                    have t2 : decide (K ≤ q) = true := dec_t (by omega)
                    go_wp2
                    go_quiet (fail)
                    go_wp2
                    go_roundw
                    case rel => exact ⟨q + 1, val_int (by omega), by omega, hxr.drewN _⟩
                    case measure => simp [intOf]; omega
                · obtain rfl : N = q := by omega
                  go_wp2_with fail
                  refine ⟨⟨j + 1, val_int (by omega), by omega, by omega, hx5.trans hxr⟩, by simp [intOf]; omega⟩
      · obtain rfl : j = 4 := by omega
        go_wp2_with fail
        refine (HS.out _ _).mono ?_
        rintro e w2 ⟨V2, rfl, hown2, x2⟩
        obtain ⟨A2, c2, rfl, _⟩ := own_form hown2
        rw [show specL k 0 = [] by unfold specL; rw [if_neg (by omega)]]
        clear hown2
        go_wp2_with fail
        refine (HS.out _ _).mono ?_
        rintro e w3 ⟨V3, rfl, hown3, x3⟩
        obtain ⟨A3, c3, rfl, _⟩ := own_form hown3
        rw [show specL k 4 = [] by unfold specL; rw [if_neg (by omega)]]
        clear hown3
        go_wp2
        go_ret
        exact ⟨rfl, hx.trans (x2.trans x3)⟩
end Go.Proofs.Ytjfohlnkdagjcaa
