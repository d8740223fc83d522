/- The walk of the law TlvBack. -/
import Derived.Test.YtjfohlnkdagjcaaTlvU
namespace Go.Proofs.Ytjfohlnkdagjcaa
open Go.RowKit

set_option maxRecDepth 100000 in
set_option maxHeartbeats 3200000 in
theorem law_TlvBack (A : Option Addr) (n c : Nat) (l : List FV) (A' : Option Addr) (k c' : Nat) (b : List UInt8) (at_ : Int) (w : World) (hf : Fs w A n l) (hnc : n ≤ c) (hcm : c ≤ maxLen) (hb : Bs w A' k b) (hkc : k ≤ c') (hcm' : c' ≤ maxLen) :
    Calls Try.prog 10 #[.slice A n c, .slice A' k c', .int .i64 at_] w fun e w' => e = .returned (.bool true) ∧ Ext w w' := by
  have HF := Lib.hid (fun (w' : World) (h : Ext w w') => law03_few A n c l w' (hf.ext h) hnc hcm)
  have HOK := Lib.hid (fun (w' : World) (h : Ext w w') => fewL_ok (l := l) (w := w') fun f hf' => (hf.ok f hf').ext h)
  have h60 : min 60 n ≤ 60 := by omega
  have hb0 := hb.upto (hi := min k 17000) (by omega)
  have hm1 : min k 17000 ≤ 17000 := by omega
  have hm2 : min k 17000 ≤ c' := by omega
  have HSh := Lib.hid (fun w => law03_short A' k c' w hkc hcm')
  generalize b.take (min k 17000) = B at *
  generalize min k 17000 = N at *
  generalize min 60 n = m at *
  generalize fewL l = L at *
  clear hf hcm hnc hb hkc hcm'
  go_enter Try.func10, Try.ntmps10
  go_wp2_with fail
  refine (law03_shown _).mono ?_
  rintro e w1 ⟨rfl, x1⟩
  go_wp2_with fail
  refine (HF.out _ x1).mono ?_
  rintro e w2 ⟨v2, rfl, hown2, x2⟩
  obtain ⟨A2, c2, rfl, _⟩ := own_form hown2
  have hx := x1.trans x2
  have hfL : Fs w2 A2 m L := Fs.of_own hown2 (fun f hf => (HOK.out _ hx f hf).1)
  have hlenL := hfL.len
  replace hb0 := hb0.ext hx
  have HLen := Lib.hid hlenL
  clear hown2 x1 x2 HF hlenL
  go_wp2_with fail
  refine (HSh.out _).mono ?_
  rintro e w3 ⟨rfl, rfl⟩
  clear HSh
  have HP := Lib.hid (tlv_Put_all A2 m c2 L w2 hfL (by omega))
  have hkL : ∀ f ∈ L, U64 f.n ∧ f.len = f.b.length := fun f hf' => ⟨(hfL.ok f hf').u, (hfL.ok f hf').bs.len.symm⟩
  have HKL := Lib.hid hkL
  clear hkL HOK
  go_wp2_with fail
  refine HP.out.mono ?_
  clear HP
  rintro e w3 ⟨A3, k3, c3, rfl, b3, hc3, x3⟩
  have hfL3 := hfL.ext x3
  replace hb0 := hb0.ext x3
  replace hx := hx.trans x3
  clear x3 hfL
  generalize hM : fmay L = E at *
  have HM := Lib.hid hM
  clear hM
  go_upto_if 30 with fail
  go_cut [8] (fun _ wx => Ext w3 wx)
  case first =>
    by_cases hE : E = 0
    · subst hE
      rw [if_pos rfl] at b3
      have hM := HM.out
      have hz : (rput L).length ≤ 16384 := by rw [rput_len]; exact (fmay_ok hM).2
      have hk3 := b3.len
      have hput := trow_put L none none 0 hM HKL.out rfl
      have hcut := fun t ht => trow_cut L none none 0 t hM HKL.out rfl ht
      have htt : ttrow (rput L) = trow none (rput L) := by unfold ttrow; rw [if_neg (by omega)]
      have hsec : ∀ t : Nat, t < (rput L).length → ttrow ((rput L).take t) = trow none ((rput L).take t) := fun t ht => by unfold ttrow; rw [if_neg (by rw [List.length_take]; omega)]
      rw [← htt] at hput
      have HPut := Lib.hid hput
      have HCut : Hid (∀ t : Nat, t < (rput L).length → (ttrow ((rput L).take t)).2 = 2 ∨ (ttrow ((rput L).take t)).2 = 0 ∧ (ttrow ((rput L).take t)).1.length < L.length) := Lib.hid (fun t ht => by rw [hsec t ht]; exact hcut t ht)
      have HEmp : Hid (0 < (rput L).length → 0 < L.length) := Lib.hid (fun h => by
        rcases L with _ | ⟨f, r⟩
        · simp [rput] at h
        · simp)
      clear hput hcut htt hsec hM HM HKL
      generalize rput L = X at *
      subst hk3
      have hemp := own_empty w3 5 1
      go_wp2_with (at_builtin; refine wpList_app bytesT (by omega) _ rfl rfl rfl hemp rfl (Rd.alloc b3 _) (bvs_one _) (by unfold maxLen; omega) (by omega) (by simp) ?_; intro v4 w4 hown4 hg4 hat4; have x4 : Ext w3 w4 := Below.app ((Ext.refl w3).alloc _) hg4 (by simp) hemp (Nat.le_refl _); simp only [List.nil_append, Nat.zero_add] at hown4; clear hg4 hat4; obtain ⟨A4, c4, rfl, hc4⟩ := own_form hown4)
      have hC := tlv_Take_any A4 _ c4 X w4 (Bs.of_own hown4) (by omega) hc4
      rw [HPut.out.1] at hC
      have HC := Lib.hid hC
      clear hC hown4 hemp
      refine HC.out.mono ?_
      clear HC
      rintro e w5 ⟨A5, c5, ms, rfl, hf5, hs5, hc5, x5⟩
      rw [HPut.out.2] at hs5
      have hml : ms.length = m := by have := congrArg List.length hs5; rw [List.length_map, List.length_map, HLen.out] at this; exact this
      rw [hml] at hf5 hc5 ⊢
      have x35 := x4.trans x5
      have HSm := Lib.hid (ref03_Same A5 A2 m c5 c2 ms L w5 hf5 (hfL3.ext x35) hs5 (by omega))
      clear hs5 hml hf5 x4 x5 HPut
      go_wp2_with fail
      refine HSm.out.mono ?_
      clear HSm
      rintro e w6 ⟨rfl, x6⟩
      replace x35 := x35.trans x6
      clear x6
      by_cases ha : 0 ≤ at_ ∧ at_ < (X.length : Int)
      · obtain ⟨ha0, ha1⟩ := ha
        obtain ⟨t, rfl⟩ : ∃ t : Nat, at_ = t := ⟨at_.toNat, by omega⟩
        have hm0 : 0 < m := by rw [← HLen.out]; exact HEmp.out (by omega)
        have ht1 : t < X.length := by omega
        have hC := tlv_Take_any A3 t c3 (X.take t) w6 ((b3.ext x35).upto (by omega)) (by omega) (by omega)
        rcases HCut.out t ht1 with hr | ⟨hr, hr2⟩
        · have hem := ttrow_clean (X.take t) (by rw [hr]; simp)
          rw [hr, hem] at hC
          have HC := Lib.hid hC
          clear hr hem hC HCut HEmp
          go_wp2_with fail
          refine HC.out.mono ?_
          clear HC
          rintro e w7 ⟨A7, c7, ms7, rfl, hf7, hs7, hc7, x7⟩
          have hl7 : ms7.length = 0 := by have := congrArg List.length hs7; simpa using this
          rw [hl7]
          clear hl7 hs7 hf7 hc7
          go_wp2_with fail
          go_meet
          exact x35.trans x7
        · rw [hr] at hC
          have HC := Lib.hid hC
          have hr3 := HLen.out
          rw [hr3] at hr2
          clear hr hr3 hC HCut HEmp
          go_wp2_with fail
          refine HC.out.mono ?_
          clear HC
          rintro e w7 ⟨A7, c7, ms7, rfl, hf7, hs7, hc7, x7⟩
          have hl7 : ms7.length = (ttrow (X.take t)).1.length := by have := congrArg List.length hs7; simpa using this
          rw [← hl7] at hr2
          clear hl7 hs7 hf7 hc7
          generalize ms7.length = q7 at *
          go_wp2_with fail
          go_meet
          exact x35.trans x7
      · by_cases ha0 : 0 ≤ at_
        · have ha1 : (X.length : Int) ≤ at_ := by omega
          clear ha
          go_wp2_with fail
          go_meet
          exact x35
        · clear ha
          go_wp2_with fail
          go_meet
          exact x35
    · have hE' := beq_f (show ((E : Nat) : Int) ≠ 0 by omega)
      clear HM HKL
      go_wp2_with fail
      go_meet
      exact Ext.refl w3
  case rest =>
    clear HM HKL b3 hfL3
    have hb1 := hb0.ext hcut
    replace hx := hx.trans hcut
    clear hb0 hcut
    have hbl := hb1.len
    have hemp := own_empty wc 5 1
    go_wp2_with (at_builtin; refine wpList_app bytesT (by omega) _ rfl rfl rfl hemp rfl (Rd.alloc hb1 _) (bvs_one _) (by unfold maxLen; omega) (by omega) (by simp) ?_; intro v4 w4 hown4 hg4 hat4; have x4 : Ext wc w4 := Below.app ((Ext.refl wc).alloc _) hg4 (by simp) hemp (Nat.le_refl _); simp only [List.nil_append, Nat.zero_add] at hown4; clear hg4 hat4; obtain ⟨A4, c4, rfl, hc4⟩ := own_form hown4)
    have hC := tlv_Take_any A4 N c4 B w4 (Bs.of_own hown4) (by omega) hc4
    by_cases hE : (ttrow B).2 = 0
    · obtain ⟨g1, g2, g3⟩ := ttrow_sound hE
      rw [hE] at hC
      have HC := Lib.hid hC
      have G2 := Lib.hid g2
      have G3 := Lib.hid g3
      clear hC hown4 hemp hE g2 g3 hbl
      refine HC.out.mono ?_
      clear HC
      rintro e w5 ⟨A5, c5, ms, rfl, hf5, hs5, hc5, x5⟩
      have f1 := s_may hs5
      have f2 := s_rput hs5
      rw [G3.out] at f1
      rw [G2.out] at f2
      have hle : ms.length ≤ 16384 := by
        have := rput_field_le ms (fmay_ok f1).1
        rw [f2] at this
        omega
      have hC := tlv_Put_ok A5 ms.length c5 ms w5 hf5 (by omega) f1
      rw [f2] at hC
      have HC := Lib.hid hC
      clear hC f1 f2 hs5 hf5 G2 G3
      generalize ms.length = q5 at *
      go_wp2_with fail
      refine HC.out.mono ?_
      clear HC
      rintro e w6 ⟨v6, rfl, hown6, x6⟩
      obtain ⟨A6, c6, rfl, _⟩ := own_form hown6
      have hs1 := str_at (Bs.of_own hown6) c6
      have hs2 := str_at (((hb1.ext x4).ext x5).ext x6) c'
      have hxx := ((hx.trans x4).trans x5).trans x6
      clear hown6 x4 x5 x6 hx hb1
      go_wp2
      go_ret
      exact ⟨rfl, hxx⟩
    · have hem := ttrow_clean B hE
      have hb9 := bne_t (show (((ttrow B).2 : Nat) : Int) ≠ 0 by omega)
      rw [hem] at hC
      generalize (ttrow B).2 = E9 at *
      have HC := Lib.hid hC
      clear hC hown4 hemp hE hem hbl
      refine HC.out.mono ?_
      clear HC
      rintro e w5 ⟨A5, c5, ms, rfl, hf5, hs5, hc5, x5⟩
      have hl5 : ms.length = 0 := by have := congrArg List.length hs5; simpa using this
      rw [hl5]
      have hxx := (hx.trans x4).trans x5
      clear hl5 hs5 hf5 hc5 x4 x5 hx hb1
      go_wp2
      go_ret
      exact ⟨rfl, hxx⟩
end Go.Proofs.Ytjfohlnkdagjcaa
