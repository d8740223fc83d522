/- The walk of the law TlvParts. -/
import Derived.Test.YtjfohlnkdagjcaaParts
namespace Go.Proofs.Ytjfohlnkdagjcaa
open Go.RowKit

set_option maxRecDepth 100000 in
set_option maxHeartbeats 3200000 in
theorem law_TlvParts (A : Option Addr) (n c : Nat) (l : List FV) (most : Int) (w : World) (hf : Fs w A n l) (hnc : n ≤ c) (hcm : c ≤ maxLen) :
    Calls Try.prog 9 #[.slice A n c, .int .i64 most] w fun e w' => e = .returned (.bool true) ∧ Ext w w' := by
  have HF := Lib.hid (fun (w' : World) (h : Ext w w') => law03_few A n c l w' (hf.ext h) hnc hcm)
  have HOK := Lib.hid (fun (w' : World) (h : Ext w w') => fewL_ok (l := l) (w := w') fun f hf' => (hf.ok f hf').ext h)
  have h60 : min 60 n ≤ 60 := by omega
  generalize min 60 n = m at *
  generalize fewL l = L at *
  clear hf hcm hnc
  go_enter Try.func9, Try.ntmps9
  go_wp2_with fail
  refine (law03_shown _).mono ?_
  rintro e w1 ⟨rfl, x1⟩
  go_wp2_with fail
  refine (HF.out _ x1).mono ?_
  rintro e w2 ⟨v2, rfl, hown2, x2⟩
  obtain ⟨A2, c2, rfl, _⟩ := own_form hown2
  have hx := x1.trans x2
  have hfL : Fs w2 A2 m L := Fs.of_own hown2 (fun f hf => (HOK.out _ hx f hf).1)
  have hlenL := hfL.len
  have hbig : ∀ f ∈ L, f.len ≤ 100000 := fun f hf => by have := (HOK.out _ hx f hf).2; omega
  have HS := Lib.hid (tlv_Split most A2 m c2 L w2 hfL (by omega) hbig)
  clear hown2 x1 x2 hbig
  go_wp2_with fail
  refine HS.out.mono ?_
  clear HS
  rintro e w3 ⟨vK, vQ, P, Q, rfl, hK, hQ, hPok, hQok, hP, hQs, x3⟩
  obtain ⟨AK, cK, rfl, _⟩ := own_form hK
  obtain ⟨AQ, cQ, rfl, _⟩ := own_form hQ
  have hfP : Fs w3 AK P.length P := Fs.of_own hK hPok
  have hfQ : Fs w3 AQ Q.length Q := Fs.of_own hQ hQok
  have hsum : P.length + Q.length = m := by
    have e1 := congrArg List.length hP
    have e2 := congrArg List.length hQs
    simp only [List.length_map] at e1 e2
    have := filt_len (loB most) L
    omega
  have hn1 := s_num (R := fun z => z ≤ most) hP (fun f h => by simpa [loB] using h)
  have hn2 := s_num (R := fun z => most < z) hQs (fun f h => by simp [loB] at h; omega)
  have hmP := s_may hP
  have hmQ := s_may hQs
  have hrP := s_rput hP
  have hrQ := s_rput hQs
  have hparts := parts_may (l := L) most
  rw [← hmP, ← hmQ, ← hrP, ← hrQ] at hparts
  have HN1 := Lib.hid hn1
  have HN2 := Lib.hid hn2
  have HPT := Lib.hid hparts
  have hfL3 := hfL.ext x3
  replace hx := hx.trans x3
  clear hK hQ hPok hQok hP hQs hmP hmQ hrP hrQ hn1 hn2 hparts hfL x3
  have hg1 := bne_f (show (P.length : Int) + (Q.length : Int) = m by omega)
  have hPm : P.length ≤ 60 := by omega
  have hQm : Q.length ≤ 60 := by omega
  generalize hPl : P.length = p at hfP hsum hg1 hPm ⊢
  generalize hQl : Q.length = q at hfQ hsum hg1 hQm ⊢
  have HPl := Lib.hid hPl
  have HQl := Lib.hid hQl
  clear hPl hQl hsum
  go_wp2
  go_loop [8] (fun i => ∃ j : Nat, i = .int .i64 j ∧ j ≤ p) (fun i => p - (intOf i).toNat)
  case atStart => exact ⟨0, rfl, by omega⟩
  case round =>
    obtain ⟨j, rfl, hj⟩ := hrel
    by_cases hjn : j < p
    · obtain ⟨b, off, rfl, d0, d1, d2, d3⟩ := hfP.at_ hjn
      have hle := HN1.out j (by rw [HPl.out]; exact hjn)
      have hj0 : (0 : Int) ≤ j := by omega
      have hj1 : (j : Int) < p := by omega
      obtain ⟨f, hfj⟩ : ∃ f, P[j]'(by rw [HPl.out]; exact hjn) = f := ⟨_, rfl⟩
      simp only [hfj] at hle d0 d1 d2 d3
      clear hfj d1 d2 d3
      have hd : decide (most < f.num) = false := dec_f (by omega)
      go_wp2
      go_round
      case rel => exact ⟨j + 1, val_int (by omega), by omega⟩
      case measure => simp [intOf]; omega
    · obtain rfl : p = j := by omega
      go_wp2
      go_loop [9] (fun i => ∃ j : Nat, i = .int .i64 j ∧ j ≤ q) (fun i => q - (intOf i).toNat)
      case atStart => exact ⟨0, rfl, by omega⟩
      case round =>
        obtain ⟨j, rfl, hj⟩ := hrel
        by_cases hjn : j < q
        · obtain ⟨b, off, rfl, d0, d1, d2, d3⟩ := hfQ.at_ hjn
          have hle := HN2.out j (by rw [HQl.out]; exact hjn)
          have hj0 : (0 : Int) ≤ j := by omega
          have hj1 : (j : Int) < q := by omega
          obtain ⟨f, hfj⟩ : ∃ f, Q[j]'(by rw [HQl.out]; exact hjn) = f := ⟨_, rfl⟩
          simp only [hfj] at hle d0 d1 d2 d3
          clear hfj d1 d2 d3
          have hd : decide (f.num ≤ most) = false := dec_f (by omega)
          go_wp2
          go_round
          case rel => exact ⟨j + 1, val_int (by omega), by omega⟩
          case measure => simp [intOf]; omega
        · obtain rfl : q = j := by omega
          have HM := Lib.hid (tlv_May A2 m c2 L w3 hfL3 (by omega))
          go_wp2_with fail
          refine HM.out.mono ?_
          rintro e w4 ⟨rfl, x4⟩
          clear HM
          by_cases hM : fmay L = 0
          · obtain ⟨m1, m2, hput⟩ := HPT.out hM
            rw [hM]
            have hfP4 := hfP.ext x4
            have HPP := Lib.hid (tlv_Put_ok AK p cK P w4 hfP4 (by omega) m1)
            have HPQ := Lib.hid (fun (w' : World) (h : Ext w4 w') => tlv_Put_ok AQ q cQ Q w' ((hfQ.ext x4).ext h) (by omega) m2)
            have HPL := Lib.hid (fun (w' : World) (h : Ext w4 w') => tlv_Put_ok A2 m c2 L w' ((hfL3.ext x4).ext h) (by omega) hM)
            have hz1 : (rput P).length ≤ 16384 := by rw [rput_len]; exact (fmay_ok m1).2
            have hz2 : (rput Q).length ≤ 16384 := by rw [rput_len]; exact (fmay_ok m2).2
            have hx4 := hx.trans x4
            clear m1 m2 hM hfP4 hfP hfQ hfL3 x4
            have Hput := Lib.hid hput; clear hput
            go_wp2_with fail
            refine HPP.out.mono ?_
            clear HPP
            rintro e w5 ⟨v5, rfl, hown5, x5⟩
            obtain ⟨A5, c5, rfl, _⟩ := own_form hown5
            have b5 := Bs.of_own hown5
            clear hown5
            go_wp2_with fail
            refine (HPQ.out _ x5).mono ?_
            rintro e w6 ⟨v6, rfl, hown6, x6⟩
            obtain ⟨A6, c6, rfl, _⟩ := own_form hown6
            have b6 := Bs.of_own hown6
            replace b5 := b5.ext x6
            have x56 := x5.trans x6
            clear hown6 x5 x6 HPQ
            go_wp2_with fail
            refine (HPL.out _ x56).mono ?_
            rintro e w7 ⟨v7, rfl, hown7, x7⟩
            obtain ⟨A7, c7, rfl, _⟩ := own_form hown7
            have b7 := Bs.of_own hown7
            replace b5 := b5.ext x7
            replace b6 := b6.ext x7
            have hx7 := hx4.trans (x56.trans x7)
            clear hown7 x56 x7 HPL
            generalize rput P = BP at *
            generalize rput Q = BQ at *
            generalize rput L = BL at *
            have hemp := own_empty w7 5 1
            go_wp2_with (first | (at_builtin; refine wpList_app bytesT (by omega) _ rfl rfl rfl hemp rfl (Rd.alloc b5 _) (bvs_one _) (by unfold maxLen; omega) (by omega) (by simp) ?_; intro v8 w8 hown8 hg8 hat8; have x8 : Ext w7 w8 := Below.app ((Ext.refl w7).alloc _) hg8 (by simp) hemp (Nat.le_refl _); simp only [List.nil_append, Nat.zero_add] at hown8; have b6' := b6.ext x8; have hz8 := x8.size; clear hg8 hat8) | (at_builtin; refine wpList_app bytesT (by omega) _ rfl rfl rfl hown8 rfl b6' (bvs_one _) (by unfold maxLen; omega) (by omega) (by omega) ?_; intro v9 w9 hown9 hg9 hat9; have x9 : Ext w7 w9 := Below.app x8 hg9 x8.size hown8 (Nat.le_refl _); obtain ⟨A9, c9, rfl, _⟩ := own_form hown9; have b9 : Bs w9 A9 (BP.length + BQ.length) (BP ++ BQ) := Bs.of_own (by simpa using hown9); have hs1 := str_at b9 c9; have hs2 := str_at (b7.ext x9) c7; have heq : ((bstr (BP ++ BQ)).toList == (bstr BL).toList) = true := bstr_eq Hput.out; have hxz := hx7.trans x9; clear hg9 hat9 b9 hown9 hown8 x8 x9 hemp b5 b6 b6' b7))
            go_ret
            exact ⟨rfl, hxz⟩
          · have g1 := bne_t (show ((fmay L : Nat) : Int) ≠ 0 by omega)
            have hx4 := hx.trans x4
            clear hM hfP hfQ hfL3 x4
            generalize fmay L = E9 at *
            go_wp2
            go_ret
            exact ⟨rfl, hx4⟩
end Go.Proofs.Ytjfohlnkdagjcaa
