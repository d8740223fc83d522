/- The walk of the law TlvAll. -/
import Derived.Test.YtjfohlnkdagjcaaTlvU
import Derived.Test.YtjfohlnkdagjcaaRefT
import Derived.Test.YtjfohlnkdagjcaaRefP
namespace Go.Proofs.Ytjfohlnkdagjcaa
open Go.RowKit

set_option maxRecDepth 100000 in
set_option maxHeartbeats 400000 in
theorem ref03_Take_big (A : Option Addr) (n c : Nat) (w : World) (hn : 16384 < n) :
    Calls Try.prog 37 #[.slice A n c] w fun e w' => e = .returned (.tuple #[.slice none 0 0, .int .i64 4]) ∧ Ext w w' := by
  have hn1 : (16384 : Int) < n := by omega
  go_enter Try.func37, Try.ntmps37
  go_wp2
  go_ret2
  exact ⟨rfl, Ext.refl w⟩
theorem ref03_Take_any (A : Option Addr) (n c : Nat) (l : List UInt8) (w : World) (hb : Bs w A n l) (hn : n ≤ 100000) (hnc : n ≤ c) :
    Calls Try.prog 37 #[.slice A n c] w fun e w' => ∃ A' c' ms, e = .returned (.tuple #[.slice A' ms.length c', .int .i64 (ttrow l).2]) ∧ Fs w' A' ms.length ms ∧ ms.map FV.s = (ttrow l).1.map FV.s ∧ ms.length ≤ c' ∧ Ext w w' := by
  have hl := hb.len
  by_cases h : 16384 < n
  · refine (ref03_Take_big A n c w h).mono ?_
    rintro e w' ⟨rfl, hx⟩
    have : ttrow l = ([], 4) := by unfold ttrow; rw [if_pos (by omega)]
    rw [this]
    exact ⟨none, 0, [], rfl, Fs.nil_ _ _, rfl, Nat.le_refl _, hx⟩
  · refine (ref03_Take A n c l w hb (by omega) hnc).mono ?_
    rintro e w' ⟨v, ms, rfl, hown, hof, hs, hx⟩
    have : ttrow l = trow none l := by unfold ttrow; rw [if_neg (by omega)]
    rw [this]
    obtain ⟨A', c', rfl, hc⟩ := own_form hown
    exact ⟨A', c', ms, rfl, Fs.of_own hown (fun f hf => (hof f hf).ok), hs, hc, hx⟩
theorem ref03_Put_all (A : Option Addr) (n c : Nat) (l : List FV) (w : World) (hf : Fs w A n l) (hn : n ≤ 1000) :
    Calls Try.prog 36 #[.slice A n c] w fun e w' => ∃ A' k c', e = .returned (.tuple #[.slice A' k c', .int .i64 (fmay l)]) ∧ Bs w' A' k (if fmay l = 0 then rput l else []) ∧ k ≤ c' ∧ Ext w w' := by
  by_cases h : fmay l = 0
  · refine (ref03_Put_ok A n c l w hf hn h).mono ?_
    rintro e w' ⟨v, rfl, hown, hx⟩
    obtain ⟨A', c', rfl, hc⟩ := own_form hown
    exact ⟨A', _, c', by rw [h]; rfl, by rw [if_pos h]; exact Bs.of_own hown, hc, hx⟩
  · refine (ref03_Put_no A n c l w hf hn h).mono ?_
    rintro e w' ⟨rfl, hx⟩
    exact ⟨none, 0, 0, rfl, by rw [if_neg h]; exact Bs.nil_ _ _, Nat.le_refl _, hx⟩

set_option maxRecDepth 100000 in
set_option maxHeartbeats 3200000 in
theorem law_TlvAll (A : Option Addr) (n c : Nat) (l : List FV) (A' : Option Addr) (k c' : Nat) (b : List UInt8) (most : Int) (w : World) (hf : Fs w A n l) (hnc : n ≤ c) (hcm : c ≤ maxLen) (hb : Bs w A' k b) (hkc : k ≤ c') (hcm' : c' ≤ maxLen) :
    Calls Try.prog 12 #[.slice A n c, .slice A' k c', .int .i64 most] w fun e w' => e = .returned (.bool true) ∧ Ext w w' := by
  have HF := Lib.hid (fun (w' : World) (h : Ext w w') => law03_few A n c l w' (hf.ext h) hnc hcm)
  have HOK := Lib.hid (fun (w' : World) (h : Ext w w') => fewL_ok (l := l) (w := w') fun f hf' => (hf.ok f hf').ext h)
  have h60 : min 60 n ≤ 60 := by omega
  have hb0 := hb.upto (hi := min k 17000) (by omega)
  have hm1 : min k 17000 ≤ 17000 := by omega
  have hm2 : min k 17000 ≤ c' := by omega
  have HSh := Lib.hid (fun w => law03_short A' k c' w hkc hcm')
  generalize b.take (min k 17000) = B at *
  generalize min k 17000 = N at *
  generalize min 60 n = m at *
  generalize fewL l = L at *
  clear hf hcm hnc hb hkc hcm'
  go_enter Try.func12, Try.ntmps12
  go_wp2_with fail
  refine (law03_shown _).mono ?_
  rintro e w1 ⟨rfl, x1⟩
  go_wp2_with fail
  refine (HF.out _ x1).mono ?_
  rintro e w2 ⟨v2, rfl, hown2, x2⟩
  obtain ⟨A2, c2, rfl, _⟩ := own_form hown2
  have hx := x1.trans x2
  have hfL : Fs w2 A2 m L := Fs.of_own hown2 (fun f hf => (HOK.out _ hx f hf).1)
  have HBig := Lib.hid (fun f hf => (HOK.out _ hx f hf).2)
  replace hb0 := hb0.ext hx
  clear hown2 x1 x2 HF HOK
  go_wp2_with fail
  refine (HSh.out _).mono ?_
  rintro e w3 ⟨rfl, rfl⟩
  clear HSh
  have HP := Lib.hid (tlv_Put_all A2 m c2 L w2 hfL (by omega))
  go_wp2_with fail
  refine HP.out.mono ?_
  clear HP
  rintro e w3 ⟨A3, k3, c3, rfl, b3, hc3, x3⟩
  have HP := Lib.hid (ref03_Put_all A2 m c2 L w3 (hfL.ext x3) (by omega))
  go_wp2_with fail
  refine HP.out.mono ?_
  clear HP
  rintro e w4 ⟨A4, k4, c4, rfl, b4, hc4, x4⟩
  have b34 := b3.ext x4
  have x24 := x3.trans x4
  clear b3 x3 x4
  have hb4 := hb0.ext x24
  have hemp := own_empty w4 5 1
  go_wp2_with (at_builtin; refine wpList_app bytesT (by omega) _ rfl rfl rfl hemp rfl (Rd.alloc hb4 _) (bvs_one _) (by unfold maxLen; omega) (by omega) (by simp) ?_; intro v5 w5 hown5 hg5 hat5; have x5 : Ext w4 w5 := Below.app ((Ext.refl w4).alloc _) hg5 (by simp) hemp (Nat.le_refl _); simp only [List.nil_append, Nat.zero_add] at hown5; clear hg5 hat5; obtain ⟨A5, c5, rfl, hc5⟩ := own_form hown5)
  have HT := Lib.hid (tlv_Take_any A5 N c5 B w5 (Bs.of_own hown5) (by omega) hc5)
  clear hown5 hemp
  refine HT.out.mono ?_
  clear HT
  rintro e w6 ⟨A6, c6, ms, rfl, hf6, hs6, hc6, x6⟩
  have x46 := x5.trans x6
  have HT := Lib.hid (ref03_Take_any A' N c' B w6 (hb4.ext x46) (by omega) (by omega))
  clear x5 x6
  have HS6 := Lib.hid hs6
  clear hs6
  go_wp2_with fail
  refine HT.out.mono ?_
  clear HT
  rintro e w7 ⟨A7, c7, ns, rfl, hf7, hs7, hc7, x7⟩
  have hs67 := HS6.out.trans hs7.symm
  have hms : ms.length ≤ 16384 := by
    have e0 : ms.length = (ttrow B).1.length := by have := congrArg List.length HS6.out; simpa using this
    by_cases hE : (ttrow B).2 = 0
    · obtain ⟨g1, g2, g3⟩ := ttrow_sound hE
      have := rput_field_le _ (fmay_ok g3).1
      rw [g2] at this
      omega
    · rw [ttrow_clean B hE] at e0; simp only [List.length_nil] at e0; omega
  have hnl : ns.length = ms.length := by have := congrArg List.length hs67; simpa using this.symm
  rw [hnl] at hf7 hc7 ⊢
  clear hs7 HS6 hnl
  have HS67 := Lib.hid hs67
  clear hs67
  have hfL7 := hfL.ext ((x24.trans x46).trans x7)
  have b34 := b34.ext (x46.trans x7)
  have b4' := b4.ext (x46.trans x7)
  have hf67 := hf6.ext x7
  have hx7 := hx.trans ((x24.trans x46).trans x7)
  clear hfL b4 hb4 hb0 x46 x24 x7 hf6 hx
  generalize ms.length = q at *
  have HSp := Lib.hid (tlv_Split most A2 m c2 L w7 hfL7 (by omega) (fun f hf => by have := HBig.out f hf; omega))
  go_wp2_with fail
  refine HSp.out.mono ?_
  clear HSp HBig
  rintro e w8 ⟨vK, vQ, P, Q, rfl, hK, hQ, hPok, hQok, hP, hQs, x8⟩
  obtain ⟨AK, cK, rfl, _⟩ := own_form hK
  obtain ⟨AQ, cQ, rfl, _⟩ := own_form hQ
  have HfP : Hid (Fs w8 AK P.length P) := Lib.hid (Fs.of_own hK hPok)
  have HfQ : Hid (Fs w8 AQ Q.length Q) := Lib.hid (Fs.of_own hQ hQok)
  have HPs := Lib.hid hP
  have HQs := Lib.hid hQs
  have hfL8 := hfL7.ext x8
  clear hK hQ hPok hQok hP hQs hfL7
  have HSp := Lib.hid (ref03_Split most A2 m c2 L w8 hfL8 (by omega))
  have hok8 := Lib.hid hfL8.ok
  have hlenL := hfL8.len
  have hPl : P.length = (L.filter (loB most)).length := by have := congrArg List.length HPs.out; simpa using this
  have hQl : Q.length = (L.filter (fun f => !loB most f)).length := by have := congrArg List.length HQs.out; simpa using this
  have hPm : P.length ≤ 60 := by rw [hPl]; exact Nat.le_trans (List.length_filter_le _ _) (by omega)
  have hQm : Q.length ≤ 60 := by rw [hQl]; exact Nat.le_trans (List.length_filter_le _ _) (by omega)
  have HPl := Lib.hid hPl
  have HQl := Lib.hid hQl
  clear hPl hQl hlenL
  go_wp2_with fail
  refine HSp.out.mono ?_
  clear HSp
  rintro e w9 ⟨vU, vV, rfl, hU, hV, x9⟩
  obtain ⟨AU, cU, rfl, _⟩ := own_form hU
  obtain ⟨AV, cV, rfl, _⟩ := own_form hV
  have HfU : Hid (Fs w9 AU P.length (L.filter (loB most))) := Lib.hid (by rw [HPl.out]; exact Fs.of_own hU fun f hf => (hok8.out f (List.mem_filter.1 hf).1).ext x9)
  have HfV : Hid (Fs w9 AV Q.length (L.filter (fun f => !loB most f))) := Lib.hid (by rw [HQl.out]; exact Fs.of_own hV fun f hf => (hok8.out f (List.mem_filter.1 hf).1).ext x9)
  rw [← HPl.out, ← HQl.out]
  clear hU hV hok8
  have x79 := x8.trans x9
  have HS1 := Lib.hid (ref03_Same A6 A7 q c6 c7 ms ns w9 (hf67.ext x79) (hf7.ext x79) HS67.out (by omega))
  have HS2 := Lib.hid (fun (w' : World) (h : Ext w9 w') => ref03_Same AK AU P.length cK cU _ _ w' ((HfP.out.ext x9).ext h) (HfU.out.ext h) HPs.out (by omega))
  have HS3 := Lib.hid (fun (w' : World) (h : Ext w9 w') => ref03_Same AQ AV Q.length cQ cV _ _ w' ((HfQ.out.ext x9).ext h) (HfV.out.ext h) HQs.out (by omega))
  have HM1 := Lib.hid (fun (w' : World) (h : Ext w9 w') => tlv_May A2 m c2 L w' ((hfL8.ext x9).ext h) (by omega))
  have HM2 := Lib.hid (fun (w' : World) (h : Ext w9 w') => ref03_May A2 m c2 L w' ((hfL8.ext x9).ext h) (by omega))
  have b3' := b34.ext x79
  have b4'' := b4'.ext x79
  have hx9 := hx7.trans x79
  have hk3 := b3'.len
  have hk4 := b4''.len
  have hbe := bstr_eq (show (if fmay L = 0 then rput L else []) = (if fmay L = 0 then rput L else []) from rfl)
  clear hf67 hf7 HS67 HfP HfU HfQ HfV HPs HQs HPl HQl hfL8 x8 x9 x79 b34 b4' hx7 hk3 hk4
  generalize (if fmay L = 0 then rput L else []) = X at *
  generalize fmay L = E at *
  generalize (ttrow B).2 = E2 at *
  generalize P.length = pl at *
  generalize Q.length = ql at *
  go_wp2_with fail
  refine HS1.out.mono ?_
  rintro e wa ⟨rfl, xa⟩
  clear HS1
  go_wp2_with fail
  refine (HS2.out _ xa).mono ?_
  rintro e wb ⟨rfl, xb'⟩
  have xb := xa.trans xb'
  clear HS2 xb' xa
  go_wp2_with fail
  refine (HS3.out _ xb).mono ?_
  rintro e wc ⟨rfl, xc'⟩
  have xc := xb.trans xc'
  clear HS3 xc' xb
  go_wp2_with fail
  refine (HM1.out _ xc).mono ?_
  rintro e wd ⟨rfl, xd'⟩
  have xd := xc.trans xd'
  clear HM1 xd' xc
  go_wp2_with fail
  refine (HM2.out _ xd).mono ?_
  rintro e we ⟨rfl, xe'⟩
  have xe := xd.trans xe'
  clear HM2 xe' xd
  have hs1 := str_at (b3'.ext xe) c3
  have hs2 := str_at (b4''.ext xe) c4
  have hxx := hx9.trans xe
  clear b3' b4'' xe hx9
  go_wp2
  go_ret
  exact ⟨rfl, hxx⟩
end Go.Proofs.Ytjfohlnkdagjcaa
