/- The walk of the law TlvJoins. -/
import Derived.Test.YtjfohlnkdagjcaaTlvU
import Derived.Test.YtjfohlnkdagjcaaRefP
import Derived.Test.YtjfohlnkdagjcaaTagO
import Derived.Laws.OwnMore
namespace Go.Proofs.Ytjfohlnkdagjcaa
open Go.RowKit

theorem scan_size : ∀ (l : List FV) (p : Option FV) (size size' : Nat), mayScan p size l = 0 → size' + fsum l ≤ 16384 → mayScan p size' l = 0
  | [], p, size, size', _, h2 => by
    rw [mayScan_nil, if_neg]
    simp [fsum] at h2; omega
  | f :: r, p, size, size', h, h2 => by
    obtain ⟨h1, h3, h4, h5⟩ := scan_head h
    simp only [fsum, List.map_cons, List.sum_cons] at h2
    exact scan_mk h1 h3 h4 (scan_size r (some f) _ _ h5 (by unfold fsum; omega))
theorem scan_app {m : List FV} (hm : fmay m = 0) (hmm : ∀ f ∈ m, 500 < f.num) : ∀ (l : List FV) (p : Option FV) (size : Nat), mayScan p size l = 0 → (∀ f, p = some f → f.num ≤ 500) → (∀ f ∈ l, f.num ≤ 500) → size + fsum l + fsum m ≤ 16384 → mayScan p size (l ++ m) = 0
  | [], p, size, _, hp, _, hs => by
    rw [List.nil_append]
    rcases m with _ | ⟨g, r⟩
    · rw [mayScan_nil, if_neg]; simp [fsum] at hs; omega
    · obtain ⟨h1, _, h4, h5⟩ := scan_head hm
      simp only [fsum, List.map_cons, List.sum_cons, List.map_nil, List.sum_nil] at hs
      refine scan_mk h1 ?_ h4 (scan_size r (some g) _ _ h5 (by unfold fsum; omega))
      rcases p with _ | a
      · rfl
      · have e1 := hp a rfl
        have e2 := hmm g (List.mem_cons_self ..)
        show (!risesB a g) = false
        unfold risesB
        rw [if_neg (by omega)]
        simp; omega
  | f :: r, p, size, h, hp, hl, hs => by
    obtain ⟨h1, h3, h4, h5⟩ := scan_head h
    simp only [fsum, List.map_cons, List.sum_cons] at hs
    exact scan_mk h1 h3 h4 (scan_app hm hmm r (some f) _ h5 (fun g hg => by injection hg with hg; subst hg; exact hl _ (List.mem_cons_self ..)) (fun g hg => hl g (List.mem_cons_of_mem _ hg)) (by unfold fsum; omega))
theorem fmay_app {l m : List FV} (h1 : fmay l = 0) (h2 : fmay m = 0) (hl : ∀ f ∈ l, f.num ≤ 500) (hm : ∀ f ∈ m, 500 < f.num) (hs : fsum l + fsum m ≤ 16384) : fmay (l ++ m) = 0 :=
  scan_app h2 hm l none 0 h1 (fun _ h => by cases h) hl (by omega)
theorem rput_app (l m : List FV) : rput (l ++ m) = rput l ++ rput m := by simp [rput]

/-- a field whose number is raised -/
def raiseF (f : FV) : FV := { f with num := 501 + (bits .and .i64 f.num 1023).tmod 400 }
theorem raise_num (f : FV) : 500 < (raiseF f).num ∧ (raiseF f).num ≤ 1000 := by
  obtain ⟨z, hz, e⟩ := and1023 f.num
  unfold raiseF
  dsimp only
  rw [e, Int.tmod_eq_emod_of_nonneg (by omega)]
  omega
theorem raise_step (L : List FV) (j : Nat) (hj : j < L.length) : (rowOf ((L.take j).map raiseF ++ L.drop j)).set (j * 4) (.int .i64 (raiseF L[j]).num) = rowOf ((L.take (j + 1)).map raiseF ++ L.drop (j + 1)) := by
  rw [List.drop_eq_getElem_cons hj, List.take_succ_eq_append_getElem hj, List.map_append, List.map_singleton, rowOf_append, rowOf_append, rowOf_append, rowOf_one]
  have e : rowOf (L[j] :: L.drop (j + 1)) = L[j].cells ++ rowOf (L.drop (j + 1)) := by
    rw [← List.singleton_append, rowOf_append, rowOf_one]
  rw [e]
  have hc : L[j].cells = .int .i64 L[j].num :: [.int .i64 L[j].wire, .int .u64 L[j].n, .slice L[j].A L[j].len L[j].cap] := rfl
  have hr : (raiseF L[j]).cells = .int .i64 (raiseF L[j]).num :: [.int .i64 L[j].wire, .int .u64 L[j].n, .slice L[j].A L[j].len L[j].cap] := rfl
  rw [hc, hr, List.cons_append, set_mid _ _ _ _ _ (by rw [rowOf_len, List.length_map, List.length_take]; congr 1; omega)]
  simp
theorem mix_len (L : List FV) (j : Nat) (hj : j ≤ L.length) : ((L.take j).map raiseF ++ L.drop j).length = L.length := by
  rw [List.length_append, List.length_map, List.length_take, List.length_drop]; omega

theorem bstr_app (X Y : List UInt8) : bstr X ++ bstr Y = bstr (X ++ Y) := by
  apply ByteArray.ext
  rw [ByteArray.data_append]
  simp [bstr]
theorem bstr_size (X : List UInt8) : (bstr X).size = X.length := by simp [bstr, ByteArray.size]

set_option maxRecDepth 100000 in
set_option maxHeartbeats 3200000 in
theorem law_TlvJoins (A : Option Addr) (n c : Nat) (l : List FV) (A' : Option Addr) (k c' : Nat) (l' : List FV) (w : World) (hf : Fs w A n l) (hnc : n ≤ c) (hcm : c ≤ maxLen) (hf' : Fs w A' k l') (hkc : k ≤ c') (hcm' : c' ≤ maxLen) :
    Calls Try.prog 11 #[.slice A n c, .slice A' k c'] w fun e w' => e = .returned (.bool true) ∧ Ext w w' := by
  have HF := Lib.hid (fun (w' : World) (h : Ext w w') => law03_few A n c l w' (hf.ext h) hnc hcm)
  have HOK := Lib.hid (fun (w' : World) (h : Ext w w') => fewL_ok (l := l) (w := w') fun f hff => (hf.ok f hff).ext h)
  have HF' := Lib.hid (fun (w' : World) (h : Ext w w') => law03_few A' k c' l' w' (hf'.ext h) hkc hcm')
  have HOK' := Lib.hid (fun (w' : World) (h : Ext w w') => fewL_ok (l := l') (w := w') fun f hff => (hf'.ok f hff).ext h)
  have h60 : min 60 n ≤ 60 := by omega
  have h60' : min 60 k ≤ 60 := by omega
  generalize min 60 n = m0 at *
  generalize fewL l = L0 at *
  generalize min 60 k = q at *
  generalize fewL l' = R at *
  clear hf hcm hnc hf' hkc hcm'
  go_enter Try.func11, Try.ntmps11
  go_wp2_with fail
  refine (law03_shown _).mono ?_
  rintro e w1 ⟨rfl, x1⟩
  go_wp2_with fail
  refine (HF.out _ x1).mono ?_
  rintro e w2 ⟨v2, rfl, hown2, x2⟩
  obtain ⟨A2, c2, rfl, _⟩ := own_form hown2
  have hx := x1.trans x2
  have hfL : Fs w2 A2 m0 L0 := Fs.of_own hown2 (fun f hf => (HOK.out _ hx f hf).1)
  have hlen0 := hfL.len
  have HSp := Lib.hid (ref03_Split 500 A2 m0 c2 L0 w2 hfL (by omega))
  have hok2 := Lib.hid hfL.ok
  have Hlen0 := Lib.hid hlen0
  clear hown2 x1 x2 HF HOK hlen0
  go_wp2_with fail
  refine HSp.out.mono ?_
  clear HSp
  rintro e w3 ⟨vU, vV, rfl, hU, hV, x3⟩
  obtain ⟨AU, cU, rfl, hcU⟩ := own_form hU
  obtain ⟨AV, cV, rfl, _⟩ := own_form hV
  have hfP : Fs w3 AU (L0.filter (loB 500)).length (L0.filter (loB 500)) := Fs.of_own hU fun f hf => (hok2.out f (List.mem_filter.1 hf).1).ext x3
  have hPm : (L0.filter (loB 500)).length ≤ 60 := Nat.le_trans (List.length_filter_le _ _) (by have := Hlen0.out; omega)
  have HP5 : Hid (∀ f ∈ L0.filter (loB 500), f.num ≤ 500) := Lib.hid (fun f hf => by simpa [loB] using (List.mem_filter.1 hf).2)
  generalize L0.filter (loB 500) = P at *
  generalize (L0.filter (fun f => !loB 500 f)).length = nV at *
  have hx3 := hx.trans x3
  clear hU hV hok2 x3 hx hfL
  go_wp2_with fail
  refine (HF'.out _ hx3).mono ?_
  rintro e w4 ⟨v4, rfl, hown4, x4⟩
  obtain ⟨A4, c4, rfl, hc4⟩ := own_form hown4
  have hx4 := hx3.trans x4
  have HokR : Hid (∀ f ∈ R, f.Ok w3) := Lib.hid (fun f hf => (HOK'.out _ hx3 f hf).1)
  have hRl : R.length = q := by have := (Fs.of_own hown4 (fun f hf => (HokR.out f hf).ext x4)).len; exact this
  have HRl := Lib.hid hRl
  have hszx := hx3.size
  clear HF' HOK' hRl
  go_wp2
  go_loopw [7] (fun i wr => ∃ j : Nat, i = .int .i64 j ∧ j ≤ q ∧ wr.ownsRow w3.heap.size 42 4 (.slice A4 q c4) q (rowOf ((R.take j).map raiseF ++ R.drop j)) ∧ Ext w3 wr) (fun i _ => q - (intOf i).toNat)
  case atStart => exact ⟨0, rfl, by omega, by simpa using hown4, x4⟩
  case round =>
    clear hown4
    obtain ⟨j, rfl, hj, hown, hxr⟩ := hrel
    by_cases hjn : j < q
    · have hjl : j < R.length := by rw [HRl.out]; exact hjn
      have hst := raise_step R j hjl
      obtain ⟨z, hz, hze⟩ := and1023 R[j].num
      have hrn : (raiseF R[j]).num = 501 + (z : Int) % 400 := by
        unfold raiseF; dsimp only; rw [hze, Int.tmod_eq_emod_of_nonneg (by omega)]
      rw [hrn] at hst
      have hcl := rowOf_get ((R.take j).map raiseF ++ R.drop j) j 0 (by rw [mix_len _ _ (by omega)]; exact hjl) (by omega)
      have hat : ((R.take j).map raiseF ++ R.drop j)[j]'(by rw [mix_len _ _ (by omega)]; exact hjl) = R[j] := by
        rw [List.getElem_append_right (by simp; omega)]
        simp [show j - min j R.length = 0 by omega]
      rw [hat] at hcl
      rcases hown.2 with ⟨hv, h0⟩ | ⟨g, cap, cur, hv, hg, hgg, hrest⟩
      · omega
      · injection hv with hv _ _
        subst hv
        have hlt : g < wr.heap.size := (Array.getElem?_eq_some_iff.1 hgg).1
        have hc := hown.cellAt (g := g) (j * 4) (by omega)
        have hfz := hown.frozenAt (g := g) (j * 4)
        have hsto := (hown.stored (g := g) (j * 4) (.int .i64 (501 + (z : Int) % 400))).1
        rw [hst] at hsto
        rw [show j * 4 + 0 = j * 4 by omega] at hcl
        rw [hcl] at hc
        have hc' : wr.cell? ⟨g, j * 4, none⟩ = some (.int .i64 R[j].num) := hc
        have HSto := Lib.hid hsto
        have hj0 : (0 : Int) ≤ j := by omega
        have hj1 : (j : Int) < q := by omega
        generalize R[j].num = num at *
        clear hst hrn hcl hat hc hgg hrest hsto hown
        go_wp2
        go_roundw
        case rel =>
          exact ⟨j + 1, val_int (by omega), by omega, HSto.out, hxr.setCell hg _⟩
        case measure => simp [intOf]; omega
    · obtain rfl : j = q := by omega
      rw [List.take_of_length_le (by rw [HRl.out]; exact Nat.le_refl _), List.drop_of_length_le (by rw [HRl.out]; exact Nat.le_refl _), List.append_nil] at hown
      have hokr : ∀ f ∈ R.map raiseF, f.Ok wr := by
        intro f hf
        obtain ⟨g, hg, rfl⟩ := List.mem_map.1 hf
        have := (HokR.out g hg).ext hxr
        exact ⟨this.bs, this.le, this.cap, this.u⟩
      have hfR : Fs wr A4 j (R.map raiseF) := Fs.of_own hown hokr
      have HR5 : Hid (∀ f ∈ R.map raiseF, 500 < f.num) := Lib.hid (fun f hf => by
        obtain ⟨g, hg, rfl⟩ := List.mem_map.1 hf
        exact (raise_num g).1)
      have hRl2 : (R.map raiseF).length = j := by rw [List.length_map]; exact HRl.out
      have hxx := hx3.trans hxr
      have hfP2 := hfP.ext hxr
      generalize R.map raiseF = R' at *
      clear HRl HokR hokr hown hfP hxr hx3 hx4 x4 hszx
      have hPl := hfP2.len
      generalize hpn : P.length = p at *
      have HP := Lib.hid (tlv_Put_all AU p cU P wr hfP2 (by omega))
      have HRl2 := Lib.hid hRl2
      have HPn := Lib.hid hpn
      clear hRl2 hpn hPl
      go_wp2_with fail
      refine HP.out.mono ?_
      clear HP
      rintro e w5 ⟨A5, k5, c5, rfl, b5, hc5, x5⟩
      have HP := Lib.hid (tlv_Put_all A4 j c4 R' w5 (hfR.ext x5) (by omega))
      go_wp2_with fail
      refine HP.out.mono ?_
      clear HP
      rintro e w6 ⟨A6, k6, c6, rfl, b6, hc6, x6⟩
      have x56 := x5.trans x6
      have b5' := b5.ext x6
      have hfP6 := hfP2.ext x56
      have hfR6 := hfR.ext x56
      have hx6 := hxx.trans x56
      clear x5 x6 x56 b5 hfP2 hfR hxx
      by_cases hEP : fmay P = 0
      · by_cases hER : fmay R' = 0
        · rw [if_pos hEP] at b5'
          rw [if_pos hER] at b6
          have hk5 := b5'.len
          have hk6 := b6.len
          by_cases hbig : 16384 < k5 + k6
          · rw [hEP, hER]
            have hbI : (16384 : Int) < (k5 : Int) + (k6 : Int) := by omega
            have hz5 : k5 ≤ 16384 := by rw [← hk5, rput_len]; exact (fmay_ok hEP).2
            have hz6 : k6 ≤ 16384 := by rw [← hk6, rput_len]; exact (fmay_ok hER).2
            clear hk5 hk6 hEP hER b5' b6 hfP6 hfR6
            go_wp2
            go_ret
            exact ⟨rfl, hx6⟩
          · have hM : fmay (P ++ R') = 0 := fmay_app hEP hER HP5.out HR5.out (by rw [← rput_len, ← rput_len]; omega)
            have hrp := rput_app P R'
            have hkL : ∀ f ∈ P ++ R', U64 f.n ∧ f.len = f.b.length := fun f hf' => by
              rcases List.mem_append.1 hf' with h | h
              · exact ⟨(hfP6.ok f h).u, (hfP6.ok f h).bs.len.symm⟩
              · exact ⟨(hfR6.ok f h).u, (hfR6.ok f h).bs.len.symm⟩
            have hput := trow_put (P ++ R') none none 0 hM hkL rfl
            have htt : ttrow (rput (P ++ R')) = trow none (rput (P ++ R')) := by unfold ttrow; rw [if_neg (by rw [hrp, List.length_append]; omega)]
            rw [← htt, hrp] at hput
            have HPut := Lib.hid hput
            have HM := Lib.hid hM
            have HRp := Lib.hid hrp
            rw [hEP, hER]
            clear hput htt hM hrp hkL hEP hER
            have hbI : ¬ ((16384 : Int) < (k5 : Int) + (k6 : Int)) := by omega
            have hemp := own_empty w6 42 4
            have HPn2 : Hid ((rowOf P).length = p * 4) := Lib.hid (by rw [rowOf_len, HPn.out])
            go_wp2_with (first
              | (at_builtin; refine wpList_app fieldsT (by omega) _ rfl rfl rfl hemp rfl (Rd.alloc hfP6.rd _) (rowOf_cells _) (by unfold maxLen; omega) (by omega) (by simp) ?_; intro v7 w7 hown7 hg7 hat7; have x7 : Ext w6 w7 := Below.app ((Ext.refl w6).alloc _) hg7 (by simp) hemp (Nat.le_refl _); simp only [List.nil_append, Nat.zero_add] at hown7; have hz7 := x7.size; have r7 := (hfR6.ext x7).rd; clear hg7 hat7)
              | (at_builtin; refine wpList_app fieldsT (by omega) _ rfl rfl rfl hown7 rfl r7 (rowOf_cells _) (by unfold maxLen; omega) (by omega) (by omega) ?_; intro v8 w8 hown8 hg8 hat8; have x8 : Ext w6 w8 := Below.app x7 hg8 hz7 hown7 (Nat.le_refl _); obtain ⟨A8, c8, rfl, hc8⟩ := own_form hown8; clear hg8 hat8))
            have hfB : Fs w8 A8 (p + j) (P ++ R') := Fs.of_own (own_to hown8 (Nat.le_refl _) rfl (by rw [rowOf_append])) (fun f hf => by
              rcases List.mem_append.1 hf with h | h
              · exact (hfP6.ok f h).ext x8
              · exact (hfR6.ok f h).ext x8)
            have hP8 := tlv_Put_ok A8 (p + j) c8 (P ++ R') w8 hfB (by omega) HM.out
            rw [HRp.out, show (rput P ++ rput R').length = k5 + k6 by rw [List.length_append, hk5, hk6]] at hP8
            have HP8 := Lib.hid hP8
            have b58 := b5'.ext x8
            have b68 := b6.ext x8
            have hx8 := hx6.trans x8
            have HLb : Hid ((P ++ R').length = p + j) := Lib.hid hfB.len
            generalize P ++ R' = PR at *
            clear hP8 hown8 hown7 hemp x7 x8 r7 hfP6 hfR6 b5' b6 hx6 HM HRp
            go_wp2_with fail
            refine HP8.out.mono ?_
            clear HP8
            rintro e w9 ⟨v9, rfl, hown9, x9⟩
            obtain ⟨A9, c9, rfl, _⟩ := own_form hown9
            have b9 : Bs w9 A9 _ _ := Bs.of_own hown9
            have b59 := b58.ext x9
            have b69 := b68.ext x9
            have hfB9 := hfB.ext x9
            have hx9 := hx8.trans x9
            generalize rput P = X at *
            generalize rput R' = Y at *
            have hemp := own_empty w9 5 1
            clear hown9 x9 b58 b68 hfB hx8
            go_wp2_with (first
              | (at_builtin; refine wpList_app bytesT (by omega) _ rfl rfl rfl hemp rfl (Rd.alloc b59 _) (bvs_one _) (by unfold maxLen; omega) (by omega) (by simp) ?_; intro v7 w7 hown7 hg7 hat7; have x7 : Ext w9 w7 := Below.app ((Ext.refl w9).alloc _) hg7 (by simp) hemp (Nat.le_refl _); simp only [List.nil_append, Nat.zero_add] at hown7; have hz7 := x7.size; have r7 := b69.ext x7; clear hg7 hat7)
              | (at_builtin; refine wpList_app bytesT (by omega) _ rfl rfl rfl hown7 rfl r7 (bvs_one _) (by unfold maxLen; omega) (by omega) (by omega) ?_; intro v8 wa hown8 hg8 hat8; have x8 : Ext w9 wa := Below.app x7 hg8 hz7 hown7 (Nat.le_refl _); obtain ⟨Aa, ca, rfl, hca⟩ := own_form hown8; clear hg8 hat8))
            have hC := tlv_Take_any Aa (k5 + k6) ca (X ++ Y) wa (Bs.of_own (by simpa using hown8)) (by omega) hca
            rw [HPut.out.1] at hC
            have HC := Lib.hid hC
            clear hC hown8 hown7 hemp r7 x7
            refine HC.out.mono ?_
            clear HC
            rintro e wb ⟨Ab, cb, ms, rfl, hfb, hsb, hcb, xb⟩
            rw [HPut.out.2] at hsb
            have hml : ms.length = p + j := by have := congrArg List.length hsb; rw [List.length_map, List.length_map, HLb.out] at this; exact this
            rw [hml] at hfb hcb ⊢
            have x9b := x8.trans xb
            have HSm := Lib.hid (ref03_Same Ab A8 (p + j) cb c8 ms PR wb hfb (hfB9.ext x9b) hsb (by omega))
            clear hsb hml hfb x8 xb HPut
            go_wp2_with fail
            refine HSm.out.mono ?_
            clear HSm
            rintro e wc ⟨rfl, xc⟩
            have x9c := x9b.trans xc
            have hs1 := str_at (b9.ext x9c) c9
            have hs2 := str_at (b59.ext x9c) c5
            have hs3 := str_at (b69.ext x9c) c6
            have hxx := hx9.trans x9c
            clear x9b xc x9c b9 b59 b69 hfB9 hx9
            have hsz : ¬ 9223372036854775807 < (bstr X).size + (bstr Y).size := by rw [bstr_size, bstr_size]; omega
            have heq : ((bstr (X ++ Y)).toList == (bstr X ++ bstr Y).toList) = true := by rw [bstr_app]; simp
            clear hk5 hk6
            go_wp2
            go_ret
            exact ⟨rfl, hxx⟩
        · have hb := bne_t (show ((fmay R' : Nat) : Int) ≠ 0 by omega)
          rw [hEP]
          generalize fmay R' = E2 at *
          clear hEP hER b5' b6 hfP6 hfR6
          go_wp2
          go_ret
          exact ⟨rfl, hx6⟩
      · have hb := bne_t (show ((fmay P : Nat) : Int) ≠ 0 by omega)
        generalize fmay P = E1 at *
        generalize fmay R' = E2 at *
        clear hEP b5' b6 hfP6 hfR6
        go_wp2
        go_ret
        exact ⟨rfl, hx6⟩
end Go.Proofs.Ytjfohlnkdagjcaa
