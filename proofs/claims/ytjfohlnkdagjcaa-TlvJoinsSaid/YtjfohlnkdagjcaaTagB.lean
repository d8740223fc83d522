/- The walk of the law TagBack. -/
import Derived.Test.YtjfohlnkdagjcaaTagL
import Derived.Test.YtjfohlnkdagjcaaVarint2
namespace Go.Proofs.Ytjfohlnkdagjcaa
open Go.RowKit

theorem ttake_cases' (l : List UInt8) : (∃ e : Nat, e ≠ 0 ∧ ttake l = (0, 0, 0, e)) ∨ ∃ num wire s, ttake l = (num, wire, s, 0) ∧ TagMay num wire ∧ vput (8 * num + wire) = l.take s ∧ s ≤ l.length ∧ s = (vput (8 * num + wire)).length := by
  rcases ttake_cases l with h | h | h | ⟨num, wire, s, h, hm, h1, h2, h3⟩
  · exact .inl ⟨_, by omega, h⟩
  · exact .inl ⟨_, by omega, h⟩
  · exact .inl ⟨_, by omega, h⟩
  · obtain ⟨a, b, c, d⟩ := ttake_sound h
    exact .inr ⟨num, wire, s, h, a, b, c, d⟩

set_option maxRecDepth 100000 in
set_option maxHeartbeats 1600000 in
theorem law_TagBack (num wire : Int) (A : Option Addr) (n c : Nat) (l : List UInt8) (w : World) (hb : Bs w A n l) (hnc : n ≤ c) (hc : c ≤ maxLen) :
    Calls Try.prog 4 #[.int .i64 num, .int .i64 wire, .slice A n c] w fun e w' => e = .returned (.bool true) ∧ Ext w w' := by
  have hb0 := hb.upto (hi := min n 20000) (by omega)
  have hm1 : min n 20000 ≤ 1000000 := by omega
  have hm2 : min n 20000 ≤ c := by omega
  have hm3 : min n 20000 ≤ 20000 := by omega
  have HSh := Lib.hid (fun w => law02_short A n c w hnc hc)
  generalize l.take (min n 20000) = L at *
  clear hb
  generalize min n 20000 = N at *
  have hLN := hb0.len
  by_cases hmay : 1 ≤ num ∧ num ≤ 1000 ∧ (wire = 0 ∨ wire = 2)
  · obtain ⟨m, rfl⟩ := Int.eq_ofNat_of_zero_le (show 0 ≤ num by omega)
    obtain ⟨k, rfl⟩ := Int.eq_ofNat_of_zero_le (show 0 ≤ wire by omega)
    have hm : TagMay m k := by unfold TagMay; omega
    have hl2 : (vput (8 * m + k)).length ≤ 2 := by rw [tag_len hm]; split <;> omega
    have HT := Lib.hid (ttake_put hm L)
    have hk0 : ((k : Int) == 0) = true ∨ ((k : Int) == 0) = false ∧ ((k : Int) == 2) = true := by
      rcases hmay.2.2 with h | h
      · exact .inl (beq_t h)
      · exact .inr ⟨beq_f (by omega), beq_t h⟩
    obtain ⟨h1, h2, h3⟩ := hmay
    clear h3
    have HM := Lib.hid hm; clear hm
    have hP := fun w => tag_Put_ok m k HM.out w
    generalize vput (8 * m + k) = V at *
    have HP := Lib.hid hP; clear hP
    rcases hk0 with hk0 | ⟨hk0, hk2⟩
    all_goals
      clear hc hnc
      go_enter Try.func4, Try.ntmps4
      go_wp2_with fail
      refine (law02_shown _).mono ?_
      rintro e w1 ⟨rfl, x1⟩
      have hb1 := hb0.ext x1
      clear hb0
      go_wp2_with fail
      refine (HSh.out _).mono ?_
      rintro e w1' ⟨rfl, rfl⟩
      go_wp2_with fail
      refine (HP.out _).mono ?_
      rintro e w2 ⟨v2, rfl, hown2, x2⟩
      obtain ⟨A2, c2, rfl, _⟩ := own_form hown2
      have b2 := Bs.of_own hown2
      have hb2 := hb1.ext x2
      have hx2 := x1.trans x2
      clear hb1 hown2 x1 x2
      have hemp := own_empty w2 5 1
      go_wp2_with (first | (at_builtin; refine wpList_app bytesT (by omega) _ rfl rfl rfl hemp rfl (Rd.alloc b2 _) (bvs_one _) (by unfold maxLen; omega) (by omega) (by simp) ?_; intro v3 w3 hown3 hg3 hat3; have x3 : Ext w2 w3 := Below.app ((Ext.refl w2).alloc _) hg3 (by simp) hemp (Nat.le_refl _); simp only [List.nil_append, Nat.zero_add] at hown3; have hb3 := hb2.ext x3; have hz3 := x3.size; clear hg3 hat3) | (at_builtin; refine wpList_app bytesT (by omega) _ rfl rfl rfl hown3 rfl hb3 (bvs_one _) (by unfold maxLen; omega) (by omega) (by omega) ?_; intro v4 w4 hown4 hg4 hat4; have x4 : Ext w2 w4 := Below.app x3 hg4 x3.size hown3 (Nat.le_refl _); obtain ⟨A4, c4, rfl, _⟩ := own_form hown4; clear hg4 hat4))
      have b4 : Bs w4 A4 (V.length + N) (V ++ L) := Bs.of_own (by simpa using hown4)
      have hbL := hb2.ext x4
      have hx := hx2.trans x4
      clear hb3 hb2 x3 x4 hx2 hown3 hown4 hz3 hemp b2
      go_wp2_with fail
      have c4t := tag_Take A4 _ c4 _ _ b4 (by omega)
      simp only [HT.out, tq] at c4t
      refine c4t.mono ?_
      clear c4t
      rintro e w5 ⟨rfl, rfl⟩
      clear b4
      have ct := tag_Take A N c L _ hbL hm1
      rcases ttake_cases' L with ⟨e, he, hq⟩ | ⟨p, q, s, hq, hm', hv', hs1, hs2⟩
      · simp only [hq, tq] at ct
        go_wp2_with fail
        refine ct.mono ?_
        clear ct
        rintro e w6 ⟨rfl, rfl⟩
        have he' : ((e : Int) != 0) = true := bne_t (by omega)
        clear he hq
        go_wp2
        go_ret
        exact ⟨rfl, hx⟩
      · simp only [hq, tq] at ct
        have HV := Lib.hid hv'
        have HS2 := Lib.hid hs2
        clear hv' hs2
        clear hq
        go_wp2_with fail
        refine ct.mono ?_
        clear ct
        rintro e w6 ⟨rfl, rfl⟩
        go_wp2_with fail
        refine (tag_Put_ok p q hm' _).mono ?_
        rintro e w7 ⟨v7, rfl, hown7, x7⟩
        obtain ⟨A7, c7, rfl, _⟩ := own_form hown7
        have b7 := Bs.of_own hown7
        have hx7 := hx.trans x7
        have hbL7 := (hbL.ext x7).upto (hi := s) (by omega)
        have hle7 := Bs.len b7
        rw [← HS2.out] at b7
        have hsA := fun k => str_at (b7.drewN k) c7
        have hsB := fun k => str_at (hbL7.drewN k) c
        have heq : ((bstr (vput (8 * p + q))).toList == (bstr (L.take s)).toList) = true := bstr_eq HV.out
        clear hown7 x7 hbL b7 hbL7 hle7
        rw [← HS2.out]
        have hsN : (s : Int) ≤ N := by omega
        have hs0 : (0 : Int) ≤ s := by omega
        have hsc : (s : Int) ≤ c := by omega
        go_wp2
        go_quiet (fail)
        go_wp2
        go_ret
        exact ⟨rfl, hx7.drewN _⟩
  · have ht : terr num wire = 1 := by rw [terr, if_neg hmay]
    have hP := fun w => tag_Put num wire w
    rw [ht] at hP
    generalize tput num wire = V at *
    have HP := Lib.hid hP; clear hP ht
    have h4 : num < 1 ∨ 1000 < num ∧ 1 ≤ num ∨ (1 ≤ num ∧ num ≤ 1000 ∧ wire ≠ 0 ∧ wire ≠ 2) := by omega
    clear hmay
    have h4' : num < 1 ∨ (1000 < num ∧ 1 ≤ num) ∨ (1 ≤ num ∧ num ≤ 1000 ∧ (wire == 0) = false ∧ (wire == 2) = false) := by
      rcases h4 with h | h | ⟨a, b, c, d⟩
      · exact .inl h
      · exact .inr (.inl h)
      · exact .inr (.inr ⟨a, b, beq_f c, beq_f d⟩)
    clear h4
    rcases h4' with h4 | ⟨h4, h5⟩ | ⟨h4, h5, h6, h7⟩
    all_goals
      clear hc hnc
      go_enter Try.func4, Try.ntmps4
      go_wp2_with fail
      refine (law02_shown _).mono ?_
      rintro e w1 ⟨rfl, x1⟩
      have hb1 := hb0.ext x1
      clear hb0
      go_wp2_with fail
      refine (HSh.out _).mono ?_
      rintro e w1' ⟨rfl, rfl⟩
      go_wp2_with fail
      refine (HP.out _).mono ?_
      rintro e w2 ⟨A2, n2, c2, rfl, b2, x2⟩
      have hbL := hb1.ext x2
      have hx := x1.trans x2
      clear hb1 b2 x1 x2
      have ct := tag_Take A N c L _ hbL hm1
      rcases ttake_cases' L with ⟨e, he, hq⟩ | ⟨p, q, s, hq, hm', hv', hs1, hs2⟩
      · simp only [hq, tq] at ct
        go_wp2_with fail
        refine ct.mono ?_
        clear ct
        rintro e w6 ⟨rfl, rfl⟩
        have he' : ((e : Int) != 0) = true := bne_t (by omega)
        clear he hq
        go_wp2
        go_ret
        exact ⟨rfl, hx⟩
      · simp only [hq, tq] at ct
        have HV := Lib.hid hv'
        have HS2 := Lib.hid hs2
        clear hv' hs2
        clear hq
        go_wp2_with fail
        refine ct.mono ?_
        clear ct
        rintro e w6 ⟨rfl, rfl⟩
        go_wp2_with fail
        refine (tag_Put_ok p q hm' _).mono ?_
        rintro e w7 ⟨v7, rfl, hown7, x7⟩
        obtain ⟨A7, c7, rfl, _⟩ := own_form hown7
        have b7 := Bs.of_own hown7
        have hx7 := hx.trans x7
        have hbL7 := (hbL.ext x7).upto (hi := s) (by omega)
        have hle7 := Bs.len b7
        rw [← HS2.out] at b7
        have hsA := fun k => str_at (b7.drewN k) c7
        have hsB := fun k => str_at (hbL7.drewN k) c
        have heq : ((bstr (vput (8 * p + q))).toList == (bstr (L.take s)).toList) = true := bstr_eq HV.out
        clear hown7 x7 hbL b7 hbL7 hle7
        rw [← HS2.out]
        have hsN : (s : Int) ≤ N := by omega
        have hs0 : (0 : Int) ≤ s := by omega
        have hsc : (s : Int) ≤ c := by omega
        go_wp2
        go_quiet (fail)
        go_wp2
        go_ret
        exact ⟨rfl, hx7.drewN _⟩
end Go.Proofs.Ytjfohlnkdagjcaa
