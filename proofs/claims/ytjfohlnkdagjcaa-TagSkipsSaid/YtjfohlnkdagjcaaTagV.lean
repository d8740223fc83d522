/- The walk of the law TagSkips. -/
import Derived.Test.YtjfohlnkdagjcaaTagO
import Derived.Test.YtjfohlnkdagjcaaTagC
import Derived.Test.YtjfohlnkdagjcaaApp
import Derived.Test.YtjfohlnkdagjcaaField
import Derived.Test.YtjfohlnkdagjcaaGrow
namespace Go.Proofs.Ytjfohlnkdagjcaa
open Go.RowKit

set_option maxRecDepth 100000 in
set_option maxHeartbeats 12800000 in
theorem law_TagSkips (num : Int) (n : Nat) (A : Option Addr) (len c : Nat) (l : List UInt8) (at_ : Int) (w : World) (hn : U64 n) (hb : Bs w A len l) (hnc : len ≤ c) (hcm : c ≤ maxLen) :
    Calls Try.prog 5 #[.int .i64 num, .int .u64 n, .agg #[.slice A len c, .int .i64 at_]] w fun e w' => e = .returned (.bool true) ∧ Ext w w' := by
  obtain ⟨z, hz, hand⟩ := and1023 num
  have hz0 : z % 1000 < 1000 := Nat.mod_lt _ (by omega)
  obtain ⟨k, hk⟩ : ∃ k, 1 + z % 1000 = k := ⟨_, rfl⟩
  have hk1 : 1 ≤ k := by omega
  have hk2 : k ≤ 1000 := by omega
  have hkz : 1 + (z : Int) % 1000 = (k : Int) := by omega
  clear hz0 hk
  have hmx : len ≤ 9223372036854775807 := by unfold maxLen at hcm; omega
  have HPA := Lib.hid (fun w => tag_Put_i k 0 (k : Int) 0 (may0 hk1 hk2) rfl rfl w)
  have HPB := Lib.hid (fun w => tag_Put_i k 2 (k : Int) 2 (may2 hk1 hk2) rfl rfl w)
  have HN := Lib.hid (fun w => ref01_Put n hn w)
  have hB0 := Blk.new w 35 [.slice A len c, .int .i64 at_]
  have hx0 : Ext w (w.alloc (.cells #[.slice A len c, .int .i64 at_] 35)) := (Ext.refl w).alloc _
  obtain ⟨m, hm⟩ : ∃ m, min 1000 len = m := ⟨_, rfl⟩
  have hm1 : m ≤ 1000 := by omega
  have hbm : Bs w A m (l.take m) := hb.upto (by omega)
  have hbl := hbm.len
  have hu : U64 m := by unfold U64; omega
  have HM := Lib.hid (fun w => ref01_Put m hu w)
  have hmw : IntKind.u64.wrap (m : Int) = m := hu.wrap
  have hAA := fldN_len hk1 hk2 hn
  have hBB := fldB_len (k := k) (b := l.take m) hk1 hk2 (by omega)
  have hsA := skip_N hk1 hk2 hn [1, 2, 3]
  have hsB := skip_B (k := k) (b := l.take m) hk1 hk2 (by omega) [1, 2, 3]
  have hcA := fun t (ht : t < (fldN k n).length) => cut_N hk1 hk2 hn ht
  have hcB := fun t (ht : t < (fldB k (l.take m)).length) => cut_B (k := k) (b := l.take m) hk1 hk2 (by omega) ht
  have heA : vput (8 * k + 0) ++ vput n = fldN k n := rfl
  have heB : vput (8 * k + 2) ++ vput m ++ l.take m = fldB k (l.take m) := by unfold fldB; rw [hbl]
  have hl1 : (vput (8 * k + 0)).length ≤ 2 := by rw [tag_len (may0 hk1 hk2)]; split <;> omega
  have hl2 : (vput (8 * k + 2)).length ≤ 2 := by rw [tag_len (may2 hk1 hk2)]; split <;> omega
  have hl3 : (vput n).length ≤ 10 := by rw [vput_len]; exact hn.size
  have hl4 : (vput m).length ≤ 10 := by rw [vput_len]; exact hu.size
  generalize vput (8 * k + 0) = VA at *
  generalize vput (8 * k + 2) = VB at *
  generalize vput n = VN at *
  generalize vput m = VM at *
  generalize fldN k n = FA at *
  generalize fldB k (l.take m) = FB at *
  generalize l.take m = L at *
  have hlA : VA.length + VN.length = FA.length := by rw [← heA]; simp
  have hlB : VB.length + VM.length + m = FB.length := by rw [← heB]; simp [hbl]; omega
  generalize FA.length = NA at *
  generalize FB.length = NB at *
  have HLA := Lib.hid hlA
  have HLB := Lib.hid hlB
  clear hlA hlB
  have HSA := Lib.hid hsA
  have HSB := Lib.hid hsB
  have HCA := Lib.hid hcA
  have HCB := Lib.hid hcB
  have HEA := Lib.hid heA
  have HEB := Lib.hid heB
  have HBM := Lib.hid (fun (w' : World) (h : Ext w w') => hbm.ext h)
  have Hbl := Lib.hid hbl
  clear hsA hsB hcA hcB heA heB hbm hb hbl hk1 hk2 hu hn
  have hcs : (1000 < len ∧ m = 1000) ∨ (len ≤ 1000 ∧ m = len) := by omega
  clear hm
  rcases hcs with ⟨hlen, rfl⟩ | ⟨hlen, rfl⟩
  · go_enter Try.func5, Try.ntmps5
    go_wp2_with fail
    refine (law02_shown _).mono ?_
    rintro e w1 ⟨rfl, x1⟩
    replace hB0 := hB0.ext x1
    replace hx0 := hx0.trans x1
    have q0 := hB0.cell 0
    have q1 := hB0.cell 1
    have f0 := hB0.frozen 0
    simp only [List.getElem?_cons_zero, List.getElem?_cons_succ] at q0 q1
    have hlt := hB0.lt
    have HB0 := Lib.hid hB0; clear hB0 x1
    go_wp2_with fail
    have hB1 := HB0.out.set_ 0 (.slice A 1000 c)
    simp only [List.set_cons_zero] at hB1
    replace hx0 := hx0.setCell (p := ⟨w.heap.size, 0, none⟩) (Nat.le_refl _) (.slice A 1000 c)
    clear q0 q1 f0 HB0 hlt
    generalize (w1.setCell ⟨w.heap.size, 0, none⟩ (.slice A 1000 c)) = W1 at *
    refine (HPA.out _).mono ?_
    rintro e w2 ⟨v2, rfl, hown2, x2⟩
    obtain ⟨A2, c2, rfl, _⟩ := own_form hown2
    have ha := Bs.of_own hown2
    replace hB1 := hB1.ext x2
    replace hx0 := hx0.trans x2
    clear hown2 x2
    go_wp2_with fail
    refine (HPB.out _).mono ?_
    rintro e w3 ⟨v3, rfl, hown3, x3⟩
    obtain ⟨A3, c3, rfl, _⟩ := own_form hown3
    have hb := Bs.of_own hown3
    replace ha := ha.ext x3
    replace hB1 := hB1.ext x3
    replace hx0 := hx0.trans x3
    clear hown3 x3
    have hemp := own_empty w3 5 1
    go_wp2_with (at_builtin; refine wpList_app bytesT (by omega) _ rfl rfl rfl hemp rfl (Rd.alloc ha _) (bvs_one _) (by unfold maxLen; omega) (by omega) (by simp) ?_; intro v4 w4 hown4 hg4 hat4; have x4 : Ext w3 w4 := Below.app ((Ext.refl w3).alloc _) hg4 (by simp) hemp (Nat.le_refl _); simp only [List.nil_append, Nat.zero_add] at hown4; clear hg4 hat4)
    refine (HN.out _).mono ?_
    rintro e w5 ⟨v5, rfl, hown5, x5⟩
    obtain ⟨A5, c5, rfl, _⟩ := own_form hown5
    have b5 := Bs.of_own hown5
    have hown4' := own_ext hown4 x5
    have x35 := x4.trans x5
    have hz35 := x35.size
    clear hemp hown4 hown5 x4 x5 ha
    go_wp2_with (at_builtin; go_loud (refine wpList_app bytesT (by omega) _ rfl rfl rfl hown4' rfl b5 (bvs_one _) (by unfold maxLen; omega) (by omega) (by omega) ?_; intro v6 w6 hown6 hg6 hat6; have x36 : Ext w3 w6 := Below.app x35 hg6 (by omega) hown4' (Nat.le_refl _); have hown6b := own_to (ys := FA.map bv) hown6 (Nat.le_refl _) HLA.out (by rw [← HEA.out]; simp); obtain ⟨A6, c6, rfl, hac⟩ := own_form hown6b; have ha6 : Bs w6 A6 NA FA := Bs.of_own hown6b; clear hg6 hat6 hown6 hown6b))
    have hac' : NA ≤ c6 := hac
    replace hB1 := hB1.ext x36
    replace hx0 := hx0.trans x36
    replace hb := hb.ext x36
    clear hown4' b5 x35 x36 hac
    have q0 := hB1.cell 0
    have q1 := hB1.cell 1
    simp only [List.getElem?_cons_zero, List.getElem?_cons_succ] at q0 q1
    have hlt := hB1.lt
    have hbX := HBM.out _ hx0
    go_region_held3 (fun w' => w'.cell? ⟨w.heap.size, 0, none⟩ = some (.slice A 1000 c))
      (first | (exact x67.cell q0) | (exact (x67.alloc _).cell q0) | (exact x68.cell q0) | (exact x69.cell q0) | (exact x6a.cell q0) | (exact ((Ext.refl w6).alloc _).drew.cell q0) | go_keep)
      (first
        | (go_at_call 26; (refine (HM.out _).mono ?_); rintro e w7 ⟨v7, rfl, hown7, x7⟩; obtain ⟨A7, c7, rfl, _⟩ := own_form hown7; have bb := Bs.of_own hown7; have x67 : Ext w6 w7 := (by first | exact x68.trans x7 | exact (Ext.refl w6).drew.trans x7 | exact ((Ext.refl w6).alloc _).drew.trans x7); have xx := x67; first | (have rr := own_ext hown8 x7) | (have ee := own_ext (World.ownsRow.drew (own_empty w6 5 1)) x7; have hne : ∀ b off, A7 = some ⟨b, off, none⟩ → b ≠ w6.heap.size := (by rintro b off rfl; have := own_lt hown7; simp at this; omega); have Hne := Lib.hid hne; clear hne) | skip)
        | (refine step_app bytesT (by omega) _ rfl rfl rfl (World.ownsRow.drew (own_empty w6 5 1)) rfl (Rd.drew (Rd.alloc hb _)) (bvs_one _) (by unfold maxLen; omega) (by omega) (by simp) ?_; intro v8 w8 hown8 hg8 hat8; have x68 : Ext w6 w8 := Below.app ((Ext.refl w6).alloc _).drew hg8 (by simp) (World.ownsRow.drew (own_empty w6 5 1)) (Nat.le_refl _); simp only [List.nil_append, Nat.zero_add] at hown8; obtain ⟨A8, c8, rfl, _⟩ := own_form hown8; clear hg8 hat8)
        | (refine step_app bytesT (by omega) _ rfl rfl rfl ee rfl (Rd.ext hb x67) (bvs_one _) (by unfold maxLen; omega) (by omega) (by have := x67.size; omega) ?_; intro v8 w8 hown8 hg8 hat8; have G8 : Grow w6.heap.size w7 w8 v8 := (Grow.start w6.heap.size w7 (v := .slice (some ⟨w6.heap.size, 0, none⟩) 0 0) (by intro k hk; simp [Value.ownBlock] at hk; exact .inl hk.symm)).app hg8 hat8; have x68 : Ext w6 w8 := G8.below x67 (Nat.le_refl _); replace bb := G8.rd bb Hne.out; simp only [List.nil_append, Nat.zero_add] at hown8; obtain ⟨A8, c8, rfl, _⟩ := own_form hown8; have rr := hown8; have xx := x68; clear hg8 hat8 G8 ee)
        | (refine step_app bytesT (by omega) _ rfl rfl rfl (own_empty w7 5 1) rfl (Rd.alloc (Rd.ext hb x67) _) (bvs_one _) (by unfold maxLen; omega) (by omega) (by simp) ?_; intro v8 w8 hown8 hg8 hat8; have x78 : Ext w7 w8 := Below.app ((Ext.refl w7).alloc _) hg8 (by simp) (own_empty w7 5 1) (Nat.le_refl _); have x68 : Ext w6 w8 := x67.trans x78; replace bb := Bs.ext bb x78; simp only [List.nil_append, Nat.zero_add] at hown8; obtain ⟨A8, c8, rfl, _⟩ := own_form hown8; have rr := own_base hown8 x67.size; have xx := x68; clear hg8 hat8 x78)
        | (refine step_app bytesT (by omega) _ rfl rfl rfl rr rfl bb (bvs_one _) (by unfold maxLen; omega) (by omega) (by have := xx.size; omega) ?_; intro v9 w9 hown9 hg9 hat9; have x69 : Ext w6 w9 := Below.app xx hg9 xx.size rr (Nat.le_refl _); obtain ⟨A9, c9, rfl, _⟩ := own_form hown9; clear hg9 hat9 rr bb xx)
        | (refine step_app bytesT (by omega) _ rfl rfl rfl hown9 rfl (Rd.ext hbX x69) (bvs_one _) (by unfold maxLen; omega) (by omega) (by have := x69.size; omega) ?_; intro va wa howna hga hata; have x6a : Ext w6 wa := Below.app x69 hga x69.size hown9 (Nat.le_refl _); have hownb := own_to (ys := FB.map bv) howna (Nat.le_refl _) HLB.out (by rw [← HEB.out]; simp); obtain ⟨Aa, ca, rfl, hca⟩ := own_form hownb; clear hga hata howna))
    have hba : Bs wa Aa NB FB := Bs.of_own hownb
    have hbc : NB ≤ ca := hca
    replace ha6 := ha6.ext x6a
    replace hx0 := hx0.trans x6a
    replace hB1 := hB1.ext x6a
    clear hownb x6a hca hbX hb q0 q1 x69 hown9
    have hemp := own_empty wa 5 1
    go_wp2_with (first | (at_builtin; refine wpList_app bytesT (by omega) _ rfl rfl rfl hemp rfl (Rd.alloc ha6 _) (bvs_one _) (by unfold maxLen; omega) (by omega) (by simp) ?_; intro vpa wpa hownpa hgpa hatpa; have xpa : Ext wa wpa := Below.app ((Ext.refl wa).alloc _) hgpa (by simp) hemp (Nat.le_refl _); simp only [List.nil_append, Nat.zero_add] at hownpa; have hzpa := xpa.size; clear hgpa hatpa) | (at_builtin; refine wpList_app bytesT (by omega) _ rfl rfl rfl (hownpa.alloc _) rfl (bs_lit wpa #[.int .u8 1, .int .u8 2, .int .u8 3] [1, 2, 3] 3 rfl rfl) (bvs_one _) (by unfold maxLen; omega) (by omega) (by simp; omega) ?_; intro vqa wqa hownqa hgqa hatqa; have xqa : Ext wa wqa := Below.app (xpa.alloc _) hgqa (by simp; omega) (hownpa.alloc _) (Nat.le_refl _); obtain ⟨Aqa, cqa, rfl, hcqa⟩ := own_form hownqa; clear hgqa hatqa))
    have hqa : Bs wqa Aqa (NA + 3) (FA ++ [1, 2, 3]) := Bs.of_own (by simpa using hownqa)
    have csa := tag_Skip Aqa (NA + 3) cqa _ wqa hqa (by omega) hcqa
    rw [HSA.out] at csa
    simp only [sq] at csa
    have CSa := Lib.hid csa
    clear csa hqa hownqa hownpa hemp xpa hzpa
    go_wp2_with fail
    refine CSa.out.mono ?_
    clear CSa
    rintro e wra ⟨rfl, xra⟩
    have xsa := xqa.trans xra
    replace hx0 := hx0.trans xsa
    replace ha6 := ha6.ext xsa
    replace hba := hba.ext xsa
    replace hB1 := hB1.ext xsa
    clear xqa xra xsa
    have hemp := own_empty wra 5 1
    go_wp2_with (first | (at_builtin; refine wpList_app bytesT (by omega) _ rfl rfl rfl hemp rfl (Rd.alloc hba _) (bvs_one _) (by unfold maxLen; omega) (by omega) (by simp) ?_; intro vpb wpb hownpb hgpb hatpb; have xpb : Ext wra wpb := Below.app ((Ext.refl wra).alloc _) hgpb (by simp) hemp (Nat.le_refl _); simp only [List.nil_append, Nat.zero_add] at hownpb; have hzpb := xpb.size; clear hgpb hatpb) | (at_builtin; refine wpList_app bytesT (by omega) _ rfl rfl rfl (hownpb.alloc _) rfl (bs_lit wpb #[.int .u8 1, .int .u8 2, .int .u8 3] [1, 2, 3] 3 rfl rfl) (bvs_one _) (by unfold maxLen; omega) (by omega) (by simp; omega) ?_; intro vqb wqb hownqb hgqb hatqb; have xqb : Ext wra wqb := Below.app (xpb.alloc _) hgqb (by simp; omega) (hownpb.alloc _) (Nat.le_refl _); obtain ⟨Aqb, cqb, rfl, hcqb⟩ := own_form hownqb; clear hgqb hatqb))
    have hqb : Bs wqb Aqb (NB + 3) (FB ++ [1, 2, 3]) := Bs.of_own (by simpa using hownqb)
    have csb := tag_Skip Aqb (NB + 3) cqb _ wqb hqb (by omega) hcqb
    rw [HSB.out] at csb
    simp only [sq] at csb
    have CSb := Lib.hid csb
    clear csb hqb hownqb hownpb hemp xpb hzpb
    go_wp2_with fail
    refine CSb.out.mono ?_
    clear CSb
    rintro e wrb ⟨rfl, xrb⟩
    have xsb := xqb.trans xrb
    replace hx0 := hx0.trans xsb
    replace ha6 := ha6.ext xsb
    replace hba := hba.ext xsb
    replace hB1 := hB1.ext xsb
    clear xqb xrb xsb
    have q1 := hB1.cell 1
    simp only [List.getElem?_cons_zero, List.getElem?_cons_succ] at q1
    clear hB1 hmw
    have hcases : at_ < 0 ∨ ∃ t : Nat, at_ = t := by
      rcases Int.lt_or_le at_ 0 with h | h
      · exact .inl h
      · exact .inr ⟨at_.toNat, by omega⟩
    rcases hcases with hneg | ⟨t, rfl⟩
    · have hd : decide ((0 : Int) ≤ at_) = false := dec_f (by omega)
      go_wp2
      go_ret
      exact ⟨rfl, hx0⟩
    · have ht0 : (0 : Int) ≤ t := by omega
      by_cases hta : t < NA
      · have d1 : decide (t < NA) = true := dec_t hta
        have htc : (t : Int) ≤ c6 := by omega
        have ca1 := tag_Skip A6 t c6 _ wrb (ha6.upto (by omega)) (by omega) (by omega)
        rw [HCA.out t hta] at ca1
        simp only [sq] at ca1
        have CA1 := Lib.hid ca1; clear ca1
        go_wp2_with fail
        refine CA1.out.mono ?_
        clear CA1
        rintro e wy ⟨rfl, xy⟩
        replace hx0 := hx0.trans xy
        replace hba := hba.ext xy
        replace q1 := xy.cell q1
        by_cases htb : t < NB
        · have d2 : decide (t < NB) = true := dec_t htb
          have htc2 : (t : Int) ≤ ca := by omega
          have cb1 := tag_Skip Aa t ca _ wy (hba.upto (by omega)) (by omega) (by omega)
          rw [HCB.out t htb] at cb1
          simp only [sq] at cb1
          have CB1 := Lib.hid cb1; clear cb1 hba ha6
          go_wp2_with fail
          refine CB1.out.mono ?_
          clear CB1
          rintro e wz ⟨rfl, xz⟩
          go_wp2
          go_ret
          exact ⟨rfl, hx0.trans xz⟩
        · have d2 : decide (t < NB) = false := dec_f htb
          clear hba ha6
          go_wp2
          go_ret
          exact ⟨rfl, hx0⟩
      · have d1 : decide (t < NA) = false := dec_f hta
        by_cases htb : t < NB
        · have d2 : decide (t < NB) = true := dec_t htb
          have htc2 : (t : Int) ≤ ca := by omega
          have cb1 := tag_Skip Aa t ca _ wrb (hba.upto (by omega)) (by omega) (by omega)
          rw [HCB.out t htb] at cb1
          simp only [sq] at cb1
          have CB1 := Lib.hid cb1; clear cb1 hba ha6
          go_wp2_with fail
          refine CB1.out.mono ?_
          clear CB1
          rintro e wz ⟨rfl, xz⟩
          go_wp2
          go_ret
          exact ⟨rfl, hx0.trans xz⟩
        · have d2 : decide (t < NB) = false := dec_f htb
          clear hba ha6
          go_wp2
          go_ret
          exact ⟨rfl, hx0⟩
  · go_enter Try.func5, Try.ntmps5
    go_wp2_with fail
    refine (law02_shown _).mono ?_
    rintro e w1 ⟨rfl, x1⟩
    replace hB0 := hB0.ext x1
    replace hx0 := hx0.trans x1
    have q0 := hB0.cell 0
    have q1 := hB0.cell 1
    have f0 := hB0.frozen 0
    simp only [List.getElem?_cons_zero, List.getElem?_cons_succ] at q0 q1
    have hlt := hB0.lt
    have HB0 := Lib.hid hB0; clear hB0 x1
    go_wp2_with fail
    have hB1 := HB0.out
    clear q0 q1 f0 HB0 hlt
    generalize hW1 : w1 = W1 at *
    clear hW1
    refine (HPA.out _).mono ?_
    rintro e w2 ⟨v2, rfl, hown2, x2⟩
    obtain ⟨A2, c2, rfl, _⟩ := own_form hown2
    have ha := Bs.of_own hown2
    replace hB1 := hB1.ext x2
    replace hx0 := hx0.trans x2
    clear hown2 x2
    go_wp2_with fail
    refine (HPB.out _).mono ?_
    rintro e w3 ⟨v3, rfl, hown3, x3⟩
    obtain ⟨A3, c3, rfl, _⟩ := own_form hown3
    have hb := Bs.of_own hown3
    replace ha := ha.ext x3
    replace hB1 := hB1.ext x3
    replace hx0 := hx0.trans x3
    clear hown3 x3
    have hemp := own_empty w3 5 1
    go_wp2_with (at_builtin; refine wpList_app bytesT (by omega) _ rfl rfl rfl hemp rfl (Rd.alloc ha _) (bvs_one _) (by unfold maxLen; omega) (by omega) (by simp) ?_; intro v4 w4 hown4 hg4 hat4; have x4 : Ext w3 w4 := Below.app ((Ext.refl w3).alloc _) hg4 (by simp) hemp (Nat.le_refl _); simp only [List.nil_append, Nat.zero_add] at hown4; clear hg4 hat4)
    refine (HN.out _).mono ?_
    rintro e w5 ⟨v5, rfl, hown5, x5⟩
    obtain ⟨A5, c5, rfl, _⟩ := own_form hown5
    have b5 := Bs.of_own hown5
    have hown4' := own_ext hown4 x5
    have x35 := x4.trans x5
    have hz35 := x35.size
    clear hemp hown4 hown5 x4 x5 ha
    go_wp2_with (at_builtin; go_loud (refine wpList_app bytesT (by omega) _ rfl rfl rfl hown4' rfl b5 (bvs_one _) (by unfold maxLen; omega) (by omega) (by omega) ?_; intro v6 w6 hown6 hg6 hat6; have x36 : Ext w3 w6 := Below.app x35 hg6 (by omega) hown4' (Nat.le_refl _); have hown6b := own_to (ys := FA.map bv) hown6 (Nat.le_refl _) HLA.out (by rw [← HEA.out]; simp); obtain ⟨A6, c6, rfl, hac⟩ := own_form hown6b; have ha6 : Bs w6 A6 NA FA := Bs.of_own hown6b; clear hg6 hat6 hown6 hown6b))
    have hac' : NA ≤ c6 := hac
    replace hB1 := hB1.ext x36
    replace hx0 := hx0.trans x36
    replace hb := hb.ext x36
    clear hown4' b5 x35 x36 hac
    have q0 := hB1.cell 0
    have q1 := hB1.cell 1
    simp only [List.getElem?_cons_zero, List.getElem?_cons_succ] at q0 q1
    have hlt := hB1.lt
    have hbX := HBM.out _ hx0
    go_region_held3 (fun w' => w'.cell? ⟨w.heap.size, 0, none⟩ = some (.slice A m c))
      (first | (exact x67.cell q0) | (exact (x67.alloc _).cell q0) | (exact x68.cell q0) | (exact x69.cell q0) | (exact x6a.cell q0) | (exact ((Ext.refl w6).alloc _).drew.cell q0) | go_keep)
      (first
        | (go_at_call 26; (refine (HM.out _).mono ?_); rintro e w7 ⟨v7, rfl, hown7, x7⟩; obtain ⟨A7, c7, rfl, _⟩ := own_form hown7; have bb := Bs.of_own hown7; have x67 : Ext w6 w7 := (by first | exact x68.trans x7 | exact (Ext.refl w6).drew.trans x7 | exact ((Ext.refl w6).alloc _).drew.trans x7); have xx := x67; first | (have rr := own_ext hown8 x7) | (have ee := own_ext (World.ownsRow.drew (own_empty w6 5 1)) x7; have hne : ∀ b off, A7 = some ⟨b, off, none⟩ → b ≠ w6.heap.size := (by rintro b off rfl; have := own_lt hown7; simp at this; omega); have Hne := Lib.hid hne; clear hne) | skip)
        | (refine step_app bytesT (by omega) _ rfl rfl rfl (World.ownsRow.drew (own_empty w6 5 1)) rfl (Rd.drew (Rd.alloc hb _)) (bvs_one _) (by unfold maxLen; omega) (by omega) (by simp) ?_; intro v8 w8 hown8 hg8 hat8; have x68 : Ext w6 w8 := Below.app ((Ext.refl w6).alloc _).drew hg8 (by simp) (World.ownsRow.drew (own_empty w6 5 1)) (Nat.le_refl _); simp only [List.nil_append, Nat.zero_add] at hown8; obtain ⟨A8, c8, rfl, _⟩ := own_form hown8; clear hg8 hat8)
        | (refine step_app bytesT (by omega) _ rfl rfl rfl ee rfl (Rd.ext hb x67) (bvs_one _) (by unfold maxLen; omega) (by omega) (by have := x67.size; omega) ?_; intro v8 w8 hown8 hg8 hat8; have G8 : Grow w6.heap.size w7 w8 v8 := (Grow.start w6.heap.size w7 (v := .slice (some ⟨w6.heap.size, 0, none⟩) 0 0) (by intro k hk; simp [Value.ownBlock] at hk; exact .inl hk.symm)).app hg8 hat8; have x68 : Ext w6 w8 := G8.below x67 (Nat.le_refl _); replace bb := G8.rd bb Hne.out; simp only [List.nil_append, Nat.zero_add] at hown8; obtain ⟨A8, c8, rfl, _⟩ := own_form hown8; have rr := hown8; have xx := x68; clear hg8 hat8 G8 ee)
        | (refine step_app bytesT (by omega) _ rfl rfl rfl (own_empty w7 5 1) rfl (Rd.alloc (Rd.ext hb x67) _) (bvs_one _) (by unfold maxLen; omega) (by omega) (by simp) ?_; intro v8 w8 hown8 hg8 hat8; have x78 : Ext w7 w8 := Below.app ((Ext.refl w7).alloc _) hg8 (by simp) (own_empty w7 5 1) (Nat.le_refl _); have x68 : Ext w6 w8 := x67.trans x78; replace bb := Bs.ext bb x78; simp only [List.nil_append, Nat.zero_add] at hown8; obtain ⟨A8, c8, rfl, _⟩ := own_form hown8; have rr := own_base hown8 x67.size; have xx := x68; clear hg8 hat8 x78)
        | (refine step_app bytesT (by omega) _ rfl rfl rfl rr rfl bb (bvs_one _) (by unfold maxLen; omega) (by omega) (by have := xx.size; omega) ?_; intro v9 w9 hown9 hg9 hat9; have x69 : Ext w6 w9 := Below.app xx hg9 xx.size rr (Nat.le_refl _); obtain ⟨A9, c9, rfl, _⟩ := own_form hown9; clear hg9 hat9 rr bb xx)
        | (refine step_app bytesT (by omega) _ rfl rfl rfl hown9 rfl (Rd.ext hbX x69) (bvs_one _) (by unfold maxLen; omega) (by omega) (by have := x69.size; omega) ?_; intro va wa howna hga hata; have x6a : Ext w6 wa := Below.app x69 hga x69.size hown9 (Nat.le_refl _); have hownb := own_to (ys := FB.map bv) howna (Nat.le_refl _) HLB.out (by rw [← HEB.out]; simp); obtain ⟨Aa, ca, rfl, hca⟩ := own_form hownb; clear hga hata howna))
    have hba : Bs wa Aa NB FB := Bs.of_own hownb
    have hbc : NB ≤ ca := hca
    replace ha6 := ha6.ext x6a
    replace hx0 := hx0.trans x6a
    replace hB1 := hB1.ext x6a
    clear hownb x6a hca hbX hb q0 q1 x69 hown9
    have hemp := own_empty wa 5 1
    go_wp2_with (first | (at_builtin; refine wpList_app bytesT (by omega) _ rfl rfl rfl hemp rfl (Rd.alloc ha6 _) (bvs_one _) (by unfold maxLen; omega) (by omega) (by simp) ?_; intro vpa wpa hownpa hgpa hatpa; have xpa : Ext wa wpa := Below.app ((Ext.refl wa).alloc _) hgpa (by simp) hemp (Nat.le_refl _); simp only [List.nil_append, Nat.zero_add] at hownpa; have hzpa := xpa.size; clear hgpa hatpa) | (at_builtin; refine wpList_app bytesT (by omega) _ rfl rfl rfl (hownpa.alloc _) rfl (bs_lit wpa #[.int .u8 1, .int .u8 2, .int .u8 3] [1, 2, 3] 3 rfl rfl) (bvs_one _) (by unfold maxLen; omega) (by omega) (by simp; omega) ?_; intro vqa wqa hownqa hgqa hatqa; have xqa : Ext wa wqa := Below.app (xpa.alloc _) hgqa (by simp; omega) (hownpa.alloc _) (Nat.le_refl _); obtain ⟨Aqa, cqa, rfl, hcqa⟩ := own_form hownqa; clear hgqa hatqa))
    have hqa : Bs wqa Aqa (NA + 3) (FA ++ [1, 2, 3]) := Bs.of_own (by simpa using hownqa)
    have csa := tag_Skip Aqa (NA + 3) cqa _ wqa hqa (by omega) hcqa
    rw [HSA.out] at csa
    simp only [sq] at csa
    have CSa := Lib.hid csa
    clear csa hqa hownqa hownpa hemp xpa hzpa
    go_wp2_with fail
    refine CSa.out.mono ?_
    clear CSa
    rintro e wra ⟨rfl, xra⟩
    have xsa := xqa.trans xra
    replace hx0 := hx0.trans xsa
    replace ha6 := ha6.ext xsa
    replace hba := hba.ext xsa
    replace hB1 := hB1.ext xsa
    clear xqa xra xsa
    have hemp := own_empty wra 5 1
    go_wp2_with (first | (at_builtin; refine wpList_app bytesT (by omega) _ rfl rfl rfl hemp rfl (Rd.alloc hba _) (bvs_one _) (by unfold maxLen; omega) (by omega) (by simp) ?_; intro vpb wpb hownpb hgpb hatpb; have xpb : Ext wra wpb := Below.app ((Ext.refl wra).alloc _) hgpb (by simp) hemp (Nat.le_refl _); simp only [List.nil_append, Nat.zero_add] at hownpb; have hzpb := xpb.size; clear hgpb hatpb) | (at_builtin; refine wpList_app bytesT (by omega) _ rfl rfl rfl (hownpb.alloc _) rfl (bs_lit wpb #[.int .u8 1, .int .u8 2, .int .u8 3] [1, 2, 3] 3 rfl rfl) (bvs_one _) (by unfold maxLen; omega) (by omega) (by simp; omega) ?_; intro vqb wqb hownqb hgqb hatqb; have xqb : Ext wra wqb := Below.app (xpb.alloc _) hgqb (by simp; omega) (hownpb.alloc _) (Nat.le_refl _); obtain ⟨Aqb, cqb, rfl, hcqb⟩ := own_form hownqb; clear hgqb hatqb))
    have hqb : Bs wqb Aqb (NB + 3) (FB ++ [1, 2, 3]) := Bs.of_own (by simpa using hownqb)
    have csb := tag_Skip Aqb (NB + 3) cqb _ wqb hqb (by omega) hcqb
    rw [HSB.out] at csb
    simp only [sq] at csb
    have CSb := Lib.hid csb
    clear csb hqb hownqb hownpb hemp xpb hzpb
    go_wp2_with fail
    refine CSb.out.mono ?_
    clear CSb
    rintro e wrb ⟨rfl, xrb⟩
    have xsb := xqb.trans xrb
    replace hx0 := hx0.trans xsb
    replace ha6 := ha6.ext xsb
    replace hba := hba.ext xsb
    replace hB1 := hB1.ext xsb
    clear xqb xrb xsb
    have q1 := hB1.cell 1
    simp only [List.getElem?_cons_zero, List.getElem?_cons_succ] at q1
    clear hB1 hmw
    have hcases : at_ < 0 ∨ ∃ t : Nat, at_ = t := by
      rcases Int.lt_or_le at_ 0 with h | h
      · exact .inl h
      · exact .inr ⟨at_.toNat, by omega⟩
    rcases hcases with hneg | ⟨t, rfl⟩
    · have hd : decide ((0 : Int) ≤ at_) = false := dec_f (by omega)
      go_wp2
      go_ret
      exact ⟨rfl, hx0⟩
    · have ht0 : (0 : Int) ≤ t := by omega
      by_cases hta : t < NA
      · have d1 : decide (t < NA) = true := dec_t hta
        have htc : (t : Int) ≤ c6 := by omega
        have ca1 := tag_Skip A6 t c6 _ wrb (ha6.upto (by omega)) (by omega) (by omega)
        rw [HCA.out t hta] at ca1
        simp only [sq] at ca1
        have CA1 := Lib.hid ca1; clear ca1
        go_wp2_with fail
        refine CA1.out.mono ?_
        clear CA1
        rintro e wy ⟨rfl, xy⟩
        replace hx0 := hx0.trans xy
        replace hba := hba.ext xy
        replace q1 := xy.cell q1
        by_cases htb : t < NB
        · have d2 : decide (t < NB) = true := dec_t htb
          have htc2 : (t : Int) ≤ ca := by omega
          have cb1 := tag_Skip Aa t ca _ wy (hba.upto (by omega)) (by omega) (by omega)
          rw [HCB.out t htb] at cb1
          simp only [sq] at cb1
          have CB1 := Lib.hid cb1; clear cb1 hba ha6
          go_wp2_with fail
          refine CB1.out.mono ?_
          clear CB1
          rintro e wz ⟨rfl, xz⟩
          go_wp2
          go_ret
          exact ⟨rfl, hx0.trans xz⟩
        · have d2 : decide (t < NB) = false := dec_f htb
          clear hba ha6
          go_wp2
          go_ret
          exact ⟨rfl, hx0⟩
      · have d1 : decide (t < NA) = false := dec_f hta
        by_cases htb : t < NB
        · have d2 : decide (t < NB) = true := dec_t htb
          have htc2 : (t : Int) ≤ ca := by omega
          have cb1 := tag_Skip Aa t ca _ wrb (hba.upto (by omega)) (by omega) (by omega)
          rw [HCB.out t htb] at cb1
          simp only [sq] at cb1
          have CB1 := Lib.hid cb1; clear cb1 hba ha6
          go_wp2_with fail
          refine CB1.out.mono ?_
          clear CB1
          rintro e wz ⟨rfl, xz⟩
          go_wp2
          go_ret
          exact ⟨rfl, hx0.trans xz⟩
        · have d2 : decide (t < NB) = false := dec_f htb
          clear hba ha6
          go_wp2
          go_ret
          exact ⟨rfl, hx0⟩
end Go.Proofs.Ytjfohlnkdagjcaa

