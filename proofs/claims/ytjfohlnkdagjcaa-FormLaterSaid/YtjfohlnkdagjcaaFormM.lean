/- The walk of the law FormLater. -/
import Derived.Test.YtjfohlnkdagjcaaFormL
import Derived.Test.YtjfohlnkdagjcaaFormG
namespace Go.Proofs.Ytjfohlnkdagjcaa
open Go.RowKit

/-- a record at a lesser version asks for less -/
theorem ok_later {k : Nat} {v u : Nat} {L : List FV} (hk1 : 1 ≤ k) (hk7 : k ≤ 7) (hu : 1 ≤ u) (huv : u ≤ v) (hv : v ≤ 3) (h : checkN (specL (k : Nat) (v : Nat)) L = 0) : checkN (specL (k : Nat) (u : Nat)) L = 0 := by
  unfold checkN at h ⊢
  by_cases c1 : specL (k : Nat) (v : Nat) = []
  · rw [if_pos c1] at h; cases h
  · rw [if_neg c1] at h
    by_cases c2 : fmay L ≠ 0
    · rw [if_pos c2] at h; exact absurd h c2
    · rw [if_neg c2] at h
      have hne : specL (k : Nat) (u : Nat) ≠ [] := by
        have := (grow_at (k := k) (v := u) (by omega) hu (by omega)).2
        intro e
        rw [e] at this
        simp at this
        omega
      rw [if_neg hne, if_neg c2]
      have hok : okB (specL (k : Nat) (v : Nat)) L = true := by
        by_cases c3 : okB (specL (k : Nat) (v : Nat)) L = true
        · exact c3
        · rw [if_neg c3] at h; cases h
      rw [if_pos]
      unfold okB at hok ⊢
      rw [List.all_eq_true] at hok ⊢
      intro s hs
      refine hok s ?_
      unfold specL at hs ⊢
      rw [if_pos (by omega)] at hs ⊢
      obtain ⟨h1, h2⟩ := List.mem_filter.1 hs
      refine List.mem_filter.2 ⟨h1, ?_⟩
      have := of_decide_eq_true h2
      simp only [decide_eq_true_eq]
      omega
/-- a field that no record has -/
def fFar : FV := ⟨1000, 2, 0, none, 0, 0, []⟩
theorem ok_far {S : List SpV} {L : List FV} (hS : ∀ s ∈ S, s.num ≤ 10) (h : fmay L = 0) (h' : fmay (L ++ [fFar]) = 0) : checkN S (L ++ [fFar]) = checkN S L := by
  have hok : okB S (L ++ [fFar]) = okB S L := by
    unfold okB
    have e : ∀ s ∈ S, specB s (L ++ [fFar]) = specB s L := by
      intro s hs
      have hn : ((1000 : Int) == (s.num : Int)) = false := by have := hS s hs; simp; omega
      have e1 : cnt s.num (L ++ [fFar]) = cnt s.num L := by
        unfold cnt; rw [List.filter_append]; simp [fFar, hn]
      have e2 : oneB s (L ++ [fFar]) = oneB s L := by
        unfold oneB; rw [List.all_append]; simp [fFar, hn]
      unfold specB
      rw [e1, e2]
    rw [Bool.eq_iff_iff, List.all_eq_true, List.all_eq_true]
    exact ⟨fun h s hs => (e s hs) ▸ h s hs, fun h s hs => (e s hs).symm ▸ h s hs⟩
  unfold checkN
  rw [if_neg (show ¬ fmay L ≠ 0 by omega), if_neg (show ¬ fmay (L ++ [fFar]) ≠ 0 by omega), hok]
theorem check_vals {S : List SpV} {L : List FV} (hS : S ≠ []) (h : fmay L = 0) : checkN S L = 0 ∨ checkN S L = 6 := by
  unfold checkN
  rw [if_neg hS, if_neg (show ¬ fmay L ≠ 0 by omega)]
  split <;> simp
theorem check_may {S : List SpV} {L : List FV} (hS : S ≠ []) (h : fmay L ≠ 0) : checkN S L = fmay L := by
  unfold checkN; rw [if_neg hS, if_pos h]

set_option maxRecDepth 100000 in
set_option maxHeartbeats 3200000 in
theorem law_FormLater (a b : Nat) (A : Option Addr) (n c : Nat) (l : List FV) (w : World) (ha : a < 256) (hb : b < 256) (hf : Fs w A n l) (hnc : n ≤ c) (hcm : c ≤ maxLen) :
    Calls Try.prog 16 #[.int .u8 a, .int .u8 b, .slice A n c] w fun e w' => e = .returned (.bool true) ∧ Ext w w' := by
  have HF := Lib.hid (fun (w' : World) (h : Ext w w') => law04_few A n c l w' (hf.ext h) hcm hnc)
  have HOK := Lib.hid (fun (w' : World) (h : Ext w w') => few4_ok (l := l) (w := w') fun f hf' => (hf.ok f hf').ext h)
  have h60 : min 60 n ≤ 60 := by omega
  have hm7 : a % 7 < 7 := Nat.mod_lt _ (by omega)
  have hm3 : b % 3 < 3 := Nat.mod_lt _ (by omega)
  have hla := fun u (h1 : 1 ≤ u) (h2 : u ≤ 1 + b % 3) => ok_later (k := 1 + a % 7) (v := 1 + b % 3) (u := u) (L := few4 l) (by omega) (by omega) h1 h2 (by omega)
  have hne : specL (1 + a % 7 : Nat) (1 + b % 3 : Nat) ≠ [] := by
    have := (grow_at (k := 1 + a % 7) (v := 1 + b % 3) (by omega) (by omega) (by omega)).2
    intro e
    rw [e] at this
    simp at this
    omega
  have hfar := ok_far (S := specL (1 + a % 7 : Nat) (1 + b % 3 : Nat)) (L := few4 l) (specL_num _ _)
  have hvals := check_vals (L := few4 l) hne
  have hmayn := check_may (L := few4 l) hne
  have HC := Lib.hid (fun (v : Int) A n c l w h1 h2 => forms_Check (1 + a % 7 : Nat) v A n c l w h1 h2)
  have ek : ((1 + a % 7 : Nat) : Int) = 1 + (a : Int) % 7 := by omega
  have ev : ((1 + b % 3 : Nat) : Int) = 1 + (b : Int) % 3 := by omega
  have hev : ((1 + b % 3 : Nat) : Int) ≤ 3 := by omega
  rw [ek] at hla hfar hvals hmayn HC
  rw [ev] at hla hfar hvals hmayn
  clear hne
  generalize hVV : 1 + b % 3 = VV at *
  have hv3 : VV ≤ 3 := by omega
  have hv1 : 1 ≤ VV := by omega
  have hbv : 1 + (b : Int) % 3 = (VV : Int) := by omega
  rw [hbv] at hla hfar hvals hmayn
  have HLA := Lib.hid hla
  have HFAR := Lib.hid hfar
  have HVALS := Lib.hid hvals
  have HMAYN := Lib.hid hmayn
  clear hla hfar hvals hmayn hVV ek ev hm7 hm3 hev
  generalize min 60 n = m at *
  generalize few4 l = L at *
  clear hf hcm hnc
  go_enter Try.func16, Try.ntmps16
  go_wp2_with fail
  refine (law04_shown _).mono ?_
  rintro e w1 ⟨rfl, x1⟩
  go_wp2_with fail
  refine (HF.out _ x1).mono ?_
  rintro e w2 ⟨v2, rfl, hown2, x2⟩
  obtain ⟨A2, c2, rfl, _⟩ := own_form hown2
  have hx := x1.trans x2
  have hfL : Fs w2 A2 m L := Fs.of_own hown2 (HOK.out _ hx)
  have hL60 := hfL.len
  clear hown2 x1 x2
  go_wp2_with fail
  refine (HC.out _ _ _ _ _ _ hfL (by omega)).mono ?_
  rintro e w3 ⟨rfl, x3⟩
  generalize hE : checkN (specL (1 + (a : Int) % 7) (VV : Int)) L = E at *
  have HE := Lib.hid hE; clear hE
  have hfL3 := hfL.ext x3
  have hx3 := hx.trans x3
  clear hfL x3 hx
  go_wp2
  go_loopw [11] (fun u wr => ∃ j : Nat, u = .int .i64 j ∧ 1 ≤ j ∧ j ≤ VV + 1 ∧ Ext w3 wr) (fun u _ => 4 - (intOf u).toNat)
  case atStart => exact ⟨1, rfl, by omega, by omega, Ext.refl _⟩
  case round =>
    obtain ⟨j, rfl, hj1, hj, hxr⟩ := hrel
    by_cases hjv : j ≤ VV
    · have t0 : decide (j ≤ VV) = true := dec_t hjv
      by_cases hE0 : E = 0
      · have hc0 := HLA.out j hj1 hjv hE0
        subst hE0
        have hC := HC.out (j : Int) A2 m c2 L wr (hfL3.ext hxr) (by omega)
        rw [hc0] at hC
        have HCj := Lib.hid hC
        clear hC hc0
        go_wp2_with fail
        refine HCj.out.mono ?_
        rintro e w5 ⟨rfl, x5⟩
        go_wp2
        go_roundw
        case rel => first | exact ⟨j + 1, val_int (by omega), by omega, by omega, hxr.trans x5⟩ | ((repeat apply Exists.intro); exact ⟨⟨j + 1, val_int (by omega), by omega, by omega, hxr.trans x5⟩, rfl⟩) | trace_state
        case measure => simp [intOf]; omega
      · have g1 := beq_f (show ((E : Nat) : Int) ≠ 0 by omega)
        have HE0 := Lib.hid hE0; clear hE0
        go_wp2
        go_roundw
        case rel => first | exact ⟨j + 1, val_int (by omega), by omega, by omega, hxr⟩ | ((repeat apply Exists.intro); exact ⟨⟨j + 1, val_int (by omega), by omega, by omega, hxr⟩, rfl⟩)
        case measure => simp [intOf]; omega
    · have t0 : decide (j ≤ VV) = false := dec_f hjv
      have hj' : j = VV + 1 := by omega
      subst hj'
      have hfr := hfL3.ext hxr
      have HMy := Lib.hid (ref03_May A2 m c2 L wr hfr (by omega))
      go_wp2_with fail
      refine HMy.out.mono ?_
      rintro e w6 ⟨rfl, x6⟩
      have hf6 := hfr.ext x6
      have hx6 := hx3.trans (hxr.trans x6)
      clear HMy hfr x6
      by_cases hM : fmay L = 0
      · have hcs := HVALS.out hM
        rw [hM]
        have HM0 := Lib.hid hM; clear hM
        have hemp := own_empty w6 42 4
        have hrd := hf6.rd
        have hokL := hf6.ok
        have hsz6 := Nat.le_refl w6.heap.size
        go_wp2_with (first | (at_builtin; refine wpList_app fieldsT (by omega) _ rfl rfl rfl hemp rfl (Rd.alloc hrd _) (rowOf_cells _) (by unfold maxLen; omega) (by omega) (by simp) ?_; intro v7 w7 hown7 hg7 hat7; have x7 : Ext w6 w7 := Below.app ((Ext.refl w6).alloc _) hg7 (by simp) hemp (Nat.le_refl _); simp only [List.nil_append, Nat.zero_add] at hown7; have hz7 := x7.size; clear hg7 hat7) | (at_builtin; refine wpList_app fieldsT (by omega) _ rfl rfl rfl (hown7.alloc _) rfl (rd_at4 _ (.int .i64 1000) (.int .i64 2) (.int .u64 0) (.slice none 0 0) _ _ rfl) (fcells_one _ _ _ _ _ _) (by unfold maxLen; omega) (by omega) (by simp; omega) ?_; intro v8 w8 hown8 hg8 hat8; have x8 : Ext w6 w8 := Below.app (x7.alloc _) hg8 (by simp; omega) (hown7.alloc _) (Nat.le_refl _); obtain ⟨A8, c8, rfl, _⟩ := own_form hown8; clear hg8 hat8))
        have hf8 : Fs w8 A8 (m + 1) (L ++ [fFar]) := by
          refine Fs.of_own (own_to hown8 (Nat.le_refl _) rfl (by rw [rowOf_append, rowOf_one]; rfl)) ?_
          intro f hf
          rcases List.mem_append.1 hf with hf | hf
          · exact (hokL f hf).ext x8
          · simp only [List.mem_singleton] at hf; subst hf
            exact ⟨Bs.nil_ _ _, by decide, by decide, by unfold U64; decide⟩
        have hx8 := hx6.trans x8
        clear hown7 hown8 x7 x8 hemp hrd hokL hf6
        have HMy := Lib.hid (ref03_May A8 (m + 1) c8 (L ++ [fFar]) w8 hf8 (by omega))
        go_wp2_with fail
        refine HMy.out.mono ?_
        rintro e w9 ⟨rfl, x9⟩
        clear HMy
        by_cases hM2 : fmay (L ++ [fFar]) = 0
        · have hfr2 := HFAR.out HM0.out hM2
          rw [hM2]
          have hC := HC.out (1 + (b : Int) % 3) A8 (m + 1) c8 (L ++ [fFar]) w9 (hf8.ext x9) (by omega)
          rw [hbv, hfr2] at hC
          have HC2 := Lib.hid hC
          clear hC hfr2 hM2 hf8
          go_wp2_with fail
          refine HC2.out.mono ?_
          rintro e wz ⟨rfl, xz⟩
          have hxz := hx8.trans (x9.trans xz)
          clear xz x9
          rcases hcs with rfl | rfl
          all_goals
            go_wp2
            go_ret
            exact ⟨rfl, hxz⟩
        · have g1 := beq_f (show ((fmay (L ++ [fFar]) : Nat) : Int) ≠ 0 by omega)
          have hxz := hx8.trans x9
          clear hM2 hf8 x9
          generalize fmay (L ++ [fFar]) = E9 at *
          rcases hcs with rfl | rfl
          all_goals
            go_wp2
            go_ret
            exact ⟨rfl, hxz⟩
      · have hq := HMAYN.out hM
        subst hq
        have g1 := bne_t (show ((fmay L : Nat) : Int) ≠ 0 by omega)
        clear hM
        generalize fmay L = E9 at *
        go_wp2
        go_ret
        exact ⟨rfl, hx6⟩
theorem law_FormLater_i (a b : Int) (A : Option Addr) (n c : Nat) (l : List FV) (w : World) (ha0 : 0 ≤ a) (ha : a < 256) (hb0 : 0 ≤ b) (hb : b < 256) (hf : Fs w A n l) (hnc : n ≤ c) (hcm : c ≤ maxLen) :
    Calls Try.prog 16 #[.int .u8 a, .int .u8 b, .slice A n c] w fun e w' => e = .returned (.bool true) ∧ Ext w w' := by
  obtain ⟨a, rfl⟩ := Int.eq_ofNat_of_zero_le ha0
  obtain ⟨b, rfl⟩ := Int.eq_ofNat_of_zero_le hb0
  exact law_FormLater a b A n c l w (by omega) (by omega) hf hnc hcm
end Go.Proofs.Ytjfohlnkdagjcaa
