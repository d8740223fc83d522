/- The walk of the law StateKept. (Printed by wip/tools/stkept.py.) -/
import Derived.Test.YtiildgoaiookhaaStO
namespace Go.Proofs.Ytiildgoaiookhaa
open Go.RowKit

theorem cntS_parts (S : Int) (l : List NV) (k : Nat) (h : k < l.length) : cntS S (l.take k) + (if l[k].set = S then 1 else 0) + cntS S (l.drop (k + 1)) = cntS S l := by
  rw [← cntS_snoc S l k h]
  unfold cntS
  rw [← List.length_append, ← List.filter_append, List.take_append_drop]
/-- of a set's T snapshots the last K are kept -/
def keepN (keep : Int) (T : Nat) : Nat := min keep.toNat T
theorem keep_is {keep : Int} {T a r : Nat} (h : a + 1 + r = T) : decide ((r : Int) < keep) = decide (T - keepN keep T < a + 1) := by
  unfold keepN
  by_cases h1 : (r : Int) < keep
  · rw [dec_t h1, dec_t (by omega)]
  · rw [dec_f h1, dec_f (by omega)]

set_option maxRecDepth 100000 in
set_option maxHeartbeats 3200000 in
theorem law_StateKept (s : KV) (w : World) (hs : s.Ok w) :
    Calls Try.prog 4 #[s.val] w fun e w' => e = .returned (.bool true) ∧ Ext w w' := by
  unfold KV.val
  have hB0 := Blk.new w 26 [.int .i64 s.ver, .int .i64 s.next, .int .i64 s.keep, .int .i64 s.quota, .slice s.A1 s.n1 s.c1, .slice s.A2 s.n2 s.c2, .slice s.A3 s.n3 s.c3]
  go_enter Try.func4, Try.ntmps4
  go_wp2_with fail
  refine (law07_shown _).mono ?_
  rintro e w1 ⟨rfl, x1⟩
  have hB1 := hB0.ext x1
  have xw1 : Ext w w1 := ((Ext.refl w).alloc _).trans x1
  have d0 := hB1.cell 0
  have d1 := hB1.cell 1
  have d2 := hB1.cell 2
  have d3 := hB1.cell 3
  have d4 := hB1.cell 4
  have d5 := hB1.cell 5
  have d6 := hB1.cell 6
  simp only [List.getElem?_cons_zero, List.getElem?_cons_succ] at d0 d1 d2 d3 d4 d5 d6
  have HL := Lib.hid (law07_less s w1 (hs.ext xw1))
  unfold KV.val at HL
  go_wp2_with fail
  refine HL.out.mono ?_
  clear HL
  rintro e w2 ⟨A, c, rfl, hown, x2⟩
  clear d0 d1 d2 d3 d4 d5 d6
  have hB2 := hB1.ext x2
  have xw2 := xw1.trans x2
  have hlt1 := hB1.lt
  have hown2 := own_st7 hown (g := w.heap.size) hlt1 (.int .i64 (lessK s A c).ver) (.int .i64 (lessK s A c).next) (.int .i64 (lessK s A c).keep) (.int .i64 (lessK s A c).quota) (.slice (lessK s A c).A1 (lessK s A c).n1 (lessK s A c).c1) (.slice (lessK s A c).A2 (lessK s A c).n2 (lessK s A c).c2) (.slice (lessK s A c).A3 (lessK s A c).n3 (lessK s A c).c3)
  have xW : Ext w (put7 w2 w.heap.size (.int .i64 (lessK s A c).ver) (.int .i64 (lessK s A c).next) (.int .i64 (lessK s A c).keep) (.int .i64 (lessK s A c).quota) (.slice (lessK s A c).A1 (lessK s A c).n1 (lessK s A c).c1) (.slice (lessK s A c).A2 (lessK s A c).n2 (lessK s A c).c2) (.slice (lessK s A c).A3 (lessK s A c).n3 (lessK s A c).c3)) := xw2.st7 (Nat.le_refl _) _ _ _ _ _ _ _
  have hok := lessK_ok hs xW hown2
  have hfew := lessK_few s A c
  have hB := hB2.st7 (.int .i64 (lessK s A c).ver) (.int .i64 (lessK s A c).next) (.int .i64 (lessK s A c).keep) (.int .i64 (lessK s A c).quota) (.slice (lessK s A c).A1 (lessK s A c).n1 (lessK s A c).c1) (.slice (lessK s A c).A2 (lessK s A c).n2 (lessK s A c).c2) (.slice (lessK s A c).A3 (lessK s A c).n3 (lessK s A c).c3)
  have h20a : (lessK s A c).n1 ≤ 20 := by dsimp only [lessK]; omega
  have h20b : (lessK s A c).n2 ≤ 20 := by dsimp only [lessK]; omega
  have h20c : (lessK s A c).n3 ≤ 20 := by dsimp only [lessK]; omega
  have d0 := hB2.cell 0
  have d1 := hB2.cell 1
  have d2 := hB2.cell 2
  have d3 := hB2.cell 3
  have d4 := hB2.cell 4
  have d5 := hB2.cell 5
  have d6 := hB2.cell 6
  simp only [List.getElem?_cons_zero, List.getElem?_cons_succ] at d0 d1 d2 d3 d4 d5 d6
  have f0 := hB2.frozen 0
  have f1 := hB2.frozen 1
  have f2 := hB2.frozen 2
  have f3 := hB2.frozen 3
  have f4 := hB2.frozen 4
  have f5 := hB2.frozen 5
  have f6 := hB2.frozen 6
  clear hB0 hB1 hB2 hown hown2 xw1 xw2 x1 hs
  generalize lessK s A c = t at *
  go_upto_region 3 with fail
  rw [st7_def]
  clear d0 d1 d2 d3 d4 d5 d6 f0 f1 f2 f3 f4 f5 f6 x2 hlt1
  generalize put7 w2 w.heap.size (.int .i64 t.ver) (.int .i64 t.next) (.int .i64 t.keep) (.int .i64 t.quota) (.slice t.A1 t.n1 t.c1) (.slice t.A2 t.n2 t.c2) (.slice t.A3 t.n3 t.c3) = W at *
  have hl3 := hok.t3.len
  have P := Lib.hid (fun (w' : World) (h : Ext W w') (k : Int) => st_Kept t k w' (hok.ext h) hfew.n3)
  unfold KV.val at P
  have ht3 := hok.t3
  have HC := Lib.hid (fun (w' : World) (h : Ext W w') (i : Nat) => (hB.ext h).cell i)
  clear hok hfew hB
  go_wp2_with fail
  go_loopw [4] (fun i wr => ∃ i' : Nat, i = .int .i64 i' ∧ i' ≤ t.n3 ∧ Ext W wr) (fun i _ => t.n3 - (intOf i).toNat)
  case atStart => exact ⟨0, rfl, by omega, Ext.refl W⟩
  case round =>
    obtain ⟨i, rfl, hi, hxr⟩ := hrel
    obtain ⟨wo, rfl⟩ : ∃ wo : World, wo = wr := ⟨_, rfl⟩
    have d0 := HC.out _ hxr 0
    have d1 := HC.out _ hxr 1
    have d2 := HC.out _ hxr 2
    have d3 := HC.out _ hxr 3
    have d4 := HC.out _ hxr 4
    have d5 := HC.out _ hxr 5
    have d6 := HC.out _ hxr 6
    simp only [List.getElem?_cons_zero, List.getElem?_cons_succ] at d0 d1 d2 d3 d4 d5 d6
    by_cases hin : i < t.n3
    · have hil : i < t.sns.length := by omega
      obtain ⟨bb0, off0, hA0, hlt0, hc0⟩ := (ht3.ext hxr).at_ hin
      have k1 : wo.cell? ⟨bb0, off0 + i * 5 + 1, none⟩ = some (.int .i64 t.sns[i].set) := hc0 1 (by omega)
      clear hc0
      have HTi := Lib.hid (rfl : t.sns[i].set = t.sns[i].set)
      generalize t.sns[i].set = S at *
      have i0 : (0 : Int) ≤ i := by omega
      have i1 : (i : Int) < t.n3 := by omega
      go_wp2_with fail
      clear d0 d1 d2 d3 d4 d5 d6
      go_loopw [5, 6, 7, 8] (fun q5 q6 q7 q8 wr => ∃ k : Nat, q8 = .int .i64 k ∧ k ≤ t.n3 ∧ q5 = .int .i64 (cntS S (t.sns.take k)) ∧ q6 = .int .i64 ((cntS S (t.sns.take k) - (cntS S t.sns - keepN t.keep (cntS S t.sns)) : Nat) : Int) ∧ q7 = .bool (decide (cntS S t.sns - keepN t.keep (cntS S t.sns) < cntS S (t.sns.take k))) ∧ Ext wo wr) (fun _ _ _ q8 _ => t.n3 - (intOf q8).toNat)
      case atStart => exact ⟨0, rfl, by omega, by simp [cntS], by simp [cntS], by simp [cntS], Ext.refl wo⟩
      case round =>
        obtain ⟨k, rfl, hk, rfl, rfl, rfl, hx⟩ := hrel
        have hxW := hxr.trans hx
        have d0 := HC.out _ hxW 0
        have d1 := HC.out _ hxW 1
        have d2 := HC.out _ hxW 2
        have d3 := HC.out _ hxW 3
        have d4 := HC.out _ hxW 4
        have d5 := HC.out _ hxW 5
        have d6 := HC.out _ hxW 6
        simp only [List.getElem?_cons_zero, List.getElem?_cons_succ] at d0 d1 d2 d3 d4 d5 d6
        have hcl := cntS_le S (t.sns.take k)
        have hcl2 : (t.sns.take k).length ≤ k := List.length_take_le _ _
        have hTl := cntS_le S t.sns
        by_cases hkn : k < t.n3
        · have hkl : k < t.sns.length := by omega
          obtain ⟨bb, off, hA, hlt, hc⟩ := (ht3.ext hxW).at_ hkn
          have c1 : wr.cell? ⟨bb, off + k * 5 + 1, none⟩ = some (.int .i64 t.sns[k].set) := hc 1 (by omega)
          have hbo : bb0 = bb ∧ off0 = off := by
            rw [hA0] at hA
            injection hA with hA
            injection hA with h1 h2
            exact ⟨h1, h2⟩
          obtain ⟨rfl, rfl⟩ := hbo
          have hkb := keptB_at t.keep t.sns k hkl
          have hsn := cntS_snoc S t.sns k hkl
          have hpa := cntS_parts S t.sns k hkl
          have k2 := hx.cell k1
          have kk0 : (0 : Int) ≤ k := by omega
          have kk1 : (k : Int) < t.n3 := by omega
          have PK := Lib.hid (fun (w' : World) (h : Ext W w') => P.out w' h k)
          generalize t.sns[k].set = S' at *
          generalize cntS S t.sns = T at *
          generalize cntS S (t.sns.take k) = a at *
          clear hc hA
          by_cases hS : S' = S
          · subst hS
            generalize cntS S' (t.sns.drop (k + 1)) = r' at *
            rw [if_pos rfl] at hsn hpa
            rw [hkb, keep_is hpa] at PK
            simp only [hA0] at PK
            have Hsn := Lib.hid hsn
            clear hsn hkb
            have hk' := bne_f (rfl : S' = S')
            by_cases hg : T - keepN t.keep T < a + 1
            · rw [dec_t hg] at PK
              have Hg := Lib.hid hg
              generalize keepN t.keep T = K at *
              clear hg
              go_wp2_with fail
              go_quiet (fail)
              go_wp2_with fail
              refine (PK.out _ (hxW.drewN _)).mono ?_
              rintro e w3 ⟨rfl, y3⟩
              have hg2 := Hg.out
              generalize hbh : decide (T - K < a) = bh
              have Hbh := Lib.hid hbh
              clear hbh
              go_wp2_with fail
              all_goals
                go_roundw
                case rel => exact ⟨k + 1, val_int (by omega), by omega, by rw [Hsn.out]; exact val_int (by omega), by rw [Hsn.out]; exact val_int (by omega), by rw [Hsn.out]; exact val_bool (dec_t Hg.out).symm, (hx.drewN _).trans y3⟩
                case measure => simp [intOf]; omega
            · rw [dec_f hg] at PK
              have Hg := Lib.hid hg
              generalize keepN t.keep T = K at *
              have hbh : decide (T - K < a) = false := dec_f (by omega)
              rw [hbh]
              clear hbh hg
              go_wp2_with fail
              go_quiet (fail)
              go_wp2_with fail
              refine (PK.out _ (hxW.drewN _)).mono ?_
              rintro e w3 ⟨rfl, y3⟩
              have hg2 := Hg.out
              go_wp2_with fail
              go_roundw
              case rel => exact ⟨k + 1, val_int (by omega), by omega, by rw [Hsn.out]; exact val_int (by omega), by rw [Hsn.out]; exact val_int (by omega), by rw [Hsn.out]; exact val_bool (dec_f Hg.out).symm, (hx.drewN _).trans y3⟩
              case measure => simp [intOf]; omega
          · have Hsn : Hid (cntS S (t.sns.take (k + 1)) = a) := Lib.hid (by rw [hsn, if_neg hS]; rfl)
            have hk' := bne_t hS
            clear hsn hpa hkb hS PK
            generalize keepN t.keep T = K at *
            go_wp2_with fail
            go_quiet (fail)
            go_wp2_with fail
            go_roundw
            case rel => exact ⟨k + 1, val_int (by omega), by omega, by rw [Hsn.out], by rw [Hsn.out], by rw [Hsn.out], hx.drewN _⟩
            case measure => simp [intOf]; omega
        · have hkn3 : k = t.n3 := by omega
          rw [List.take_of_length_le (show t.sns.length ≤ k by omega)]
          have hKT : keepN t.keep (cntS S t.sns) ≤ cntS S t.sns := Nat.min_le_right _ _
          have hKe : ((keepN t.keep (cntS S t.sns) : Nat) : Int) = min (max t.keep 0) (cntS S t.sns : Int) := by unfold keepN; omega
          have he : cntS S t.sns - (cntS S t.sns - keepN t.keep (cntS S t.sns)) = keepN t.keep (cntS S t.sns) := by omega
          rw [he]
          have Hke := Lib.hid hKe
          generalize keepN t.keep (cntS S t.sns) = K at *
          generalize cntS S t.sns = T at *
          clear he hKe hcl hcl2
          subst hkn3
          have hbn := bne_f Hke.out
          go_wp2_with fail
          all_goals
            go_roundw
            case rel => exact ⟨i + 1, by omega, by omega⟩
            case measure => simp [intOf] <;> omega
    · have hin3 : i = t.n3 := by omega
      have P1 := Lib.hid (fun (w' : World) (h : Ext W w') => P.out w' h (-1))
      have P2 := Lib.hid (fun (w' : World) (h : Ext W w') => P.out w' h t.n3)
      rw [keptB_out _ _ _ (.inl (by omega))] at P1
      rw [keptB_out _ _ _ (.inr (by omega))] at P2
      subst hin3
      clear P
      go_wp2_with fail
      refine (P1.out _ hxr).mono ?_
      rintro e w3 ⟨rfl, y3⟩
      have g0 := HC.out _ (hxr.trans y3) 0
      have g1 := HC.out _ (hxr.trans y3) 1
      have g2 := HC.out _ (hxr.trans y3) 2
      have g3 := HC.out _ (hxr.trans y3) 3
      have g4 := HC.out _ (hxr.trans y3) 4
      have g5 := HC.out _ (hxr.trans y3) 5
      have g6 := HC.out _ (hxr.trans y3) 6
      simp only [List.getElem?_cons_zero, List.getElem?_cons_succ] at g0 g1 g2 g3 g4 g5 g6
      go_wp2_with fail
      refine (P2.out _ (hxr.trans y3)).mono ?_
      rintro e w4 ⟨rfl, y4⟩
      go_wp2
      go_ret
      exact ⟨rfl, xW.trans ((hxr.trans y3).trans y4)⟩
end Go.Proofs.Ytiildgoaiookhaa
