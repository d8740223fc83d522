/- The walk of the law StateFinds. (Printed by wip/tools/stfinds.py.) -/
import Derived.Test.YtiildgoaiookhaaStO
namespace Go.Proofs.Ytiildgoaiookhaa
open Go.RowKit

set_option maxRecDepth 100000 in
set_option maxHeartbeats 3200000 in
theorem law_StateFinds (s : KV) (x : Int) (w : World) (hs : s.Ok w) :
    Calls Try.prog 7 #[s.val, .int .i64 x] w fun e w' => e = .returned (.bool true) ∧ Ext w w' := by
  unfold KV.val
  have hB0 := Blk.new w 26 [.int .i64 s.ver, .int .i64 s.next, .int .i64 s.keep, .int .i64 s.quota, .slice s.A1 s.n1 s.c1, .slice s.A2 s.n2 s.c2, .slice s.A3 s.n3 s.c3]
  go_enter Try.func7, Try.ntmps7
  go_wp2_with fail
  refine (law07_shown _).mono ?_
  rintro e w1 ⟨rfl, x1⟩
  have hB1 := hB0.ext x1
  have xw1 : Ext w w1 := ((Ext.refl w).alloc _).trans x1
  have d0 := hB1.cell 0
  have d1 := hB1.cell 1
  have d2 := hB1.cell 2
  have d3 := hB1.cell 3
  have d4 := hB1.cell 4
  have d5 := hB1.cell 5
  have d6 := hB1.cell 6
  simp only [List.getElem?_cons_zero, List.getElem?_cons_succ] at d0 d1 d2 d3 d4 d5 d6
  have HL := Lib.hid (law07_less s w1 (hs.ext xw1))
  unfold KV.val at HL
  go_wp2_with fail
  refine HL.out.mono ?_
  clear HL
  rintro e w2 ⟨A, c, rfl, hown, x2⟩
  clear d0 d1 d2 d3 d4 d5 d6
  have hB2 := hB1.ext x2
  have xw2 := xw1.trans x2
  have hlt1 := hB1.lt
  have hown2 := own_st7 hown (g := w.heap.size) hlt1 (.int .i64 (lessK s A c).ver) (.int .i64 (lessK s A c).next) (.int .i64 (lessK s A c).keep) (.int .i64 (lessK s A c).quota) (.slice (lessK s A c).A1 (lessK s A c).n1 (lessK s A c).c1) (.slice (lessK s A c).A2 (lessK s A c).n2 (lessK s A c).c2) (.slice (lessK s A c).A3 (lessK s A c).n3 (lessK s A c).c3)
  have xW : Ext w (put7 w2 w.heap.size (.int .i64 (lessK s A c).ver) (.int .i64 (lessK s A c).next) (.int .i64 (lessK s A c).keep) (.int .i64 (lessK s A c).quota) (.slice (lessK s A c).A1 (lessK s A c).n1 (lessK s A c).c1) (.slice (lessK s A c).A2 (lessK s A c).n2 (lessK s A c).c2) (.slice (lessK s A c).A3 (lessK s A c).n3 (lessK s A c).c3)) := xw2.st7 (Nat.le_refl _) _ _ _ _ _ _ _
  have hok := lessK_ok hs xW hown2
  have hfew := lessK_few s A c
  have hB := hB2.st7 (.int .i64 (lessK s A c).ver) (.int .i64 (lessK s A c).next) (.int .i64 (lessK s A c).keep) (.int .i64 (lessK s A c).quota) (.slice (lessK s A c).A1 (lessK s A c).n1 (lessK s A c).c1) (.slice (lessK s A c).A2 (lessK s A c).n2 (lessK s A c).c2) (.slice (lessK s A c).A3 (lessK s A c).n3 (lessK s A c).c3)
  have h20a : (lessK s A c).n1 ≤ 20 := by dsimp only [lessK]; omega
  have h20b : (lessK s A c).n2 ≤ 20 := by dsimp only [lessK]; omega
  have h20c : (lessK s A c).n3 ≤ 20 := by dsimp only [lessK]; omega
  have d0 := hB2.cell 0
  have d1 := hB2.cell 1
  have d2 := hB2.cell 2
  have d3 := hB2.cell 3
  have d4 := hB2.cell 4
  have d5 := hB2.cell 5
  have d6 := hB2.cell 6
  simp only [List.getElem?_cons_zero, List.getElem?_cons_succ] at d0 d1 d2 d3 d4 d5 d6
  have f0 := hB2.frozen 0
  have f1 := hB2.frozen 1
  have f2 := hB2.frozen 2
  have f3 := hB2.frozen 3
  have f4 := hB2.frozen 4
  have f5 := hB2.frozen 5
  have f6 := hB2.frozen 6
  clear hB0 hB1 hB2 hown hown2 xw1 xw2 x1 hs
  generalize lessK s A c = t at *
  go_upto_region 6 with fail
  rw [st7_def]
  clear d0 d1 d2 d3 d4 d5 d6 f0 f1 f2 f3 f4 f5 f6 x2 hlt1
  generalize put7 w2 w.heap.size (.int .i64 t.ver) (.int .i64 t.next) (.int .i64 t.keep) (.int .i64 t.quota) (.slice t.A1 t.n1 t.c1) (.slice t.A2 t.n2 t.c2) (.slice t.A3 t.n3 t.c3) = W at *
  have hl1 := hok.t1.len
  have hl2 := hok.t2.len
  have hl3 := hok.t3.len
  have e4 := hB.cell 4
  simp only [List.getElem?_cons_zero, List.getElem?_cons_succ] at e4
  have hwn1 : IntKind.i64.wrap ((t.n1 : Int) - 1) = (t.n1 : Int) - 1 := IntWalk.i64_in _ (by omega)
  go_wp2_with fail
  clear hwn1
  go_loop [6, 9] (fun q i => ∃ j : Nat, j ≤ t.n1 ∧ i = .int .i64 ((j : Int) - 1) ∧ q = .int .i64 (findAt CV.client t.ses x j)) (fun _ i => (intOf i + 1).toNat)
  case atStart => exact ⟨t.n1, Nat.le_refl _, rfl, by rw [findAt_end (by omega)]⟩
  case round =>
    obtain ⟨j, hj, rfl, rfl⟩ := hrel
    rcases Nat.eq_zero_or_pos j with rfl | hj0
    case inr =>
      obtain ⟨i, rfl⟩ : ∃ i, j = i + 1 := ⟨j - 1, by omega⟩
      have hin : i < t.n1 := by omega
      have hil : i < t.ses.length := by omega
      obtain ⟨bb, off, hA, hlt, hc⟩ := hok.t1.at_ hin
      have HH : Hid (t.ses[i].client = x → findAt CV.client t.ses x i = i) := Lib.hid (fun hk => findAt_hit hil hk)
      have HM : Hid (t.ses[i].client ≠ x → findAt CV.client t.ses x i = findAt CV.client t.ses x (i + 1)) := Lib.hid (fun hk => findAt_miss hil hk)
      generalize t.ses[i] = f at *
      have c0 : W.cell? ⟨bb, off + i * 4, none⟩ = some (.int .i64 f.client) := hc 0 (by omega)
      clear hc
      generalize f.client = kk at *
      have i0 : (0 : Int) ≤ i := by omega
      have i1 : (i : Int) < t.n1 := by omega
      rw [show (((i + 1 : Nat) : Int) - 1) = (i : Int) by omega]
      by_cases hk : kk = x
      · have H1 := Lib.hid (HH.out hk)
        have hk' := beq_t hk
        clear HH HM hk
        go_wp2
        go_round
        case rel => exact ⟨i, by omega, val_int (by omega), by rw [H1.out]⟩
        case measure => simp [intOf] <;> omega
      · have H1 := Lib.hid (HM.out hk)
        have hk' := beq_f hk
        clear HH HM hk
        go_wp2
        go_round
        case rel => exact ⟨i, by omega, val_int (by omega), by rw [H1.out]⟩
        case measure => simp [intOf] <;> omega
    case inl =>
      have e5 := hB.cell 5
      simp only [List.getElem?_cons_zero, List.getElem?_cons_succ] at e5
      have hwn2 : IntKind.i64.wrap ((t.n2 : Int) - 1) = (t.n2 : Int) - 1 := IntWalk.i64_in _ (by omega)
      go_wp2_with fail
      clear hwn2
      go_loop [7, 10] (fun q i => ∃ j : Nat, j ≤ t.n2 ∧ i = .int .i64 ((j : Int) - 1) ∧ q = .int .i64 (findAt OV.set t.ops x j)) (fun _ i => (intOf i + 1).toNat)
      case atStart => exact ⟨t.n2, Nat.le_refl _, rfl, by rw [findAt_end (by omega)]⟩
      case round =>
        obtain ⟨j, hj, rfl, rfl⟩ := hrel
        rcases Nat.eq_zero_or_pos j with rfl | hj0
        case inr =>
          obtain ⟨i, rfl⟩ : ∃ i, j = i + 1 := ⟨j - 1, by omega⟩
          have hin : i < t.n2 := by omega
          have hil : i < t.ops.length := by omega
          obtain ⟨bb, off, hA, hlt, hc⟩ := hok.t2.at_ hin
          have HH : Hid (t.ops[i].set = x → findAt OV.set t.ops x i = i) := Lib.hid (fun hk => findAt_hit hil hk)
          have HM : Hid (t.ops[i].set ≠ x → findAt OV.set t.ops x i = findAt OV.set t.ops x (i + 1)) := Lib.hid (fun hk => findAt_miss hil hk)
          generalize t.ops[i] = f at *
          have c0 : W.cell? ⟨bb, off + i * 2, none⟩ = some (.int .i64 f.set) := hc 0 (by omega)
          clear hc
          generalize f.set = kk at *
          have i0 : (0 : Int) ≤ i := by omega
          have i1 : (i : Int) < t.n2 := by omega
          rw [show (((i + 1 : Nat) : Int) - 1) = (i : Int) by omega]
          by_cases hk : kk = x
          · have H1 := Lib.hid (HH.out hk)
            have hk' := beq_t hk
            clear HH HM hk
            go_wp2
            go_round
            case rel => exact ⟨i, by omega, val_int (by omega), by rw [H1.out]⟩
            case measure => simp [intOf] <;> omega
          · have H1 := Lib.hid (HM.out hk)
            have hk' := beq_f hk
            clear HH HM hk
            go_wp2
            go_round
            case rel => exact ⟨i, by omega, val_int (by omega), by rw [H1.out]⟩
            case measure => simp [intOf] <;> omega
        case inl =>
          have e6 := hB.cell 6
          simp only [List.getElem?_cons_zero, List.getElem?_cons_succ] at e6
          have hwn3 : IntKind.i64.wrap ((t.n3 : Int) - 1) = (t.n3 : Int) - 1 := IntWalk.i64_in _ (by omega)
          go_wp2_with fail
          clear hwn3
          go_loop [8, 11] (fun q i => ∃ j : Nat, j ≤ t.n3 ∧ i = .int .i64 ((j : Int) - 1) ∧ q = .int .i64 (findAt NV.id t.sns x j)) (fun _ i => (intOf i + 1).toNat)
          case atStart => exact ⟨t.n3, Nat.le_refl _, rfl, by rw [findAt_end (by omega)]⟩
          case round =>
            obtain ⟨j, hj, rfl, rfl⟩ := hrel
            rcases Nat.eq_zero_or_pos j with rfl | hj0
            case inr =>
              obtain ⟨i, rfl⟩ : ∃ i, j = i + 1 := ⟨j - 1, by omega⟩
              have hin : i < t.n3 := by omega
              have hil : i < t.sns.length := by omega
              obtain ⟨bb, off, hA, hlt, hc⟩ := hok.t3.at_ hin
              have HH : Hid (t.sns[i].id = x → findAt NV.id t.sns x i = i) := Lib.hid (fun hk => findAt_hit hil hk)
              have HM : Hid (t.sns[i].id ≠ x → findAt NV.id t.sns x i = findAt NV.id t.sns x (i + 1)) := Lib.hid (fun hk => findAt_miss hil hk)
              generalize t.sns[i] = f at *
              have c0 : W.cell? ⟨bb, off + i * 5, none⟩ = some (.int .i64 f.id) := hc 0 (by omega)
              clear hc
              generalize f.id = kk at *
              have i0 : (0 : Int) ≤ i := by omega
              have i1 : (i : Int) < t.n3 := by omega
              rw [show (((i + 1 : Nat) : Int) - 1) = (i : Int) by omega]
              by_cases hk : kk = x
              · have H1 := Lib.hid (HH.out hk)
                have hk' := beq_t hk
                clear HH HM hk
                go_wp2
                go_round
                case rel => exact ⟨i, by omega, val_int (by omega), by rw [H1.out]⟩
                case measure => simp [intOf] <;> omega
              · have H1 := Lib.hid (HM.out hk)
                have hk' := beq_f hk
                clear HH HM hk
                go_wp2
                go_round
                case rel => exact ⟨i, by omega, val_int (by omega), by rw [H1.out]⟩
                case measure => simp [intOf] <;> omega
            case inl =>
              have P1 := Lib.hid (fun (w' : World) (h : Ext W w') => st_Client t x w' (hok.ext h) hfew.n1)
              have P2 := Lib.hid (fun (w' : World) (h : Ext W w') => st_Opened t x w' (hok.ext h) hfew.n2)
              have P3 := Lib.hid (fun (w' : World) (h : Ext W w') => st_Snap t x w' (hok.ext h) hfew.n3)
              unfold KV.val at P1 P2 P3
              have d0 := hB.cell 0
              have d1 := hB.cell 1
              have d2 := hB.cell 2
              have d3 := hB.cell 3
              have d4 := hB.cell 4
              have d5 := hB.cell 5
              have d6 := hB.cell 6
              simp only [List.getElem?_cons_zero, List.getElem?_cons_succ] at d0 d1 d2 d3 d4 d5 d6
              have HC := Lib.hid (fun (w' : World) (h : Ext W w') (i : Nat) => (hB.ext h).cell i)
              clear e4 e5 e6 hok hfew hl1 hl2 hl3 hB
              generalize findAt CV.client t.ses x 0 = r1 at *
              generalize findAt OV.set t.ops x 0 = r2 at *
              generalize findAt NV.id t.sns x 0 = r3 at *
              go_wp2_with fail
              refine (P1.out _ (Ext.refl W)).mono ?_
              rintro e w3 ⟨rfl, y1⟩
              have g00 := HC.out _ y1 0
              have g01 := HC.out _ y1 1
              have g02 := HC.out _ y1 2
              have g03 := HC.out _ y1 3
              have g04 := HC.out _ y1 4
              have g05 := HC.out _ y1 5
              have g06 := HC.out _ y1 6
              simp only [List.getElem?_cons_zero, List.getElem?_cons_succ] at g00 g01 g02 g03 g04 g05 g06
              go_wp2_with fail
              refine (P2.out _ y1).mono ?_
              rintro e w4 ⟨rfl, y2'⟩
              have y2 := y1.trans y2'
              have g10 := HC.out _ y2 0
              have g11 := HC.out _ y2 1
              have g12 := HC.out _ y2 2
              have g13 := HC.out _ y2 3
              have g14 := HC.out _ y2 4
              have g15 := HC.out _ y2 5
              have g16 := HC.out _ y2 6
              simp only [List.getElem?_cons_zero, List.getElem?_cons_succ] at g10 g11 g12 g13 g14 g15 g16
              go_wp2_with fail
              refine (P3.out _ y2).mono ?_
              rintro e w5 ⟨rfl, y3'⟩
              have y3 := y2.trans y3'
              clear P1 P2 P3 HC
              go_wp2
              go_ret
              exact ⟨rfl, xW.trans y3⟩
end Go.Proofs.Ytiildgoaiookhaa
