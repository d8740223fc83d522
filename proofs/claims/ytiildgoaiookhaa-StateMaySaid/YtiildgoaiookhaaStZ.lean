/- The walk of the law StateMay. (Printed by wip/tools/stmay.py.) -/
import Derived.Test.YtiildgoaiookhaaStX
import Derived.Test.YtiildgoaiookhaaStY
namespace Go.Proofs.Ytiildgoaiookhaa
open Go.RowKit

set_option maxRecDepth 100000 in
set_option maxHeartbeats 6400000 in
theorem law_StateMay (s : KV) (ver x : Int) (w : World) (hs : s.Ok w) :
    Calls Try.prog 6 #[s.val, .int .i64 ver, .int .i64 x] w fun e w' => e = .returned (.bool true) ∧ Ext w w' := by
  unfold KV.val
  have hB0 := Blk.new w 26 [.int .i64 s.ver, .int .i64 s.next, .int .i64 s.keep, .int .i64 s.quota, .slice s.A1 s.n1 s.c1, .slice s.A2 s.n2 s.c2, .slice s.A3 s.n3 s.c3]
  go_enter Try.func6, Try.ntmps6
  go_wp2_with fail
  refine (law07_shown _).mono ?_
  rintro e w1 ⟨rfl, x1⟩
  have hB1 := hB0.ext x1
  have xw1 : Ext w w1 := ((Ext.refl w).alloc _).trans x1
  have d0 := hB1.cell 0
  have d1 := hB1.cell 1
  have d2 := hB1.cell 2
  have d3 := hB1.cell 3
  have d4 := hB1.cell 4
  have d5 := hB1.cell 5
  have d6 := hB1.cell 6
  simp only [List.getElem?_cons_zero, List.getElem?_cons_succ] at d0 d1 d2 d3 d4 d5 d6
  have HL := Lib.hid (law07_less s w1 (hs.ext xw1))
  unfold KV.val at HL
  go_wp2_with fail
  refine HL.out.mono ?_
  clear HL
  rintro e w2 ⟨A, c, rfl, hown, x2⟩
  clear d0 d1 d2 d3 d4 d5 d6
  have hB2 := hB1.ext x2
  have xw2 := xw1.trans x2
  have hlt1 := hB1.lt
  have hown2 := own_st7 hown (g := w.heap.size) hlt1 (.int .i64 (lessK s A c).ver) (.int .i64 (lessK s A c).next) (.int .i64 (lessK s A c).keep) (.int .i64 (lessK s A c).quota) (.slice (lessK s A c).A1 (lessK s A c).n1 (lessK s A c).c1) (.slice (lessK s A c).A2 (lessK s A c).n2 (lessK s A c).c2) (.slice (lessK s A c).A3 (lessK s A c).n3 (lessK s A c).c3)
  have xW : Ext w (put7 w2 w.heap.size (.int .i64 (lessK s A c).ver) (.int .i64 (lessK s A c).next) (.int .i64 (lessK s A c).keep) (.int .i64 (lessK s A c).quota) (.slice (lessK s A c).A1 (lessK s A c).n1 (lessK s A c).c1) (.slice (lessK s A c).A2 (lessK s A c).n2 (lessK s A c).c2) (.slice (lessK s A c).A3 (lessK s A c).n3 (lessK s A c).c3)) := xw2.st7 (Nat.le_refl _) _ _ _ _ _ _ _
  have hok := lessK_ok hs xW hown2
  have hfew := lessK_few s A c
  have hB := hB2.st7 (.int .i64 (lessK s A c).ver) (.int .i64 (lessK s A c).next) (.int .i64 (lessK s A c).keep) (.int .i64 (lessK s A c).quota) (.slice (lessK s A c).A1 (lessK s A c).n1 (lessK s A c).c1) (.slice (lessK s A c).A2 (lessK s A c).n2 (lessK s A c).c2) (.slice (lessK s A c).A3 (lessK s A c).n3 (lessK s A c).c3)
  have h20a : (lessK s A c).n1 ≤ 20 := by dsimp only [lessK]; omega
  have h20b : (lessK s A c).n2 ≤ 20 := by dsimp only [lessK]; omega
  have h20c : (lessK s A c).n3 ≤ 20 := by dsimp only [lessK]; omega
  have d0 := hB2.cell 0
  have d1 := hB2.cell 1
  have d2 := hB2.cell 2
  have d3 := hB2.cell 3
  have d4 := hB2.cell 4
  have d5 := hB2.cell 5
  have d6 := hB2.cell 6
  simp only [List.getElem?_cons_zero, List.getElem?_cons_succ] at d0 d1 d2 d3 d4 d5 d6
  have f0 := hB2.frozen 0
  have f1 := hB2.frozen 1
  have f2 := hB2.frozen 2
  have f3 := hB2.frozen 3
  have f4 := hB2.frozen 4
  have f5 := hB2.frozen 5
  have f6 := hB2.frozen 6
  clear hB0 hB1 hB2 hown hown2 xw1 xw2 x1 hs
  generalize lessK s A c = t at *
  go_upto_region 3 with fail
  rw [st7_def]
  clear d0 d1 d2 d3 d4 d5 d6 f0 f1 f2 f3 f4 f5 f6 x2 hlt1
  generalize put7 w2 w.heap.size (.int .i64 t.ver) (.int .i64 t.next) (.int .i64 t.keep) (.int .i64 t.quota) (.slice t.A1 t.n1 t.c1) (.slice t.A2 t.n2 t.c2) (.slice t.A3 t.n3 t.c3) = W at *
  have hl3 := hok.t3.len
  have HR := kmayR_eq t ver _ hl3 rfl
  have P0 := Lib.hid (fun (w' : World) (h : Ext W w') => st_May t ver w' (hok.ext h) hfew.n1 hfew.n2 hfew.n3 hfew.ch)
  have P1 := Lib.hid (fun (w' : World) (h : Ext W w') => ref07_May t ver _ w' (hok.ext h) hfew.n1 hfew.n2 hfew.n3 hfew.ch rfl)
  have P2 := Lib.hid (fun (w' : World) (h : Ext W w') => st_Client t x w' (hok.ext h) hfew.n1)
  have P3 := Lib.hid (fun (w' : World) (h : Ext W w') => ref07_Client t x w' (hok.ext h) hfew.n1)
  have P4 := Lib.hid (fun (w' : World) (h : Ext W w') => st_Opened t x w' (hok.ext h) hfew.n2)
  have P5 := Lib.hid (fun (w' : World) (h : Ext W w') => ref07_Opened t x w' (hok.ext h) hfew.n2)
  have P6 := Lib.hid (fun (w' : World) (h : Ext W w') => st_Snap t x w' (hok.ext h) hfew.n3)
  have P7 := Lib.hid (fun (w' : World) (h : Ext W w') => ref07_Snap t x w' (hok.ext h) hfew.n3)
  have P8 := Lib.hid (fun (w' : World) (h : Ext W w') => st_Kept t x w' (hok.ext h) hfew.n3)
  have P9 := Lib.hid (fun (w' : World) (h : Ext W w') => ref07_Kept t x w' (hok.ext h) hfew.n3)
  rw [HR] at P1
  have HS7 : Hid (∀ w' : World, Ext W w' → w'.cell? ⟨w.heap.size, 0, none⟩ = some (.int .i64 t.ver) ∧ w'.cell? ⟨w.heap.size, 1, none⟩ = some (.int .i64 t.next) ∧ w'.cell? ⟨w.heap.size, 2, none⟩ = some (.int .i64 t.keep) ∧ w'.cell? ⟨w.heap.size, 3, none⟩ = some (.int .i64 t.quota) ∧ w'.cell? ⟨w.heap.size, 4, none⟩ = some (.slice t.A1 t.n1 t.c1) ∧ w'.cell? ⟨w.heap.size, 5, none⟩ = some (.slice t.A2 t.n2 t.c2) ∧ w'.cell? ⟨w.heap.size, 6, none⟩ = some (.slice t.A3 t.n3 t.c3)) := Lib.hid (fun w' h => by
    have hb := hB.ext h
    exact ⟨hb.cell 0, hb.cell 1, hb.cell 2, hb.cell 3, hb.cell 4, hb.cell 5, hb.cell 6⟩)
  generalize kmay t ver = r0 at *
  generalize findAt CV.client t.ses x 0 = r1 at *
  generalize findAt OV.set t.ops x 0 = r2 at *
  generalize findAt NV.id t.sns x 0 = r3 at *
  generalize keptB t.keep t.sns x = r4 at *
  unfold KV.val at P0 P1 P2 P3 P4 P5 P6 P7 P8 P9
  clear hok hfew hB HR hl3
  go_wp2_with fail
  refine (st_Fresh _).mono ?_
  rintro e w3 ⟨rfl, a1⟩
  have PS := Lib.hid (fun (w' : World) => st_Same freshK freshK true (kSame_refl _) w' (freshK_ok w') (freshK_ok w') freshK_few freshK_few)
  unfold freshK KV.val at PS ⊢
  dsimp only at PS ⊢
  go_wp2_with fail
  refine (ref07_Fresh _).mono ?_
  rintro e w4 ⟨rfl, a2⟩
  unfold freshK KV.val
  dsimp only
  go_wp2_with fail
  refine (PS.out _).mono ?_
  rintro e w5 ⟨rfl, a3⟩
  have a13 := (a1.trans a2).trans a3
  have x0 : Ext W w5.drew := a13.drew
  obtain ⟨s0, s1, s2, s3, s4, s5, s6⟩ := HS7.out _ a13
  clear PS a1 a2 a3
  go_wp2_with fail
  go_region_held3 (fun w' => w'.cell? ⟨w.heap.size, 0, none⟩ = some (.int .i64 t.ver) ∧ w'.cell? ⟨w.heap.size, 1, none⟩ = some (.int .i64 t.next) ∧ w'.cell? ⟨w.heap.size, 2, none⟩ = some (.int .i64 t.keep) ∧ w'.cell? ⟨w.heap.size, 3, none⟩ = some (.int .i64 t.quota) ∧ w'.cell? ⟨w.heap.size, 4, none⟩ = some (.slice t.A1 t.n1 t.c1) ∧ w'.cell? ⟨w.heap.size, 5, none⟩ = some (.slice t.A2 t.n2 t.c2) ∧ w'.cell? ⟨w.heap.size, 6, none⟩ = some (.slice t.A3 t.n3 t.c3))
    (first | go_keep | (exact HS7.out _ z9) | (exact HS7.out _ z8) | (exact HS7.out _ z7) | (exact HS7.out _ z6) | (exact HS7.out _ z5) | (exact HS7.out _ z4) | (exact HS7.out _ z3) | (exact HS7.out _ z2) | (exact HS7.out _ z1) | (exact HS7.out _ z0))
    (first
      | (go_at_call 17; refine (P0.out _ x0).mono ?_; rintro e b0 ⟨rfl, z0'⟩; have z0 := x0.trans z0'; clear z0')
      | (go_at_call 22; refine (P1.out _ z0).mono ?_; rintro e b1 ⟨rfl, z1'⟩; have z1 := z0.trans z1'; clear z1')
      | (go_at_call 23; refine (P2.out _ z1).mono ?_; rintro e b2 ⟨rfl, z2'⟩; have z2 := z1.trans z2'; clear z2')
      | (go_at_call 24; refine (P3.out _ z2).mono ?_; rintro e b3 ⟨rfl, z3'⟩; have z3 := z2.trans z3'; clear z3')
      | (go_at_call 25; refine (P4.out _ z3).mono ?_; rintro e b4 ⟨rfl, z4'⟩; have z4 := z3.trans z4'; clear z4')
      | (go_at_call 26; refine (P5.out _ z4).mono ?_; rintro e b5 ⟨rfl, z5'⟩; have z5 := z4.trans z5'; clear z5')
      | (go_at_call 27; refine (P6.out _ z5).mono ?_; rintro e b6 ⟨rfl, z6'⟩; have z6 := z5.trans z6'; clear z6')
      | (go_at_call 28; refine (P7.out _ z6).mono ?_; rintro e b7 ⟨rfl, z7'⟩; have z7 := z6.trans z7'; clear z7')
      | (go_at_call 19; refine (P8.out _ z7).mono ?_; rintro e b8 ⟨rfl, z8'⟩; have z8 := z7.trans z8'; clear z8')
      | (go_at_call 29; refine (P9.out _ z8).mono ?_; rintro e b9 ⟨rfl, z9'⟩; have z9 := z8.trans z9'; clear z9'))
  go_wp2
  go_ret
  exact ⟨rfl, xW.trans z9⟩
end Go.Proofs.Ytiildgoaiookhaa
