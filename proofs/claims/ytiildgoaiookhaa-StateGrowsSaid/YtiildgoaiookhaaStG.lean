/- The walk of the law StateGrows. (Printed by wip/tools/stgrows.py.) -/
import Derived.Test.YtiildgoaiookhaaStP
namespace Go.Proofs.Ytiildgoaiookhaa
open Go.RowKit

theorem and1 (n : Int) (h0 : 0 ≤ n) (h1 : n < 256) : bits .and .u8 n 1 = 0 ∨ bits .and .u8 n 1 = 1 := by
  have : ∀ y : Fin 256, bits .and .u8 ((y.val : Nat) : Int) 1 = 0 ∨ bits .and .u8 ((y.val : Nat) : Int) 1 = 1 := by decide +kernel
  obtain ⟨k, rfl⟩ := Int.eq_ofNat_of_zero_le h0
  exact this ⟨k, by omega⟩

set_option maxRecDepth 100000 in
set_option maxHeartbeats 3200000 in
theorem law_StateGrows1 (s : KV) (n : Int) (w : World) (hs : s.Ok w) (hq : bits .and .u8 n 1 = 0) :
    Calls Try.prog 3 #[s.val, .int .u8 n] w fun e w' => e = .returned (.bool true) ∧ Ext w w' := by
  have HQ := Lib.hid hq
  clear hq
  unfold KV.val
  have hB0 := Blk.new w 26 [.int .i64 s.ver, .int .i64 s.next, .int .i64 s.keep, .int .i64 s.quota, .slice s.A1 s.n1 s.c1, .slice s.A2 s.n2 s.c2, .slice s.A3 s.n3 s.c3]
  go_enter Try.func3, Try.ntmps3
  go_wp2_with fail
  refine (law07_shown _).mono ?_
  rintro e w1 ⟨rfl, x1⟩
  have hB1 := hB0.ext x1
  have xw1 : Ext w w1 := ((Ext.refl w).alloc _).trans x1
  have d0 := hB1.cell 0
  have d1 := hB1.cell 1
  have d2 := hB1.cell 2
  have d3 := hB1.cell 3
  have d4 := hB1.cell 4
  have d5 := hB1.cell 5
  have d6 := hB1.cell 6
  simp only [List.getElem?_cons_zero, List.getElem?_cons_succ] at d0 d1 d2 d3 d4 d5 d6
  have HL := Lib.hid (law07_less s w1 (hs.ext xw1))
  unfold KV.val at HL
  go_wp2_with fail
  refine HL.out.mono ?_
  clear HL
  rintro e w2 ⟨A, c, rfl, hown, x2⟩
  clear d0 d1 d2 d3 d4 d5 d6
  have hB2 := hB1.ext x2
  have xw2 := xw1.trans x2
  have hlt1 := hB1.lt
  have hown2 := own_st7 hown (g := w.heap.size) hlt1 (.int .i64 (lessK s A c).ver) (.int .i64 (lessK s A c).next) (.int .i64 (lessK s A c).keep) (.int .i64 (lessK s A c).quota) (.slice (lessK s A c).A1 (lessK s A c).n1 (lessK s A c).c1) (.slice (lessK s A c).A2 (lessK s A c).n2 (lessK s A c).c2) (.slice (lessK s A c).A3 (lessK s A c).n3 (lessK s A c).c3)
  have xW : Ext w (put7 w2 w.heap.size (.int .i64 (lessK s A c).ver) (.int .i64 (lessK s A c).next) (.int .i64 (lessK s A c).keep) (.int .i64 (lessK s A c).quota) (.slice (lessK s A c).A1 (lessK s A c).n1 (lessK s A c).c1) (.slice (lessK s A c).A2 (lessK s A c).n2 (lessK s A c).c2) (.slice (lessK s A c).A3 (lessK s A c).n3 (lessK s A c).c3)) := xw2.st7 (Nat.le_refl _) _ _ _ _ _ _ _
  have hok := lessK_ok hs xW hown2
  have hfew := lessK_few s A c
  have hB := hB2.st7 (.int .i64 (lessK s A c).ver) (.int .i64 (lessK s A c).next) (.int .i64 (lessK s A c).keep) (.int .i64 (lessK s A c).quota) (.slice (lessK s A c).A1 (lessK s A c).n1 (lessK s A c).c1) (.slice (lessK s A c).A2 (lessK s A c).n2 (lessK s A c).c2) (.slice (lessK s A c).A3 (lessK s A c).n3 (lessK s A c).c3)
  have h20a : (lessK s A c).n1 ≤ 20 := by dsimp only [lessK]; omega
  have h20b : (lessK s A c).n2 ≤ 20 := by dsimp only [lessK]; omega
  have h20c : (lessK s A c).n3 ≤ 20 := by dsimp only [lessK]; omega
  have d0 := hB2.cell 0
  have d1 := hB2.cell 1
  have d2 := hB2.cell 2
  have d3 := hB2.cell 3
  have d4 := hB2.cell 4
  have d5 := hB2.cell 5
  have d6 := hB2.cell 6
  simp only [List.getElem?_cons_zero, List.getElem?_cons_succ] at d0 d1 d2 d3 d4 d5 d6
  have f0 := hB2.frozen 0
  have f1 := hB2.frozen 1
  have f2 := hB2.frozen 2
  have f3 := hB2.frozen 3
  have f4 := hB2.frozen 4
  have f5 := hB2.frozen 5
  have f6 := hB2.frozen 6
  clear hB0 hB1 hB2 hown hown2 xw1 xw2 x1 hs
  generalize lessK s A c = t at *
  go_upto_region 3 with fail
  rw [st7_def]
  clear d0 d1 d2 d3 d4 d5 d6 f0 f1 f2 f3 f4 f5 f6 x2 hlt1
  generalize put7 w2 w.heap.size (.int .i64 t.ver) (.int .i64 t.next) (.int .i64 t.keep) (.int .i64 t.quota) (.slice t.A1 t.n1 t.c1) (.slice t.A2 t.n2 t.c2) (.slice t.A3 t.n3 t.c3) = W at *
  have hl3 := hok.t3.len
  have ht3 := hok.t3
  have hq := HQ.out
  clear HQ
  have M1 := Lib.hid (fun (w' : World) (h : Ext W w') => st_May t 1 w' (hok.ext h) hfew.n1 hfew.n2 hfew.n3 hfew.ch)
  have M2 := Lib.hid (fun (w' : World) (h : Ext W w') => st_May t 2 w' (hok.ext h) hfew.n1 hfew.n2 hfew.n3 hfew.ch)
  have G1 : Hid (kmay t 1 = 0 → kmay t 2 = 0) := Lib.hid (kmay_up (by omega) (by omega))
  have G2 : Hid (kmay t 2 = 0 → ∀ A c, kmay (bareK 1 t A c) 1 = 0) := Lib.hid (fun h A c => bareK_may A c (by omega) h)
  generalize kmay t 1 = E1 at *
  generalize kmay t 2 = E2 at *
  unfold KV.val at M1 M2
  have HC := Lib.hid (fun (w' : World) (h : Ext W w') (i : Nat) => (hB.ext h).cell i)
  have HOk := Lib.hid hok
  have HFew := Lib.hid hfew
  generalize hA3v : t.A3 = A3v at M1 M2 HC hB ht3 ⊢
  clear hA3v hok hfew
  have d0 := hB.cell 0
  have d1 := hB.cell 1
  have d2 := hB.cell 2
  have d3 := hB.cell 3
  have d4 := hB.cell 4
  have d5 := hB.cell 5
  have d6 := hB.cell 6
  simp only [List.getElem?_cons_zero, List.getElem?_cons_succ] at d0 d1 d2 d3 d4 d5 d6
  go_wp2_with fail
  clear hq
  refine (M1.out _ (Ext.refl W)).mono ?_
  rintro e w3 ⟨rfl, y1⟩
  clear d0 d1 d2 d3 d4 d5 d6 hB
  have d0 := HC.out _ y1 0
  have d1 := HC.out _ y1 1
  have d2 := HC.out _ y1 2
  have d3 := HC.out _ y1 3
  have d4 := HC.out _ y1 4
  have d5 := HC.out _ y1 5
  have d6 := HC.out _ y1 6
  simp only [List.getElem?_cons_zero, List.getElem?_cons_succ] at d0 d1 d2 d3 d4 d5 d6
  go_wp2_with fail
  refine (M2.out _ y1).mono ?_
  rintro e w4 ⟨rfl, y2'⟩
  have y2 := y1.trans y2'
  clear d0 d1 d2 d3 d4 d5 d6 M1 M2 y2'
  have d0 := HC.out _ y2 0
  have d1 := HC.out _ y2 1
  have d2 := HC.out _ y2 2
  have d3 := HC.out _ y2 3
  have d4 := HC.out _ y2 4
  have d5 := HC.out _ y2 5
  have d6 := HC.out _ y2 6
  simp only [List.getElem?_cons_zero, List.getElem?_cons_succ] at d0 d1 d2 d3 d4 d5 d6
  have hb0 := Blk.new w4 26 [.int .i64 t.ver, .int .i64 t.next, .int .i64 t.keep, .int .i64 t.quota, .slice t.A1 t.n1 t.c1, .slice t.A2 t.n2 t.c2, .slice none 0 0]
  have hw40 : w.heap.size ≤ w4.heap.size := (xW.trans y2).size
  go_wp2_with fail
  clear d0 d1 d2 d3 d4 d5 d6
  go_loopw [10] (fun i wr => ∃ (j : Nat) (A1 : Option Addr) (cc : Nat), i = .int .i64 j ∧ j ≤ t.n3 ∧ Blk wr w4.heap.size 26 [.int .i64 t.ver, .int .i64 t.next, .int .i64 t.keep, .int .i64 t.quota, .slice t.A1 t.n1 t.c1, .slice t.A2 t.n2 t.c2, .slice A1 j cc] ∧ wr.ownsRow (w4.heap.size + 1) 33 5 (.slice A1 j cc) j (thingsOf ((t.sns.take j).map (bareN 1))) ∧ Ext w4 wr) (fun i _ => t.n3 - (intOf i).toNat)
  case atStart => exact ⟨0, none, 0, rfl, by omega, hb0, World.ownsRow_nil _ _ _ _, (Ext.refl w4).alloc _⟩
  case round =>
    clear hb0
    obtain ⟨j, A1, cc, rfl, hj, hblk, hown, hx⟩ := hrel
    have xx := y2.trans hx
    have d0 := HC.out _ xx 0
    have d1 := HC.out _ xx 1
    have d2 := HC.out _ xx 2
    have d3 := HC.out _ xx 3
    have d4 := HC.out _ xx 4
    have d5 := HC.out _ xx 5
    have d6 := HC.out _ xx 6
    simp only [List.getElem?_cons_zero, List.getElem?_cons_succ] at d0 d1 d2 d3 d4 d5 d6
    by_cases hjn : j < t.n3
    · have hjl : j < t.sns.length := by omega
      obtain ⟨bb, off, rfl, hlt, hcc⟩ := (ht3.ext xx).at_ hjn
      have Hsn : Hid ((t.sns.take (j + 1)).map (bareN 1) = (t.sns.take j).map (bareN 1) ++ [bareN 1 t.sns[j]]) := Lib.hid (by rw [List.take_succ_eq_append_getElem hjl, List.map_append, List.map_singleton])
      generalize t.sns[j] = f at *
      have c0 : wr.cell? ⟨bb, off + j * 5, none⟩ = some (.int .i64 f.id) := hcc 0 (by omega)
      have c1 : wr.cell? ⟨bb, off + j * 5 + 1, none⟩ = some (.int .i64 f.set) := hcc 1 (by omega)
      have c2 : wr.cell? ⟨bb, off + j * 5 + 2, none⟩ = some (.slice f.A f.len f.cap) := hcc 2 (by omega)
      have c3 : wr.cell? ⟨bb, off + j * 5 + 3, none⟩ = some (.bool f.held) := hcc 3 (by omega)
      have c4 : wr.cell? ⟨bb, off + j * 5 + 4, none⟩ = some (.string f.tag) := hcc 4 (by omega)
      have b6 := hblk.cell 6
      simp only [List.getElem?_cons_zero, List.getElem?_cons_succ] at b6
      have b6a := (((Ext.refl wr).alloc (.cells #[.int .i64 f.id, .int .i64 f.set, .slice f.A f.len f.cap, .bool false, .string f.tag] 33)).cell b6)
      have hblt := hblk.lt
      have Hlt := Lib.hid (fun k hk => (hown.lt k hk).1)
      have j0 : (0 : Int) ≤ j := by omega
      have j1 : (j : Int) < t.n3 := by omega
      clear hcc
      go_wp2_with (at_builtin; refine wpList_app snapsT (by omega) _ rfl rfl rfl ((hown.alloc (.cells #[.int .i64 f.id, .int .i64 f.set, .slice f.A f.len f.cap, .bool false, .string f.tag] 33)).alloc _) rfl (rd_at5 _ (.int .i64 f.id) (.int .i64 f.set) (.slice f.A f.len f.cap) (.bool false) (.string f.tag) _ _ (by simp)) (ncells_one _ _ _ _ _ _ _) (by unfold maxLen; omega) (by omega) (by simp; omega) ?_; intro v5 w5 hown5 hg5' hat5; clear hat5; obtain ⟨A5, c5, rfl, _⟩ := own_form hown5; have hg5 : World.grownBy ((wr.alloc (.cells #[.int .i64 f.id, .int .i64 f.set, .slice f.A f.len f.cap, .bool false, .string f.tag] 33)).alloc (.cells #[.int .i64 f.id, .int .i64 f.set, .slice f.A f.len f.cap, .bool false, .string f.tag] 33)) w5 (Value.slice A1 j cc).ownBlock := hg5'; clear hg5'; have hbl5 := ((hblk.alloc (.cells #[.int .i64 f.id, .int .i64 f.set, .slice f.A f.len f.cap, .bool false, .string f.tag] 33)).alloc (.cells #[.int .i64 f.id, .int .i64 f.set, .slice f.A f.len f.cap, .bool false, .string f.tag] 33)).grown hg5 (fun e => by have := Hlt.out _ e.symm; omega); have x5 := Below.app ((hx.alloc (.cells #[.int .i64 f.id, .int .i64 f.set, .slice f.A f.len f.cap, .bool false, .string f.tag] 33)).alloc (.cells #[.int .i64 f.id, .int .i64 f.set, .slice f.A f.len f.cap, .bool false, .string f.tag] 33)) hg5 (by simp; omega) ((hown.alloc (.cells #[.int .i64 f.id, .int .i64 f.set, .slice f.A f.len f.cap, .bool false, .string f.tag] 33)).alloc _) (by omega); have q6 := hbl5.cell 6; have z6 := hbl5.frozen 6; have hlt5 := hbl5.lt; simp only [List.getElem?_cons_zero, List.getElem?_cons_succ] at q6; clear hg5)
      go_roundw
      case rel => exact ⟨j + 1, A5, c5, val_int (by omega), by omega, hbl5.set_ 6 (.slice A5 (j + 1) c5), by rw [Hsn.out, thingsOf_append, thingsOf_one]; exact own_set hown5 (by dsimp only; omega) _, x5.setCell (Nat.le_refl _) _⟩
      case measure => simp [intOf]; omega
    · have hjn3 : j = t.n3 := by omega
      subst hjn3
      rw [List.take_of_length_le (by omega)] at hown
      have hcap := own_cap hown
      have hokB : (bareK 1 t A1 cc).Ok wr := by
        have hk := HOk.out.ext xx
        refine ⟨hk.u0, hk.u1, hk.u2, by unfold bareK; dsimp only; rw [if_neg (by omega)]; exact hk.u3, hk.t1, hk.le1, hk.cap1, hk.t2, hk.le2, hk.cap2, ?_, by unfold bareK; dsimp only; omega, hcap.2⟩
        unfold bareK
        dsimp only
        exact Ts.of_own hown (fun f hf => by
          obtain ⟨g, hg, rfl⟩ := List.mem_map.1 hf
          exact bareN_ok (hk.t3.ok g hg)) (by omega)
      have hfewB : (bareK 1 t A1 cc).Few := ⟨HFew.out.n1, HFew.out.n2, HFew.out.n3, fun f hf => by
        obtain ⟨g, hg, rfl⟩ := List.mem_map.1 hf
        exact HFew.out.ch g hg⟩
      have MB := Lib.hid (fun (w' : World) (h : Ext wr w') => st_May (bareK 1 t A1 cc) 1 w' (hokB.ext h) hfewB.n1 hfewB.n2 hfewB.n3 hfewB.ch)
      have MF := Lib.hid (fun (w' : World) => st_May freshK 1 w' (freshK_ok w') freshK_few.n1 freshK_few.n2 freshK_few.n3 freshK_few.ch)
      rw [show kmay freshK 1 = 0 from rfl] at MF
      unfold bareK KV.val at MB
      unfold freshK KV.val at MF
      dsimp only at MB MF
      rw [if_neg (show ¬ (1 : Int) = 2 by omega)] at MB
      have HB9 := Lib.hid (fun (w' : World) (h : Ext wr w') (i : Nat) => (hblk.ext h).cell i)
      have hfd : ∀ W : World, (Instr.field 26 (.agg #[.int .i64 1, .int .i64 1, .int .i64 0, .int .i64 0, .slice none 0 0, .slice none 0 0, .slice none 0 0]) 0).run Try.prog W = .ok (.int .i64 1) W := fun _ => by kernel_rfl
      have xfin := xW.trans xx
      have HT : Hid (E2 = 0 → kmay (bareK 1 t A1 cc) 1 = 0) := Lib.hid (fun h => G2.out h A1 cc)
      unfold bareK at HT
      rw [if_neg (show ¬ (1 : Int) = 2 by omega)] at HT
      generalize kmay _ 1 = EB at *
      clear hokB hfewB hown hcap G2 HOk HFew ht3 hblk HC
      have cs : (E1 = 0 ∧ E2 = 0) ∨ (E1 ≠ 0 ∧ E2 = 0) ∨ (E1 ≠ 0 ∧ E2 ≠ 0) := by
        rcases Nat.eq_zero_or_pos E1 with h | h
        · exact .inl ⟨h, G1.out h⟩
        · rcases Nat.eq_zero_or_pos E2 with h2 | h2
          · exact .inr (.inl ⟨by omega, h2⟩)
          · exact .inr (.inr ⟨by omega, by omega⟩)
      clear G1
      rcases cs with ⟨rfl, rfl⟩ | ⟨h1, rfl⟩ | ⟨h1, h2⟩
      · obtain rfl := HT.out rfl
        clear HT
        go_wp2_with fail
        refine (st_Fresh _).mono ?_
        rintro e w6 ⟨rfl, z1⟩
        unfold freshK KV.val
        dsimp only
        go_wp2_with fail
        refine (st_Fresh _).mono ?_
        rintro e w7 ⟨rfl, z2⟩
        unfold freshK KV.val
        dsimp only
        go_wp2_with fail
        refine (MF.out _).mono ?_
        rintro e w8 ⟨rfl, z3⟩
        have z13 := (z1.trans z2).trans z3
        have p0 := HB9.out _ z13 0
        have p1 := HB9.out _ z13 1
        have p2 := HB9.out _ z13 2
        have p3 := HB9.out _ z13 3
        have p4 := HB9.out _ z13 4
        have p5 := HB9.out _ z13 5
        have p6 := HB9.out _ z13 6
        simp only [List.getElem?_cons_zero, List.getElem?_cons_succ] at p0 p1 p2 p3 p4 p5 p6
        go_wp2_with fail
        refine (MB.out _ z13).mono ?_
        rintro e w9 ⟨rfl, z4⟩
        go_wp2
        go_ret
        exact ⟨rfl, (xfin.trans z13).trans z4⟩
      · have hb1 := beq_f (show ((E1 : Nat) : Int) ≠ 0 by omega)
        obtain rfl := HT.out rfl
        clear HT h1
        go_wp2_with fail
        refine (st_Fresh _).mono ?_
        rintro e w6 ⟨rfl, z1⟩
        unfold freshK KV.val
        dsimp only
        go_wp2_with fail
        refine (st_Fresh _).mono ?_
        rintro e w7 ⟨rfl, z2⟩
        unfold freshK KV.val
        dsimp only
        go_wp2_with fail
        refine (MF.out _).mono ?_
        rintro e w8 ⟨rfl, z3⟩
        have z13 := (z1.trans z2).trans z3
        have p0 := HB9.out _ z13 0
        have p1 := HB9.out _ z13 1
        have p2 := HB9.out _ z13 2
        have p3 := HB9.out _ z13 3
        have p4 := HB9.out _ z13 4
        have p5 := HB9.out _ z13 5
        have p6 := HB9.out _ z13 6
        simp only [List.getElem?_cons_zero, List.getElem?_cons_succ] at p0 p1 p2 p3 p4 p5 p6
        go_wp2_with fail
        refine (MB.out _ z13).mono ?_
        rintro e w9 ⟨rfl, z4⟩
        go_wp2
        go_ret
        exact ⟨rfl, (xfin.trans z13).trans z4⟩
      · have hb1 := beq_f (show ((E1 : Nat) : Int) ≠ 0 by omega)
        have hb2 := bne_t (show ((E2 : Nat) : Int) ≠ 0 by omega)
        clear HT h1 h2
        go_wp2_with fail
        refine (st_Fresh _).mono ?_
        rintro e w6 ⟨rfl, z1⟩
        unfold freshK KV.val
        dsimp only
        go_wp2_with fail
        refine (st_Fresh _).mono ?_
        rintro e w7 ⟨rfl, z2⟩
        unfold freshK KV.val
        dsimp only
        go_wp2_with fail
        refine (MF.out _).mono ?_
        rintro e w8 ⟨rfl, z3⟩
        have z13 := (z1.trans z2).trans z3
        go_wp2
        go_ret
        exact ⟨rfl, xfin.trans z13⟩

set_option maxRecDepth 100000 in
set_option maxHeartbeats 3200000 in
theorem law_StateGrows2 (s : KV) (n : Int) (w : World) (hs : s.Ok w) (hq : bits .and .u8 n 1 = 1) :
    Calls Try.prog 3 #[s.val, .int .u8 n] w fun e w' => e = .returned (.bool true) ∧ Ext w w' := by
  have HQ := Lib.hid hq
  clear hq
  unfold KV.val
  have hB0 := Blk.new w 26 [.int .i64 s.ver, .int .i64 s.next, .int .i64 s.keep, .int .i64 s.quota, .slice s.A1 s.n1 s.c1, .slice s.A2 s.n2 s.c2, .slice s.A3 s.n3 s.c3]
  go_enter Try.func3, Try.ntmps3
  go_wp2_with fail
  refine (law07_shown _).mono ?_
  rintro e w1 ⟨rfl, x1⟩
  have hB1 := hB0.ext x1
  have xw1 : Ext w w1 := ((Ext.refl w).alloc _).trans x1
  have d0 := hB1.cell 0
  have d1 := hB1.cell 1
  have d2 := hB1.cell 2
  have d3 := hB1.cell 3
  have d4 := hB1.cell 4
  have d5 := hB1.cell 5
  have d6 := hB1.cell 6
  simp only [List.getElem?_cons_zero, List.getElem?_cons_succ] at d0 d1 d2 d3 d4 d5 d6
  have HL := Lib.hid (law07_less s w1 (hs.ext xw1))
  unfold KV.val at HL
  go_wp2_with fail
  refine HL.out.mono ?_
  clear HL
  rintro e w2 ⟨A, c, rfl, hown, x2⟩
  clear d0 d1 d2 d3 d4 d5 d6
  have hB2 := hB1.ext x2
  have xw2 := xw1.trans x2
  have hlt1 := hB1.lt
  have hown2 := own_st7 hown (g := w.heap.size) hlt1 (.int .i64 (lessK s A c).ver) (.int .i64 (lessK s A c).next) (.int .i64 (lessK s A c).keep) (.int .i64 (lessK s A c).quota) (.slice (lessK s A c).A1 (lessK s A c).n1 (lessK s A c).c1) (.slice (lessK s A c).A2 (lessK s A c).n2 (lessK s A c).c2) (.slice (lessK s A c).A3 (lessK s A c).n3 (lessK s A c).c3)
  have xW : Ext w (put7 w2 w.heap.size (.int .i64 (lessK s A c).ver) (.int .i64 (lessK s A c).next) (.int .i64 (lessK s A c).keep) (.int .i64 (lessK s A c).quota) (.slice (lessK s A c).A1 (lessK s A c).n1 (lessK s A c).c1) (.slice (lessK s A c).A2 (lessK s A c).n2 (lessK s A c).c2) (.slice (lessK s A c).A3 (lessK s A c).n3 (lessK s A c).c3)) := xw2.st7 (Nat.le_refl _) _ _ _ _ _ _ _
  have hok := lessK_ok hs xW hown2
  have hfew := lessK_few s A c
  have hB := hB2.st7 (.int .i64 (lessK s A c).ver) (.int .i64 (lessK s A c).next) (.int .i64 (lessK s A c).keep) (.int .i64 (lessK s A c).quota) (.slice (lessK s A c).A1 (lessK s A c).n1 (lessK s A c).c1) (.slice (lessK s A c).A2 (lessK s A c).n2 (lessK s A c).c2) (.slice (lessK s A c).A3 (lessK s A c).n3 (lessK s A c).c3)
  have h20a : (lessK s A c).n1 ≤ 20 := by dsimp only [lessK]; omega
  have h20b : (lessK s A c).n2 ≤ 20 := by dsimp only [lessK]; omega
  have h20c : (lessK s A c).n3 ≤ 20 := by dsimp only [lessK]; omega
  have d0 := hB2.cell 0
  have d1 := hB2.cell 1
  have d2 := hB2.cell 2
  have d3 := hB2.cell 3
  have d4 := hB2.cell 4
  have d5 := hB2.cell 5
  have d6 := hB2.cell 6
  simp only [List.getElem?_cons_zero, List.getElem?_cons_succ] at d0 d1 d2 d3 d4 d5 d6
  have f0 := hB2.frozen 0
  have f1 := hB2.frozen 1
  have f2 := hB2.frozen 2
  have f3 := hB2.frozen 3
  have f4 := hB2.frozen 4
  have f5 := hB2.frozen 5
  have f6 := hB2.frozen 6
  clear hB0 hB1 hB2 hown hown2 xw1 xw2 x1 hs
  generalize lessK s A c = t at *
  go_upto_region 3 with fail
  rw [st7_def]
  clear d0 d1 d2 d3 d4 d5 d6 f0 f1 f2 f3 f4 f5 f6 x2 hlt1
  generalize put7 w2 w.heap.size (.int .i64 t.ver) (.int .i64 t.next) (.int .i64 t.keep) (.int .i64 t.quota) (.slice t.A1 t.n1 t.c1) (.slice t.A2 t.n2 t.c2) (.slice t.A3 t.n3 t.c3) = W at *
  have hl3 := hok.t3.len
  have ht3 := hok.t3
  have hq := HQ.out
  clear HQ
  have M1 := Lib.hid (fun (w' : World) (h : Ext W w') => st_May t 2 w' (hok.ext h) hfew.n1 hfew.n2 hfew.n3 hfew.ch)
  have M2 := Lib.hid (fun (w' : World) (h : Ext W w') => st_May t 3 w' (hok.ext h) hfew.n1 hfew.n2 hfew.n3 hfew.ch)
  have G1 : Hid (kmay t 2 = 0 → kmay t 3 = 0) := Lib.hid (kmay_up (by omega) (by omega))
  have G2 : Hid (kmay t 3 = 0 → ∀ A c, kmay (bareK 2 t A c) 2 = 0) := Lib.hid (fun h A c => bareK_may A c (by omega) h)
  generalize kmay t 2 = E1 at *
  generalize kmay t 3 = E2 at *
  unfold KV.val at M1 M2
  have HC := Lib.hid (fun (w' : World) (h : Ext W w') (i : Nat) => (hB.ext h).cell i)
  have HOk := Lib.hid hok
  have HFew := Lib.hid hfew
  generalize hA3v : t.A3 = A3v at M1 M2 HC hB ht3 ⊢
  clear hA3v hok hfew
  have d0 := hB.cell 0
  have d1 := hB.cell 1
  have d2 := hB.cell 2
  have d3 := hB.cell 3
  have d4 := hB.cell 4
  have d5 := hB.cell 5
  have d6 := hB.cell 6
  simp only [List.getElem?_cons_zero, List.getElem?_cons_succ] at d0 d1 d2 d3 d4 d5 d6
  go_wp2_with fail
  clear hq
  refine (M1.out _ (Ext.refl W)).mono ?_
  rintro e w3 ⟨rfl, y1⟩
  clear d0 d1 d2 d3 d4 d5 d6 hB
  have d0 := HC.out _ y1 0
  have d1 := HC.out _ y1 1
  have d2 := HC.out _ y1 2
  have d3 := HC.out _ y1 3
  have d4 := HC.out _ y1 4
  have d5 := HC.out _ y1 5
  have d6 := HC.out _ y1 6
  simp only [List.getElem?_cons_zero, List.getElem?_cons_succ] at d0 d1 d2 d3 d4 d5 d6
  go_wp2_with fail
  refine (M2.out _ y1).mono ?_
  rintro e w4 ⟨rfl, y2'⟩
  have y2 := y1.trans y2'
  clear d0 d1 d2 d3 d4 d5 d6 M1 M2 y2'
  have d0 := HC.out _ y2 0
  have d1 := HC.out _ y2 1
  have d2 := HC.out _ y2 2
  have d3 := HC.out _ y2 3
  have d4 := HC.out _ y2 4
  have d5 := HC.out _ y2 5
  have d6 := HC.out _ y2 6
  simp only [List.getElem?_cons_zero, List.getElem?_cons_succ] at d0 d1 d2 d3 d4 d5 d6
  have hb0 := Blk.new w4 26 [.int .i64 t.ver, .int .i64 t.next, .int .i64 t.keep, .int .i64 0, .slice t.A1 t.n1 t.c1, .slice t.A2 t.n2 t.c2, .slice none 0 0]
  have hw40 : w.heap.size ≤ w4.heap.size := (xW.trans y2).size
  go_wp2_with fail
  clear d0 d1 d2 d3 d4 d5 d6
  go_loopw [10] (fun i wr => ∃ (j : Nat) (A1 : Option Addr) (cc : Nat), i = .int .i64 j ∧ j ≤ t.n3 ∧ Blk wr w4.heap.size 26 [.int .i64 t.ver, .int .i64 t.next, .int .i64 t.keep, .int .i64 0, .slice t.A1 t.n1 t.c1, .slice t.A2 t.n2 t.c2, .slice A1 j cc] ∧ wr.ownsRow (w4.heap.size + 1) 33 5 (.slice A1 j cc) j (thingsOf ((t.sns.take j).map (bareN 2))) ∧ Ext w4 wr) (fun i _ => t.n3 - (intOf i).toNat)
  case atStart => exact ⟨0, none, 0, rfl, by omega, hb0, World.ownsRow_nil _ _ _ _, (Ext.refl w4).alloc _⟩
  case round =>
    clear hb0
    obtain ⟨j, A1, cc, rfl, hj, hblk, hown, hx⟩ := hrel
    have xx := y2.trans hx
    have d0 := HC.out _ xx 0
    have d1 := HC.out _ xx 1
    have d2 := HC.out _ xx 2
    have d3 := HC.out _ xx 3
    have d4 := HC.out _ xx 4
    have d5 := HC.out _ xx 5
    have d6 := HC.out _ xx 6
    simp only [List.getElem?_cons_zero, List.getElem?_cons_succ] at d0 d1 d2 d3 d4 d5 d6
    by_cases hjn : j < t.n3
    · have hjl : j < t.sns.length := by omega
      obtain ⟨bb, off, rfl, hlt, hcc⟩ := (ht3.ext xx).at_ hjn
      have Hsn : Hid ((t.sns.take (j + 1)).map (bareN 2) = (t.sns.take j).map (bareN 2) ++ [bareN 2 t.sns[j]]) := Lib.hid (by rw [List.take_succ_eq_append_getElem hjl, List.map_append, List.map_singleton])
      generalize t.sns[j] = f at *
      have c0 : wr.cell? ⟨bb, off + j * 5, none⟩ = some (.int .i64 f.id) := hcc 0 (by omega)
      have c1 : wr.cell? ⟨bb, off + j * 5 + 1, none⟩ = some (.int .i64 f.set) := hcc 1 (by omega)
      have c2 : wr.cell? ⟨bb, off + j * 5 + 2, none⟩ = some (.slice f.A f.len f.cap) := hcc 2 (by omega)
      have c3 : wr.cell? ⟨bb, off + j * 5 + 3, none⟩ = some (.bool f.held) := hcc 3 (by omega)
      have c4 : wr.cell? ⟨bb, off + j * 5 + 4, none⟩ = some (.string f.tag) := hcc 4 (by omega)
      have b6 := hblk.cell 6
      simp only [List.getElem?_cons_zero, List.getElem?_cons_succ] at b6
      have b6a := (((Ext.refl wr).alloc (.cells #[.int .i64 f.id, .int .i64 f.set, .slice f.A f.len f.cap, .bool f.held, .string ⟨#[]⟩] 33)).cell b6)
      have hblt := hblk.lt
      have Hlt := Lib.hid (fun k hk => (hown.lt k hk).1)
      have j0 : (0 : Int) ≤ j := by omega
      have j1 : (j : Int) < t.n3 := by omega
      clear hcc
      go_wp2_with (at_builtin; refine wpList_app snapsT (by omega) _ rfl rfl rfl ((hown.alloc (.cells #[.int .i64 f.id, .int .i64 f.set, .slice f.A f.len f.cap, .bool f.held, .string ⟨#[]⟩] 33)).alloc _) rfl (rd_at5 _ (.int .i64 f.id) (.int .i64 f.set) (.slice f.A f.len f.cap) (.bool f.held) (.string ⟨#[]⟩) _ _ (by simp)) (ncells_one _ _ _ _ _ _ _) (by unfold maxLen; omega) (by omega) (by simp; omega) ?_; intro v5 w5 hown5 hg5' hat5; clear hat5; obtain ⟨A5, c5, rfl, _⟩ := own_form hown5; have hg5 : World.grownBy ((wr.alloc (.cells #[.int .i64 f.id, .int .i64 f.set, .slice f.A f.len f.cap, .bool f.held, .string ⟨#[]⟩] 33)).alloc (.cells #[.int .i64 f.id, .int .i64 f.set, .slice f.A f.len f.cap, .bool f.held, .string ⟨#[]⟩] 33)) w5 (Value.slice A1 j cc).ownBlock := hg5'; clear hg5'; have hbl5 := ((hblk.alloc (.cells #[.int .i64 f.id, .int .i64 f.set, .slice f.A f.len f.cap, .bool f.held, .string ⟨#[]⟩] 33)).alloc (.cells #[.int .i64 f.id, .int .i64 f.set, .slice f.A f.len f.cap, .bool f.held, .string ⟨#[]⟩] 33)).grown hg5 (fun e => by have := Hlt.out _ e.symm; omega); have x5 := Below.app ((hx.alloc (.cells #[.int .i64 f.id, .int .i64 f.set, .slice f.A f.len f.cap, .bool f.held, .string ⟨#[]⟩] 33)).alloc (.cells #[.int .i64 f.id, .int .i64 f.set, .slice f.A f.len f.cap, .bool f.held, .string ⟨#[]⟩] 33)) hg5 (by simp; omega) ((hown.alloc (.cells #[.int .i64 f.id, .int .i64 f.set, .slice f.A f.len f.cap, .bool f.held, .string ⟨#[]⟩] 33)).alloc _) (by omega); have q6 := hbl5.cell 6; have z6 := hbl5.frozen 6; have hlt5 := hbl5.lt; simp only [List.getElem?_cons_zero, List.getElem?_cons_succ] at q6; clear hg5)
      go_roundw
      case rel => exact ⟨j + 1, A5, c5, val_int (by omega), by omega, hbl5.set_ 6 (.slice A5 (j + 1) c5), by rw [Hsn.out, thingsOf_append, thingsOf_one]; exact own_set hown5 (by dsimp only; omega) _, x5.setCell (Nat.le_refl _) _⟩
      case measure => simp [intOf]; omega
    · have hjn3 : j = t.n3 := by omega
      subst hjn3
      rw [List.take_of_length_le (by omega)] at hown
      have hcap := own_cap hown
      have hokB : (bareK 2 t A1 cc).Ok wr := by
        have hk := HOk.out.ext xx
        refine ⟨hk.u0, hk.u1, hk.u2, i64_small (by simp [bareK]), hk.t1, hk.le1, hk.cap1, hk.t2, hk.le2, hk.cap2, ?_, by unfold bareK; dsimp only; omega, hcap.2⟩
        unfold bareK
        dsimp only
        exact Ts.of_own hown (fun f hf => by
          obtain ⟨g, hg, rfl⟩ := List.mem_map.1 hf
          exact bareN_ok (hk.t3.ok g hg)) (by omega)
      have hfewB : (bareK 2 t A1 cc).Few := ⟨HFew.out.n1, HFew.out.n2, HFew.out.n3, fun f hf => by
        obtain ⟨g, hg, rfl⟩ := List.mem_map.1 hf
        exact HFew.out.ch g hg⟩
      have MB := Lib.hid (fun (w' : World) (h : Ext wr w') => st_May (bareK 2 t A1 cc) 2 w' (hokB.ext h) hfewB.n1 hfewB.n2 hfewB.n3 hfewB.ch)
      have MF := Lib.hid (fun (w' : World) => st_May freshK 2 w' (freshK_ok w') freshK_few.n1 freshK_few.n2 freshK_few.n3 freshK_few.ch)
      rw [show kmay freshK 2 = 0 from rfl] at MF
      unfold bareK KV.val at MB
      unfold freshK KV.val at MF
      dsimp only at MB MF
      rw [if_pos rfl] at MB
      have HB9 := Lib.hid (fun (w' : World) (h : Ext wr w') (i : Nat) => (hblk.ext h).cell i)
      have hfd : ∀ W : World, (Instr.field 26 (.agg #[.int .i64 1, .int .i64 1, .int .i64 0, .int .i64 0, .slice none 0 0, .slice none 0 0, .slice none 0 0]) 0).run Try.prog W = .ok (.int .i64 1) W := fun _ => by kernel_rfl
      have xfin := xW.trans xx
      have HT : Hid (E2 = 0 → kmay (bareK 2 t A1 cc) 2 = 0) := Lib.hid (fun h => G2.out h A1 cc)
      unfold bareK at HT
      rw [if_pos rfl] at HT
      generalize kmay _ 2 = EB at *
      clear hokB hfewB hown hcap G2 HOk HFew ht3 hblk HC
      have cs : (E1 = 0 ∧ E2 = 0) ∨ (E1 ≠ 0 ∧ E2 = 0) ∨ (E1 ≠ 0 ∧ E2 ≠ 0) := by
        rcases Nat.eq_zero_or_pos E1 with h | h
        · exact .inl ⟨h, G1.out h⟩
        · rcases Nat.eq_zero_or_pos E2 with h2 | h2
          · exact .inr (.inl ⟨by omega, h2⟩)
          · exact .inr (.inr ⟨by omega, by omega⟩)
      clear G1
      rcases cs with ⟨rfl, rfl⟩ | ⟨h1, rfl⟩ | ⟨h1, h2⟩
      · obtain rfl := HT.out rfl
        clear HT
        go_wp2_with fail
        refine (st_Fresh _).mono ?_
        rintro e w6 ⟨rfl, z1⟩
        unfold freshK KV.val
        dsimp only
        go_wp2_with fail
        refine (st_Fresh _).mono ?_
        rintro e w7 ⟨rfl, z2⟩
        unfold freshK KV.val
        dsimp only
        go_wp2_with fail
        refine (MF.out _).mono ?_
        rintro e w8 ⟨rfl, z3⟩
        have z13 := (z1.trans z2).trans z3
        have p0 := HB9.out _ z13 0
        have p1 := HB9.out _ z13 1
        have p2 := HB9.out _ z13 2
        have p3 := HB9.out _ z13 3
        have p4 := HB9.out _ z13 4
        have p5 := HB9.out _ z13 5
        have p6 := HB9.out _ z13 6
        simp only [List.getElem?_cons_zero, List.getElem?_cons_succ] at p0 p1 p2 p3 p4 p5 p6
        go_wp2_with fail
        refine (MB.out _ z13).mono ?_
        rintro e w9 ⟨rfl, z4⟩
        go_wp2
        go_ret
        exact ⟨rfl, (xfin.trans z13).trans z4⟩
      · have hb1 := beq_f (show ((E1 : Nat) : Int) ≠ 0 by omega)
        obtain rfl := HT.out rfl
        clear HT h1
        go_wp2_with fail
        refine (st_Fresh _).mono ?_
        rintro e w6 ⟨rfl, z1⟩
        unfold freshK KV.val
        dsimp only
        go_wp2_with fail
        refine (st_Fresh _).mono ?_
        rintro e w7 ⟨rfl, z2⟩
        unfold freshK KV.val
        dsimp only
        go_wp2_with fail
        refine (MF.out _).mono ?_
        rintro e w8 ⟨rfl, z3⟩
        have z13 := (z1.trans z2).trans z3
        have p0 := HB9.out _ z13 0
        have p1 := HB9.out _ z13 1
        have p2 := HB9.out _ z13 2
        have p3 := HB9.out _ z13 3
        have p4 := HB9.out _ z13 4
        have p5 := HB9.out _ z13 5
        have p6 := HB9.out _ z13 6
        simp only [List.getElem?_cons_zero, List.getElem?_cons_succ] at p0 p1 p2 p3 p4 p5 p6
        go_wp2_with fail
        refine (MB.out _ z13).mono ?_
        rintro e w9 ⟨rfl, z4⟩
        go_wp2
        go_ret
        exact ⟨rfl, (xfin.trans z13).trans z4⟩
      · have hb1 := beq_f (show ((E1 : Nat) : Int) ≠ 0 by omega)
        have hb2 := bne_t (show ((E2 : Nat) : Int) ≠ 0 by omega)
        clear HT h1 h2
        go_wp2_with fail
        refine (st_Fresh _).mono ?_
        rintro e w6 ⟨rfl, z1⟩
        unfold freshK KV.val
        dsimp only
        go_wp2_with fail
        refine (st_Fresh _).mono ?_
        rintro e w7 ⟨rfl, z2⟩
        unfold freshK KV.val
        dsimp only
        go_wp2_with fail
        refine (MF.out _).mono ?_
        rintro e w8 ⟨rfl, z3⟩
        have z13 := (z1.trans z2).trans z3
        go_wp2
        go_ret
        exact ⟨rfl, xfin.trans z13⟩
theorem law_StateGrows (s : KV) (n : Int) (w : World) (hs : s.Ok w) (h0 : 0 ≤ n) (h1 : n < 256) :
    Calls Try.prog 3 #[s.val, .int .u8 n] w fun e w' => e = .returned (.bool true) ∧ Ext w w' := by
  rcases and1 n h0 h1 with h | h
  · exact law_StateGrows1 s n w hs h
  · exact law_StateGrows2 s n w hs h
end Go.Proofs.Ytiildgoaiookhaa
