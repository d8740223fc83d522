/- The walk of the law FormNeeds. -/
import Derived.Test.YtjfohlnkdagjcaaFnB
import Derived.Test.YtjfohlnkdagjcaaChkA
import Derived.Test.YtjfohlnkdagjcaaFormO
namespace Go.Proofs.Ytjfohlnkdagjcaa
open Go.RowKit

theorem map_snoc {l m : List FV} {f g : FV} (h : l.map FV.s = m.map FV.s) (hf : f.s = g.s) : (l ++ [f]).map FV.s = (m ++ [g]).map FV.s := by
  rw [List.map_append, List.map_append, h, List.map_singleton, List.map_singleton, hf]

theorem Four.none_ {w : World} {B : Nat} {G : List Nat} {v : Nat → Value} {l : Nat → List FV} (h : Four w B G v l) : Four w B [] v l := ⟨h.own, h.ap, h.ok, fun _ _ _ hg => by simp at hg, by simp⟩
theorem own_ofl {w w' : World} {B : Nat} {f : FV} (h : OwnF w B f) (he : Ext w w') : OwnF w' B f := ⟨own_ext h.1 he, h.2⟩
theorem own_kept {w w' w'' : World} {B : Nat} {f : FV} (h : OwnF w B f) (he : Ext w w') {v : Value} {n : Nat} {xs : List Value} (hv : w'.ownsRow B 42 4 v n xs) (hg : w'.grownBy w'' v.ownBlock) : OwnF w'' B f :=
  ⟨(own_ext h.1 he).kept hg (own_apart (own_ext h.1 he) hv (by decide)), h.2⟩

set_option maxRecDepth 100000 in
set_option maxHeartbeats 3200000 in
theorem law_FormNeeds (a b q : Nat) (w : World) (ha : a < 256) (hb : b < 256) (hq : q < 256) :
    Calls Try.prog 17 #[.int .u8 a, .int .u8 b, .int .u8 q] w fun e w' => e = .returned (.bool true) ∧ Ext w w' := by
  have hm7 : a % 7 < 7 := Nat.mod_lt _ (by omega)
  have hm3 : b % 3 < 3 := Nat.mod_lt _ (by omega)
  obtain ⟨hpos, hneeds⟩ := needs_at hm7 hm3
  have hN10 := specL_len ((a % 7 : Nat) + 1) ((b % 3 : Nat) + 1)
  have hwire := specL_wire ((a % 7 : Nat) + 1) ((b % 3 : Nat) + 1)
  have HS := fun (w : World) => forms_Specs ((a % 7 : Nat) + 1) ((b % 3 : Nat) + 1) w
  have HC := fun (A : Option Addr) (n c : Nat) (l : List FV) (w : World) => forms_Check ((a % 7 : Nat) + 1) ((b % 3 : Nat) + 1) A n c l w
  rw [show ((a % 7 : Nat) : Int) + 1 = 1 + (a : Int) % 7 by omega, show ((b % 3 : Nat) : Int) + 1 = 1 + (b : Int) % 3 by omega] at HS HC hpos hneeds hN10 hwire
  generalize specL (1 + (a : Int) % 7) (1 + (b : Int) % 3) = L at *
  obtain ⟨N, hN⟩ : ∃ N, L.length = N := ⟨_, rfl⟩
  have hneeds' : ∀ at_ s, L[at_]? = some s → checkN L (rowW L N) = 0 ∧ (s.need = false → checkN L (rowL L at_ N) = 0) ∧ (s.need = true → checkN L (rowL L at_ N) ≠ 0) ∧ checkN L (rowN L at_ N) = 6 ∧
      (s.wire = 0 ∧ checkN L (rowT L at_ N) = 5 ∨ s.wire = 2 ∧ (s.many = true → checkN L (rowT L at_ N) = 0) ∧ (s.many = false → checkN L (rowT L at_ N) ≠ 0)) := by
    intro at_ s hs
    obtain ⟨hlt, he⟩ := List.getElem?_eq_some_iff.1 hs
    have := hneeds at_ hlt
    dsimp only at this
    rw [he, hN] at this
    exact this
  have Hneeds := Lib.hid hneeds'
  have Hwire := Lib.hid hwire
  have HS' := Lib.hid HS
  have HC' := Lib.hid HC
  clear HS HC hneeds hneeds' hwire hm7 hm3
  go_enter Try.func17, Try.ntmps17
  go_wp2_with fail
  refine (law04_shown _).mono ?_
  rintro e w1 ⟨rfl, x1⟩
  go_wp2_with fail
  refine (HS'.out _).mono ?_
  clear HS'
  rintro e w2 ⟨V, rfl, hown, x2⟩
  obtain ⟨A, c, rfl, _⟩ := own_form hown
  have hSs := Ss.of_own hown
  have hx2 := x1.trans x2
  rw [hN] at hSs hpos hN10 ⊢
  have HN := Lib.hid hN; clear hN
  clear hown x1 x2
  have hN0 : ((N : Int) == 0) = false := beq_f (by omega)
  obtain ⟨at_, hat, hqN⟩ : ∃ at_ : Nat, at_ < N ∧ (q : Int) % (N : Int) = (at_ : Int) := ⟨q % N, Nat.mod_lt _ hpos, by omega⟩
  go_wp2_with fail
  rw [hqN]
  clear hqN
  have hemp : Four ((((w2.alloc (.cells #[] 42)).alloc (.cells #[] 42)).alloc (.cells #[] 42)).alloc (.cells #[] 42)) w2.heap.size []
      (p4 (.slice (some ⟨w2.heap.size, 0, none⟩) 0 0) (.slice (some ⟨w2.heap.size + 1, 0, none⟩) 0 0) (.slice (some ⟨w2.heap.size + 1 + 1, 0, none⟩) 0 0) (.slice (some ⟨w2.heap.size + 1 + 1 + 1, 0, none⟩) 0 0)) (p4 [] [] [] []) := by
    refine ⟨fun i hi => ?_, fun i hi j hj hne => ?_, fun i hi f hf => ?_, fun i hi g hg => by simp at hg, by simp⟩
    · rcases lt4 hi with rfl | rfl | rfl | rfl
      · exact (((own_empty w2 42 4).alloc _).alloc _).alloc _
      · have := own_base (base' := w2.heap.size) (((own_empty (w2.alloc (.cells #[] 42)) 42 4).alloc (.cells #[] 42)).alloc (.cells #[] 42)) (by simp)
        simpa [p4, rowOf] using this
      · have := own_base (base' := w2.heap.size) ((own_empty ((w2.alloc (.cells #[] 42)).alloc (.cells #[] 42)) 42 4).alloc (.cells #[] 42)) (by simp; omega)
        simpa [p4, rowOf] using this
      · have := own_base (base' := w2.heap.size) (own_empty (((w2.alloc (.cells #[] 42)).alloc (.cells #[] 42)).alloc (.cells #[] 42)) 42 4) (by simp; omega)
        simpa [p4, rowOf] using this
    · right
      rcases lt4 hi with rfl | rfl | rfl | rfl <;> rcases lt4 hj with rfl | rfl | rfl | rfl <;> first | exact absurd rfl hne | (simp [p4, Value.ownBlock]; omega) | simp [p4, Value.ownBlock]
    · rcases lt4 hi with rfl | rfl | rfl | rfl <;> simp [p4] at hf
  have xemp : Ext w2 ((((w2.alloc (.cells #[] 42)).alloc (.cells #[] 42)).alloc (.cells #[] 42)).alloc (.cells #[] 42)) := ((((Ext.refl w2).alloc _).alloc _).alloc _).alloc _
  have Hemp := Lib.hid hemp
  have HXemp := Lib.hid xemp
  clear hemp xemp
  go_loopw [12, 13, 14, 15, 16] (fun v0 v1 v2 v3 i wr => ∃ (j : Nat) (x y z u : List FV), i = .int .i64 j ∧ j ≤ N ∧ Four wr w2.heap.size [] (p4 v0 v1 v2 v3) (p4 x y z u) ∧
      x.map FV.s = (rowW L j).map FV.s ∧ y.map FV.s = (rowL L at_ j).map FV.s ∧ z.map FV.s = (rowN L at_ j).map FV.s ∧ u.map FV.s = (rowT L at_ j).map FV.s ∧ Ext w2 wr) (fun _ _ _ _ i _ => N - (intOf i).toNat)
  case atStart => exact ⟨0, [], [], [], [], rfl, by omega, Hemp.out, rfl, by simp [rowL], by simp [rowN], by simp [rowT], HXemp.out⟩
  case round =>
    clear Hemp HXemp
    obtain ⟨j, x, y, z, u, rfl, hj, hfour, hxs, hys, hzs, hus, hx⟩ := hrel
    have HXs := Lib.hid hxs
    have HYs := Lib.hid hys
    have HZs := Lib.hid hzs
    have HUs := Lib.hid hus
    clear hxs hys hzs hus
    by_cases hjn : j < N
    · have hjl : j < L.length := by rw [HN.out]; exact hjn
      obtain ⟨r1, r2, r3, r4⟩ := rows_len_at L at_ j (by omega)
      have l1 : x.length ≤ 20 := by have := congrArg List.length HXs.out; simp only [List.length_map] at this; omega
      have l2 : y.length ≤ 20 := by have := congrArg List.length HYs.out; simp only [List.length_map] at this; omega
      have l3 : z.length ≤ 20 := by have := congrArg List.length HZs.out; simp only [List.length_map] at this; omega
      have l4 : u.length ≤ 20 := by have := congrArg List.length HUs.out; simp only [List.length_map] at this; omega
      clear r1 r2 r3 r4
      obtain ⟨bb, off, rfl, d0, d1, d2, d3, d4⟩ := (hSs.ext hx).at_ hjn
      have hsw := Hwire.out L[j] (List.getElem_mem _)
      have HXn := Lib.hid (rowW_snoc hjl)
      have HYn := Lib.hid (rowL_snoc (at_ := at_) hjl)
      have HZn := Lib.hid (rowN_snoc (at_ := at_) hjl)
      have HUn := Lib.hid (rowT_snoc (at_ := at_) hjl)
      generalize L[j] = s at *
      have hj0 : (0 : Int) ≤ j := by omega
      have hj1 : (j : Int) < N := by omega
      have hszx := hx.size
      clear d2 d3 d4 HN
      go_wp2_with fail
      have n0 := World.new_ne wr _ d0
      have n1 := World.new_ne wr _ d1
      go_region_held3 (fun w' => w'.cell? ⟨bb, off + j * 5, none⟩ = some (.int .i64 s.num) ∧ w'.cell? ⟨bb, off + j * 5 + 1, none⟩ = some (.int .i64 s.wire)) (go_keep) (fail)
      clear n0 n1
      go_upto_if 66 with fail
      go_cut [17] (fun s17 wx => s17 = .pointer (some ⟨wr.heap.size, 0, none⟩) ∧ ∃ (fA : Option Addr) (flen fcap fn : Nat) (fb : List UInt8), Blk wx wr.heap.size 42 [.int .i64 s.num, .int .i64 s.wire, .int .u64 fn, .slice fA flen fcap] ∧ Blk wx (wr.heap.size + 1) 42 [.int .i64 s.num, .int .i64 s.wire, .int .u64 0, .slice none 0 0] ∧
          OwnF wx w2.heap.size ⟨s.num, s.wire, fn, fA, flen, fcap, fb⟩ ∧ (FV.mk s.num s.wire fn fA flen fcap fb).s = (fullF s).s ∧ Ext wr wx)
      case first =>
        clear HXs HYs HZs HUs HXn HYn HZn HUn hfour d0 d1 hSs Hneeds Hwire HC'
        obtain ⟨num, wire, since, need, many⟩ := s
        dsimp only at hsw ⊢
        have B0 : Blk (((wr.alloc (.cells #[.int .i64 num, .int .i64 wire, .int .u64 0, .slice none 0 0] 42)).alloc (.cells #[.int .i64 num, .int .i64 wire, .int .u64 0, .slice none 0 0] 42)).drew) wr.heap.size 42 [.int .i64 num, .int .i64 wire, .int .u64 0, .slice none 0 0] := (Blk.new wr 42 [.int .i64 num, .int .i64 wire, .int .u64 0, .slice none 0 0]).alloc _
        have B1 : Blk (((wr.alloc (.cells #[.int .i64 num, .int .i64 wire, .int .u64 0, .slice none 0 0] 42)).alloc (.cells #[.int .i64 num, .int .i64 wire, .int .u64 0, .slice none 0 0] 42)).drew) (wr.heap.size + 1) 42 [.int .i64 num, .int .i64 wire, .int .u64 0, .slice none 0 0] := by
          have := Blk.new (wr.alloc (.cells #[.int .i64 num, .int .i64 wire, .int .u64 0, .slice none 0 0] 42)) 42 [.int .i64 num, .int .i64 wire, .int .u64 0, .slice none 0 0]
          refine Blk.drew ?_
          simpa using this
        have XX : Ext wr (((wr.alloc (.cells #[.int .i64 num, .int .i64 wire, .int .u64 0, .slice none 0 0] 42)).alloc (.cells #[.int .i64 num, .int .i64 wire, .int .u64 0, .slice none 0 0] 42)).drew) := (((Ext.refl wr).alloc _).alloc _).drew
        have e0 := B0.cell 0
        have e1 := B0.cell 1
        have e2 := B0.cell 2
        have e3 := B0.cell 3
        have f2 := B0.frozen 2
        have f3 := B0.frozen 3
        simp only [List.getElem?_cons_zero, List.getElem?_cons_succ] at e0 e1 e2 e3
        generalize (((wr.alloc (.cells #[.int .i64 num, .int .i64 wire, .int .u64 0, .slice none 0 0] 42)).alloc (.cells #[.int .i64 num, .int .i64 wire, .int .u64 0, .slice none 0 0] 42)).drew) = W at *
        have hWz := XX.size
        have hlt := B0.lt
        rcases hsw with rfl | rfl
        · go_wp2_with fail
          go_meet
          exact ⟨rfl, none, 0, 0, 7, [], B0.set_ 2 _, B1.far (by simp) _, ⟨World.ownsRow_nil _ _ _ _, (show U64 7 by unfold U64; omega)⟩, rfl, XX.setCell (Nat.le_refl _) _⟩
        · go_wp2_with fail
          go_meet
          have hoo := blk_own (W.setCell ⟨wr.heap.size, 3, none⟩ (.slice (some ⟨W.heap.size, 0, none⟩) 1 1)) #[.int .u8 1] 5 1 1 rfl (by omega) (B := w2.heap.size) (by simp; omega) W.heap.size (by simp)
          exact ⟨rfl, some ⟨W.heap.size, 0, none⟩, 1, 1, 0, [1], (B0.set_ 3 _).alloc _, (B1.far (p := ⟨wr.heap.size, 3, none⟩) (by simp) _).alloc _, ⟨hoo, (show U64 0 by unfold U64; omega)⟩, rfl, (XX.setCell (p := ⟨wr.heap.size, 3, none⟩) (Nat.le_refl _) _).alloc _⟩
      case rest =>
        obtain ⟨rfl, fA, flen, fcap, fn, fb, bA0, bB0, of0, hfs, xw⟩ := hcut
        obtain ⟨w0k, rfl⟩ : ∃ W : World, W = wc := ⟨_, rfl⟩
        have hB1l := bB0.lt
        have F0 : Four w0k w2.heap.size [wr.heap.size, wr.heap.size + 1] (p4 u12 u13 u14 u15) (p4 x y z u) := hfour.more xw (fun g hg => by
          simp only [List.mem_cons, List.not_mem_nil, or_false] at hg
          omega)
        have X0 := hx.trans xw
        have Hfs := Lib.hid hfs
        have e00 := bA0.cell 0
        have e10 := bA0.cell 1
        have e20 := bA0.cell 2
        have e30 := bA0.cell 3
        have d00 := bB0.cell 0
        have d10 := bB0.cell 1
        have d20 := bB0.cell 2
        have d30 := bB0.cell 3
        simp only [List.getElem?_cons_zero, List.getElem?_cons_succ] at e00 e10 e20 e30 d00 d10 d20 d30
        clear hfs xw hfour d0 d1
        by_cases hja : j = at_
        · subst hja
          have hY2 : rowL L j (j + 1) = rowL L j j := by rw [HYn.out]; simp
          have hZ2 : rowN L j (j + 1) = rowN L j j ++ [bareF s] := by rw [HZn.out]; simp
          have hU2 : rowT L j (j + 1) = rowT L j j ++ [fullF s] ++ [fullF s] := by rw [HUn.out]; simp
          have HY2 := Lib.hid hY2
          have HZ2 := Lib.hid hZ2
          have HU2 := Lib.hid hU2
          clear hY2 hZ2 hU2 HYn HZn HUn
          --A--
          go_wp2_with (first
            | (at_builtin; refine wpList_app fieldsT (by omega) _ rfl rfl rfl ((show (w0k).ownsRow _ 42 4 u12 (x).length (rowOf (x)) from F0.own 0 (by omega)).alloc (.cells #[.int .i64 s.num, .int .i64 s.wire, .int .u64 fn, .slice fA flen fcap] 42)) rfl (rd_at4 _ (.int .i64 s.num) (.int .i64 s.wire) (.int .u64 fn) (.slice fA flen fcap) _ _ (by simp)) (fcells_one _ _ _ _ _ _) (by unfold maxLen; (try simp only [List.length_append, List.length_singleton]); omega) (by (try simp only [List.length_append, List.length_singleton]); omega) (by have := X0.size; simp; omega) ?_; intro u1k w1k hown1 hg1 hat1; have E1 := F0.ext ((Ext.refl w0k).alloc (.cells #[.int .i64 s.num, .int .i64 s.wire, .int .u64 fn, .slice fA flen fcap] 42)); have F1 := E1.app0 (f := ⟨s.num, s.wire, fn, fA, flen, fcap, fb⟩) hg1 hat1 hown1 (own_ofl of0 (Ext.refl w0k |>.alloc _)); have bA1 := E1.blk (i := 0) (by omega) hg1 (g := wr.heap.size) (by simp) (bA0.alloc _); have bB1 := E1.blk (i := 0) (by omega) hg1 (g := wr.heap.size + 1) (by simp) (bB0.alloc _); have of1 := own_kept of0 ((Ext.refl w0k).alloc (.cells #[.int .i64 s.num, .int .i64 s.wire, .int .u64 fn, .slice fA flen fcap] 42)) (E1.own 0 (by omega)) hg1; have X1 : Ext w2 w1k := Below.app (X0.alloc _) hg1 (by have := X0.size; simp; omega) (E1.own 0 (by omega)) (Nat.le_refl _); have e01 := bA1.cell 0; have e11 := bA1.cell 1; have e21 := bA1.cell 2; have e31 := bA1.cell 3; have d01 := bB1.cell 0; have d11 := bB1.cell 1; have d21 := bB1.cell 2; have d31 := bB1.cell 3; simp only [List.getElem?_cons_zero, List.getElem?_cons_succ] at e01 e11 e21 e31 d01 d11 d21 d31; clear hown1 hg1 hat1 E1 e00 e10 e20 e30 d00 d10 d20 d30)
            | (at_builtin; refine wpList_app fieldsT (by omega) _ rfl rfl rfl ((show (w1k).ownsRow _ 42 4 u15 (u).length (rowOf (u)) from F1.own 3 (by omega)).alloc (.cells #[.int .i64 s.num, .int .i64 s.wire, .int .u64 fn, .slice fA flen fcap] 42)) rfl (rd_at4 _ (.int .i64 s.num) (.int .i64 s.wire) (.int .u64 fn) (.slice fA flen fcap) _ _ (by simp)) (fcells_one _ _ _ _ _ _) (by unfold maxLen; (try simp only [List.length_append, List.length_singleton]); omega) (by (try simp only [List.length_append, List.length_singleton]); omega) (by have := X1.size; simp; omega) ?_; intro u2k w2k hown2 hg2 hat2; have E2 := F1.ext ((Ext.refl w1k).alloc (.cells #[.int .i64 s.num, .int .i64 s.wire, .int .u64 fn, .slice fA flen fcap] 42)); have F2 := E2.app3 (f := ⟨s.num, s.wire, fn, fA, flen, fcap, fb⟩) hg2 hat2 hown2 (own_ofl of1 (Ext.refl w1k |>.alloc _)); have bA2 := E2.blk (i := 3) (by omega) hg2 (g := wr.heap.size) (by simp) (bA1.alloc _); have bB2 := E2.blk (i := 3) (by omega) hg2 (g := wr.heap.size + 1) (by simp) (bB1.alloc _); have of2 := own_kept of1 ((Ext.refl w1k).alloc (.cells #[.int .i64 s.num, .int .i64 s.wire, .int .u64 fn, .slice fA flen fcap] 42)) (E2.own 3 (by omega)) hg2; have X2 : Ext w2 w2k := Below.app (X1.alloc _) hg2 (by have := X1.size; simp; omega) (E2.own 3 (by omega)) (Nat.le_refl _); have e02 := bA2.cell 0; have e12 := bA2.cell 1; have e22 := bA2.cell 2; have e32 := bA2.cell 3; have d02 := bB2.cell 0; have d12 := bB2.cell 1; have d22 := bB2.cell 2; have d32 := bB2.cell 3; simp only [List.getElem?_cons_zero, List.getElem?_cons_succ] at e02 e12 e22 e32 d02 d12 d22 d32; clear hown2 hg2 hat2 E2 e01 e11 e21 e31 d01 d11 d21 d31)
            | (at_builtin; refine wpList_app fieldsT (by omega) _ rfl rfl rfl ((show (w2k).ownsRow _ 42 4 u14 (z).length (rowOf (z)) from F2.own 2 (by omega)).alloc (.cells #[.int .i64 s.num, .int .i64 s.wire, .int .u64 0, .slice none 0 0] 42)) rfl (rd_at4 _ (.int .i64 s.num) (.int .i64 s.wire) (.int .u64 0) (.slice none 0 0) _ _ (by simp)) (fcells_one _ _ _ _ _ _) (by unfold maxLen; (try simp only [List.length_append, List.length_singleton]); omega) (by (try simp only [List.length_append, List.length_singleton]); omega) (by have := X2.size; simp; omega) ?_; intro u3k w3k hown3 hg3 hat3; have E3 := F2.ext ((Ext.refl w2k).alloc (.cells #[.int .i64 s.num, .int .i64 s.wire, .int .u64 0, .slice none 0 0] 42)); have F3 := E3.app2 (f := ⟨s.num, s.wire, 0, none, 0, 0, []⟩) hg3 hat3 hown3 (⟨World.ownsRow_nil _ _ _ _, (show U64 0 by unfold U64; omega)⟩); have bA3 := E3.blk (i := 2) (by omega) hg3 (g := wr.heap.size) (by simp) (bA2.alloc _); have bB3 := E3.blk (i := 2) (by omega) hg3 (g := wr.heap.size + 1) (by simp) (bB2.alloc _); have of3 := own_kept of2 ((Ext.refl w2k).alloc (.cells #[.int .i64 s.num, .int .i64 s.wire, .int .u64 0, .slice none 0 0] 42)) (E3.own 2 (by omega)) hg3; have X3 : Ext w2 w3k := Below.app (X2.alloc _) hg3 (by have := X2.size; simp; omega) (E3.own 2 (by omega)) (Nat.le_refl _); have e03 := bA3.cell 0; have e13 := bA3.cell 1; have e23 := bA3.cell 2; have e33 := bA3.cell 3; have d03 := bB3.cell 0; have d13 := bB3.cell 1; have d23 := bB3.cell 2; have d33 := bB3.cell 3; simp only [List.getElem?_cons_zero, List.getElem?_cons_succ] at e03 e13 e23 e33 d03 d13 d23 d33; clear hown3 hg3 hat3 E3 e02 e12 e22 e32 d02 d12 d22 d32)
            | (at_builtin; refine wpList_app fieldsT (by omega) _ rfl rfl rfl ((show (w3k).ownsRow _ 42 4 u2k (u ++ [(⟨s.num, s.wire, fn, fA, flen, fcap, fb⟩ : FV)]).length (rowOf (u ++ [(⟨s.num, s.wire, fn, fA, flen, fcap, fb⟩ : FV)])) from F3.own 3 (by omega)).alloc (.cells #[.int .i64 s.num, .int .i64 s.wire, .int .u64 fn, .slice fA flen fcap] 42)) rfl (rd_at4 _ (.int .i64 s.num) (.int .i64 s.wire) (.int .u64 fn) (.slice fA flen fcap) _ _ (by simp)) (fcells_one _ _ _ _ _ _) (by unfold maxLen; (try simp only [List.length_append, List.length_singleton]); omega) (by (try simp only [List.length_append, List.length_singleton]); omega) (by have := X3.size; simp; omega) ?_; intro u4k w4k hown4 hg4 hat4; have E4 := F3.ext ((Ext.refl w3k).alloc (.cells #[.int .i64 s.num, .int .i64 s.wire, .int .u64 fn, .slice fA flen fcap] 42)); have F4 := E4.app3 (f := ⟨s.num, s.wire, fn, fA, flen, fcap, fb⟩) hg4 hat4 hown4 (own_ofl of3 (Ext.refl w3k |>.alloc _)); have bA4 := E4.blk (i := 3) (by omega) hg4 (g := wr.heap.size) (by simp) (bA3.alloc _); have bB4 := E4.blk (i := 3) (by omega) hg4 (g := wr.heap.size + 1) (by simp) (bB3.alloc _); have of4 := own_kept of3 ((Ext.refl w3k).alloc (.cells #[.int .i64 s.num, .int .i64 s.wire, .int .u64 fn, .slice fA flen fcap] 42)) (E4.own 3 (by omega)) hg4; have X4 : Ext w2 w4k := Below.app (X3.alloc _) hg4 (by have := X3.size; simp; omega) (E4.own 3 (by omega)) (Nat.le_refl _); have e04 := bA4.cell 0; have e14 := bA4.cell 1; have e24 := bA4.cell 2; have e34 := bA4.cell 3; have d04 := bB4.cell 0; have d14 := bB4.cell 1; have d24 := bB4.cell 2; have d34 := bB4.cell 3; simp only [List.getElem?_cons_zero, List.getElem?_cons_succ] at e04 e14 e24 e34 d04 d14 d24 d34; clear hown4 hg4 hat4 E4 e03 e13 e23 e33 d03 d13 d23 d33))
          --/A--
          go_roundw
          case rel => exact ⟨j + 1, _, _, _, _, val_int (by omega), by omega, F4.none_, by rw [HXn.out]; exact map_snoc HXs.out Hfs.out, by rw [HY2.out]; exact HYs.out, by rw [HZ2.out]; exact map_snoc HZs.out rfl, by rw [HU2.out]; exact map_snoc (map_snoc HUs.out Hfs.out) Hfs.out, X4⟩
          case measure => simp [intOf]; omega
        · have hjb : ((j : Int) == (at_ : Int)) = false := beq_f (by omega)
          have hY2 : rowL L at_ (j + 1) = rowL L at_ j ++ [fullF s] := by rw [HYn.out, if_neg hja]
          have hZ2 : rowN L at_ (j + 1) = rowN L at_ j ++ [fullF s] := by rw [HZn.out, if_neg hja]
          have hU2 : rowT L at_ (j + 1) = rowT L at_ j ++ [fullF s] := by rw [HUn.out, if_neg hja]
          have HY2 := Lib.hid hY2
          have HZ2 := Lib.hid hZ2
          have HU2 := Lib.hid hU2
          clear hja hY2 hZ2 hU2 HYn HZn HUn
          --B--
          go_wp2_with (first
            | (at_builtin; refine wpList_app fieldsT (by omega) _ rfl rfl rfl ((show (w0k).ownsRow _ 42 4 u12 (x).length (rowOf (x)) from F0.own 0 (by omega)).alloc (.cells #[.int .i64 s.num, .int .i64 s.wire, .int .u64 fn, .slice fA flen fcap] 42)) rfl (rd_at4 _ (.int .i64 s.num) (.int .i64 s.wire) (.int .u64 fn) (.slice fA flen fcap) _ _ (by simp)) (fcells_one _ _ _ _ _ _) (by unfold maxLen; (try simp only [List.length_append, List.length_singleton]); omega) (by (try simp only [List.length_append, List.length_singleton]); omega) (by have := X0.size; simp; omega) ?_; intro u1k w1k hown1 hg1 hat1; have E1 := F0.ext ((Ext.refl w0k).alloc (.cells #[.int .i64 s.num, .int .i64 s.wire, .int .u64 fn, .slice fA flen fcap] 42)); have F1 := E1.app0 (f := ⟨s.num, s.wire, fn, fA, flen, fcap, fb⟩) hg1 hat1 hown1 (own_ofl of0 (Ext.refl w0k |>.alloc _)); have bA1 := E1.blk (i := 0) (by omega) hg1 (g := wr.heap.size) (by simp) (bA0.alloc _); have bB1 := E1.blk (i := 0) (by omega) hg1 (g := wr.heap.size + 1) (by simp) (bB0.alloc _); have of1 := own_kept of0 ((Ext.refl w0k).alloc (.cells #[.int .i64 s.num, .int .i64 s.wire, .int .u64 fn, .slice fA flen fcap] 42)) (E1.own 0 (by omega)) hg1; have X1 : Ext w2 w1k := Below.app (X0.alloc _) hg1 (by have := X0.size; simp; omega) (E1.own 0 (by omega)) (Nat.le_refl _); have e01 := bA1.cell 0; have e11 := bA1.cell 1; have e21 := bA1.cell 2; have e31 := bA1.cell 3; have d01 := bB1.cell 0; have d11 := bB1.cell 1; have d21 := bB1.cell 2; have d31 := bB1.cell 3; simp only [List.getElem?_cons_zero, List.getElem?_cons_succ] at e01 e11 e21 e31 d01 d11 d21 d31; clear hown1 hg1 hat1 E1 e00 e10 e20 e30 d00 d10 d20 d30)
            | (at_builtin; refine wpList_app fieldsT (by omega) _ rfl rfl rfl ((show (w1k).ownsRow _ 42 4 u15 (u).length (rowOf (u)) from F1.own 3 (by omega)).alloc (.cells #[.int .i64 s.num, .int .i64 s.wire, .int .u64 fn, .slice fA flen fcap] 42)) rfl (rd_at4 _ (.int .i64 s.num) (.int .i64 s.wire) (.int .u64 fn) (.slice fA flen fcap) _ _ (by simp)) (fcells_one _ _ _ _ _ _) (by unfold maxLen; (try simp only [List.length_append, List.length_singleton]); omega) (by (try simp only [List.length_append, List.length_singleton]); omega) (by have := X1.size; simp; omega) ?_; intro u2k w2k hown2 hg2 hat2; have E2 := F1.ext ((Ext.refl w1k).alloc (.cells #[.int .i64 s.num, .int .i64 s.wire, .int .u64 fn, .slice fA flen fcap] 42)); have F2 := E2.app3 (f := ⟨s.num, s.wire, fn, fA, flen, fcap, fb⟩) hg2 hat2 hown2 (own_ofl of1 (Ext.refl w1k |>.alloc _)); have bA2 := E2.blk (i := 3) (by omega) hg2 (g := wr.heap.size) (by simp) (bA1.alloc _); have bB2 := E2.blk (i := 3) (by omega) hg2 (g := wr.heap.size + 1) (by simp) (bB1.alloc _); have of2 := own_kept of1 ((Ext.refl w1k).alloc (.cells #[.int .i64 s.num, .int .i64 s.wire, .int .u64 fn, .slice fA flen fcap] 42)) (E2.own 3 (by omega)) hg2; have X2 : Ext w2 w2k := Below.app (X1.alloc _) hg2 (by have := X1.size; simp; omega) (E2.own 3 (by omega)) (Nat.le_refl _); have e02 := bA2.cell 0; have e12 := bA2.cell 1; have e22 := bA2.cell 2; have e32 := bA2.cell 3; have d02 := bB2.cell 0; have d12 := bB2.cell 1; have d22 := bB2.cell 2; have d32 := bB2.cell 3; simp only [List.getElem?_cons_zero, List.getElem?_cons_succ] at e02 e12 e22 e32 d02 d12 d22 d32; clear hown2 hg2 hat2 E2 e01 e11 e21 e31 d01 d11 d21 d31)
            | (at_builtin; refine wpList_app fieldsT (by omega) _ rfl rfl rfl ((show (w2k).ownsRow _ 42 4 u14 (z).length (rowOf (z)) from F2.own 2 (by omega)).alloc (.cells #[.int .i64 s.num, .int .i64 s.wire, .int .u64 fn, .slice fA flen fcap] 42)) rfl (rd_at4 _ (.int .i64 s.num) (.int .i64 s.wire) (.int .u64 fn) (.slice fA flen fcap) _ _ (by simp)) (fcells_one _ _ _ _ _ _) (by unfold maxLen; (try simp only [List.length_append, List.length_singleton]); omega) (by (try simp only [List.length_append, List.length_singleton]); omega) (by have := X2.size; simp; omega) ?_; intro u3k w3k hown3 hg3 hat3; have E3 := F2.ext ((Ext.refl w2k).alloc (.cells #[.int .i64 s.num, .int .i64 s.wire, .int .u64 fn, .slice fA flen fcap] 42)); have F3 := E3.app2 (f := ⟨s.num, s.wire, fn, fA, flen, fcap, fb⟩) hg3 hat3 hown3 (own_ofl of2 (Ext.refl w2k |>.alloc _)); have bA3 := E3.blk (i := 2) (by omega) hg3 (g := wr.heap.size) (by simp) (bA2.alloc _); have bB3 := E3.blk (i := 2) (by omega) hg3 (g := wr.heap.size + 1) (by simp) (bB2.alloc _); have of3 := own_kept of2 ((Ext.refl w2k).alloc (.cells #[.int .i64 s.num, .int .i64 s.wire, .int .u64 fn, .slice fA flen fcap] 42)) (E3.own 2 (by omega)) hg3; have X3 : Ext w2 w3k := Below.app (X2.alloc _) hg3 (by have := X2.size; simp; omega) (E3.own 2 (by omega)) (Nat.le_refl _); have e03 := bA3.cell 0; have e13 := bA3.cell 1; have e23 := bA3.cell 2; have e33 := bA3.cell 3; have d03 := bB3.cell 0; have d13 := bB3.cell 1; have d23 := bB3.cell 2; have d33 := bB3.cell 3; simp only [List.getElem?_cons_zero, List.getElem?_cons_succ] at e03 e13 e23 e33 d03 d13 d23 d33; clear hown3 hg3 hat3 E3 e02 e12 e22 e32 d02 d12 d22 d32)
            | (at_builtin; refine wpList_app fieldsT (by omega) _ rfl rfl rfl ((show (w3k).ownsRow _ 42 4 u13 (y).length (rowOf (y)) from F3.own 1 (by omega)).alloc (.cells #[.int .i64 s.num, .int .i64 s.wire, .int .u64 fn, .slice fA flen fcap] 42)) rfl (rd_at4 _ (.int .i64 s.num) (.int .i64 s.wire) (.int .u64 fn) (.slice fA flen fcap) _ _ (by simp)) (fcells_one _ _ _ _ _ _) (by unfold maxLen; (try simp only [List.length_append, List.length_singleton]); omega) (by (try simp only [List.length_append, List.length_singleton]); omega) (by have := X3.size; simp; omega) ?_; intro u4k w4k hown4 hg4 hat4; have E4 := F3.ext ((Ext.refl w3k).alloc (.cells #[.int .i64 s.num, .int .i64 s.wire, .int .u64 fn, .slice fA flen fcap] 42)); have F4 := E4.app1 (f := ⟨s.num, s.wire, fn, fA, flen, fcap, fb⟩) hg4 hat4 hown4 (own_ofl of3 (Ext.refl w3k |>.alloc _)); have bA4 := E4.blk (i := 1) (by omega) hg4 (g := wr.heap.size) (by simp) (bA3.alloc _); have bB4 := E4.blk (i := 1) (by omega) hg4 (g := wr.heap.size + 1) (by simp) (bB3.alloc _); have of4 := own_kept of3 ((Ext.refl w3k).alloc (.cells #[.int .i64 s.num, .int .i64 s.wire, .int .u64 fn, .slice fA flen fcap] 42)) (E4.own 1 (by omega)) hg4; have X4 : Ext w2 w4k := Below.app (X3.alloc _) hg4 (by have := X3.size; simp; omega) (E4.own 1 (by omega)) (Nat.le_refl _); have e04 := bA4.cell 0; have e14 := bA4.cell 1; have e24 := bA4.cell 2; have e34 := bA4.cell 3; have d04 := bB4.cell 0; have d14 := bB4.cell 1; have d24 := bB4.cell 2; have d34 := bB4.cell 3; simp only [List.getElem?_cons_zero, List.getElem?_cons_succ] at e04 e14 e24 e34 d04 d14 d24 d34; clear hown4 hg4 hat4 E4 e03 e13 e23 e33 d03 d13 d23 d33))
          --/B--
          go_roundw
          case rel => exact ⟨j + 1, _, _, _, _, val_int (by omega), by omega, F4.none_, by rw [HXn.out]; exact map_snoc HXs.out Hfs.out, by rw [HY2.out]; exact map_snoc HYs.out Hfs.out, by rw [HZ2.out]; exact map_snoc HZs.out Hfs.out, by rw [HU2.out]; exact map_snoc HUs.out Hfs.out, X4⟩
          case measure => simp [intOf]; omega
    · obtain rfl : N = j := by omega
      obtain ⟨r1, r2, r3, r4⟩ := rows_len_at L at_ N (by rw [HN.out]; exact Nat.le_refl _)
      have l1 : x.length ≤ 20 := by have := congrArg List.length HXs.out; simp only [List.length_map] at this; omega
      have l2 : y.length ≤ 20 := by have := congrArg List.length HYs.out; simp only [List.length_map] at this; omega
      have l3 : z.length ≤ 20 := by have := congrArg List.length HZs.out; simp only [List.length_map] at this; omega
      have l4 : u.length ≤ 20 := by have := congrArg List.length HUs.out; simp only [List.length_map] at this; omega
      clear r1 r2 r3 r4
      have hal : at_ < L.length := by rw [HN.out]; exact hat
      obtain ⟨bb, off, rfl, d0, d1, d2, d3, d4⟩ := (hSs.ext hx).at_ hat
      obtain ⟨k0, k1, k2, k3, k4⟩ := Hneeds.out at_ L[at_] (List.getElem?_eq_getElem hal)
      generalize L[at_] = s at *
      rw [← checkN_s HXs.out] at k0
      rw [← checkN_s HYs.out] at k1 k2
      rw [← checkN_s HZs.out] at k3
      rw [← checkN_s HUs.out] at k4
      have o0 : wr.ownsRow w2.heap.size 42 4 u12 x.length (rowOf x) := hfour.own 0 (by omega)
      have o1 : wr.ownsRow w2.heap.size 42 4 u13 y.length (rowOf y) := hfour.own 1 (by omega)
      have o2 : wr.ownsRow w2.heap.size 42 4 u14 z.length (rowOf z) := hfour.own 2 (by omega)
      have o3 : wr.ownsRow w2.heap.size 42 4 u15 u.length (rowOf u) := hfour.own 3 (by omega)
      have g0 : ∀ f ∈ x, f.Ok wr := fun f hf => (hfour.ok 0 (by omega) f hf).ok
      have g1 : ∀ f ∈ y, f.Ok wr := fun f hf => (hfour.ok 1 (by omega) f hf).ok
      have g2 : ∀ f ∈ z, f.Ok wr := fun f hf => (hfour.ok 2 (by omega) f hf).ok
      have g3 : ∀ f ∈ u, f.Ok wr := fun f hf => (hfour.ok 3 (by omega) f hf).ok
      obtain ⟨A0, c0, rfl, _⟩ := own_form o0
      obtain ⟨A1, c1, rfl, _⟩ := own_form o1
      obtain ⟨A2, c2, rfl, _⟩ := own_form o2
      obtain ⟨A3, c3, rfl, _⟩ := own_form o3
      have f0 : Fs wr A0 x.length x := Fs.of_own o0 g0
      have f1 : Fs wr A1 y.length y := Fs.of_own o1 g1
      have f2 : Fs wr A2 z.length z := Fs.of_own o2 g2
      have f3 : Fs wr A3 u.length u := Fs.of_own o3 g3
      have K0 := Lib.hid (fun (w' : World) (h : Ext wr w') => HC'.out A0 x.length c0 x w' (f0.ext h) (by omega))
      have K1 := Lib.hid (fun (w' : World) (h : Ext wr w') => HC'.out A1 y.length c1 y w' (f1.ext h) (by omega))
      have K2 := Lib.hid (fun (w' : World) (h : Ext wr w') => HC'.out A2 z.length c2 z w' (f2.ext h) (by omega))
      have K3 := Lib.hid (fun (w' : World) (h : Ext wr w') => HC'.out A3 u.length c3 u w' (f3.ext h) (by omega))
      rw [k0] at K0
      rw [k3] at K2
      generalize checkN L y = E1 at *
      generalize checkN L u = E3 at *
      have KK4 := Lib.hid k4
      have KK1 := Lib.hid k1
      have KK2 := Lib.hid k2
      clear k0 k1 k2 k3 k4 o0 o1 o2 o3 g0 g1 g2 g3 f0 f1 f2 f3 hfour HXs HYs HZs HUs HN hSs Hwire Hneeds HC'
      obtain ⟨num, wire, since, need, many⟩ := s
      dsimp only at d0 d1 d2 d3 d4 KK4 KK1 KK2
      have hxx := hx2.trans hx
      have hat0 : (0 : Int) ≤ at_ := by omega
      have hat1 : (at_ : Int) < N := by omega
      generalize x.length = n0 at *
      generalize y.length = n1 at *
      generalize z.length = n2 at *
      generalize u.length = n3 at *
      go_wp2_with fail
      refine (K3.out _ ((Ext.refl wr).alloc _)).mono ?_
      rintro e w3 ⟨rfl, x3⟩
      have hB := (Blk.new wr 60 [.int .i64 num, .int .i64 wire, .int .i64 since, .bool need, .bool many]).ext x3
      have e0 := hB.cell 0
      have e1 := hB.cell 1
      have e3 := hB.cell 3
      have e4 := hB.cell 4
      simp only [List.getElem?_cons_zero, List.getElem?_cons_succ] at e0 e1 e3 e4
      have x13 := ((Ext.refl wr).alloc (.cells #[.int .i64 num, .int .i64 wire, .int .i64 since, .bool need, .bool many] 60)).trans x3
      clear d0 d1 d2 d3 d4 hB x3 K3
      go_upto_region 29 with fail
      go_cut [21] (fun s21 wx => s21 = .bool true ∧ w3 = wx)
      case first =>
        rcases KK4.out with ⟨rfl, rfl⟩ | ⟨rfl, m1, m2⟩
        · clear KK4 KK1 KK2 K0 K1 K2
          go_wp2_with fail
          go_meet
          exact ⟨rfl, rfl⟩
        · rcases many with _ | _
          · have hb3 := beq_f (show ((E3 : Nat) : Int) ≠ 0 by have := m2 rfl; omega)
            clear KK4 KK1 KK2 K0 K1 K2 m1 m2
            go_wp2_with fail
            go_meet
            exact ⟨rfl, rfl⟩
          · obtain rfl := m1 rfl
            clear KK4 KK1 KK2 K0 K1 K2 m1 m2
            go_wp2_with fail
            go_meet
            exact ⟨rfl, rfl⟩
      case rest =>
        obtain ⟨rfl, rfl⟩ := hcut
        clear KK4 e0 e1 e4
        have xd : Ext wr w3.drew := x13.drew
        have hb1 : (need = false ∧ E1 = 0) ∨ (need = true ∧ E1 ≠ 0) := by
          rcases need with _ | _
          · exact .inl ⟨rfl, KK1.out rfl⟩
          · exact .inr ⟨rfl, KK2.out rfl⟩
        clear KK1 KK2
        rcases hb1 with ⟨rfl, rfl⟩ | ⟨rfl, h1⟩
        · go_wp2_with fail
          go_region_held3 (fun w' => w'.cell? ⟨wr.heap.size, 3, none⟩ = some (.bool false))
            (first | go_keep | (exact y10.cell (by assumption)) | (exact y9.cell (by assumption)) | (exact y8.cell (by assumption)))
            (first
              | (go_at_call 45; ((with_reducible refine (K0.out _ xd).mono ?_); rintro e w8 ⟨rfl, y8⟩))
              | (go_at_call 45; ((with_reducible refine (K1.out _ (xd.trans y8)).mono ?_); rintro e w9 ⟨rfl, y9⟩))
              | (go_at_call 45; ((with_reducible refine (K2.out _ ((xd.trans y8).trans y9)).mono ?_); rintro e w10 ⟨rfl, y10⟩)))
          go_wp2
          go_ret
          exact ⟨rfl, (((hxx.trans xd).trans y8).trans y9).trans y10⟩
        · have hb1 := beq_f (show ((E1 : Nat) : Int) ≠ 0 by omega)
          clear h1
          go_wp2_with fail
          go_region_held3 (fun w' => w'.cell? ⟨wr.heap.size, 3, none⟩ = some (.bool true))
            (first | go_keep | (exact y10.cell (by assumption)) | (exact y9.cell (by assumption)) | (exact y8.cell (by assumption)))
            (first
              | (go_at_call 45; ((with_reducible refine (K0.out _ xd).mono ?_); rintro e w8 ⟨rfl, y8⟩))
              | (go_at_call 45; ((with_reducible refine (K1.out _ (xd.trans y8)).mono ?_); rintro e w9 ⟨rfl, y9⟩))
              | (go_at_call 45; ((with_reducible refine (K2.out _ ((xd.trans y8).trans y9)).mono ?_); rintro e w10 ⟨rfl, y10⟩)))
          go_wp2
          go_ret
          exact ⟨rfl, (((hxx.trans xd).trans y8).trans y9).trans y10⟩
theorem law_FormNeeds_i (a b q : Int) (w : World) (ha0 : 0 ≤ a) (ha : a < 256) (hb0 : 0 ≤ b) (hb : b < 256) (hq0 : 0 ≤ q) (hq : q < 256) :
    Calls Try.prog 17 #[.int .u8 a, .int .u8 b, .int .u8 q] w fun e w' => e = .returned (.bool true) ∧ Ext w w' := by
  obtain ⟨a, rfl⟩ := Int.eq_ofNat_of_zero_le ha0
  obtain ⟨b, rfl⟩ := Int.eq_ofNat_of_zero_le hb0
  obtain ⟨q, rfl⟩ := Int.eq_ofNat_of_zero_le hq0
  exact law_FormNeeds a b q w (by omega) (by omega) (by omega)
end Go.Proofs.Ytjfohlnkdagjcaa
