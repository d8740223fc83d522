/- Words and walks that the last text of this claim stands on: In4. No condition. -/
import Derived.Test.YtiildgoaiookhaaGreatB21
import Derived.Test.YtiildgoaiookhaaGreatB24
import Derived.Test.YtiildgoaiookhaaGreatB25
import Derived.Test.YtiildgoaiookhaaGreatB22
/- The walk of coracleref10.Take. (Printed by wip/tools/imdoc.py.) -/
namespace Go.Proofs.YtiildgoaiookhaaGreat
open Go.RowKit

theorem rcode_k {v : Int} {b : List UInt8} (hv : inI v 1 3 = true) (h : rcode 5 v b ≠ 0) : rcode 5 v b = kcode v b ∧ (inI v 1 3 = false ∨ (ttrow b).2 ≠ 0 ∨ checkN (specL 5 v) (ttrow b).1 ≠ 0 ∨ kreadE v (ttrow b).1 ≠ 0) := by
  have hk : kcode v b = if (ttrow b).2 ≠ 0 then (ttrow b).2 else if checkN (specL 5 v) (ttrow b).1 ≠ 0 then checkN (specL 5 v) (ttrow b).1 else if kreadE v (ttrow b).1 ≠ 0 then kreadE v (ttrow b).1 else 6 := by
    unfold kcode
    rw [if_neg (by simp [hv])]
  rw [hk]
  unfold rcode at h ⊢
  by_cases h1 : (ttrow b).2 ≠ 0
  · rw [if_pos h1, if_pos h1]
    exact ⟨rfl, .inr (.inl h1)⟩
  · rw [if_neg h1] at h
    rw [if_neg h1, if_neg h1, if_pos h]
    exact ⟨rfl, .inr (.inr (.inl h))⟩
theorem rcode_z {k v : Int} {b : List UInt8} (h : rcode k v b = 0) : (ttrow b).2 = 0 ∧ checkN (specL k v) (ttrow b).1 = 0 := by
  unfold rcode at h
  by_cases h1 : (ttrow b).2 ≠ 0
  · rw [if_pos h1] at h; exact absurd h h1
  · rw [if_neg h1] at h
    exact ⟨by simpa using h1, h⟩
theorem ddat_le {l : List FV} {k : Int} {K : Nat} (h : ∀ f ∈ l, f.b.length ≤ K) : (ddat l k).length ≤ K := by
  unfold ddat
  cases hf : l.find? fun f => decide (f.num = k) with
  | none => exact Nat.zero_le _
  | some f => exact h f (List.mem_of_find?_eq_some hf)
theorem dsnp_rk {ver wire : Int} {nn fl fc : Nat} {fA : Option Addr} {fb : List UInt8} {s : KV} {x : XV} {y : NV} {z : WV} {xs : List FV} (h : x.sns.length = s.sns.length) (hq : y.nq = dsnp (xs.filter (loB (topN ver)))) (hz : z.l = xs.filter fun f => !loB (topN ver) f) (hs : xs.map FV.s = (ttrow fb).1.map FV.s) (A A' : Option Addr) (c c' : Nat) :
    dstep ver (s.rk x.more) ⟨6, wire, nn, fA, fl, fc, fb⟩ = (addSns s A c y).rk (addMore x A' c' z).more := by
  obtain ⟨g1, g2⟩ := s_filter hs (topN ver)
  unfold dstep
  rw [if_neg (by simp), if_neg (by simp), if_pos rfl, rk_sns h, rk_eq h, ← s_dsnp g1, ← hq, NV.nq_q, hz, g2]
theorem dnum_i64 (l : List FV) (k : Int) : I64 (dnum l k) := by
  unfold dnum
  cases (l.find? fun f => decide (f.num = k)) with
  | none => exact ⟨by decide, by decide⟩
  | some f =>
    show I64 ((min f.n 1048577 : Nat) : Int)
    exact ⟨by omega, by omega⟩
set_option maxRecDepth 100000 in
set_option maxHeartbeats 3200000 in
theorem ref10_Take_ver (ver : Int) (A : Option Addr) (n c : Nat) (b : List UInt8) (w : World) (hv : inI ver 1 3 = false) :
    Calls Tryz.prog 7 #[.slice A n c, .int .i64 ver] w (KTakePost ver b w) := by
  have HE : Hid (∀ (W : World) (e : Ending), KTakePost ver b w e W ↔ ∃ (s : KV) (x : XV) (code : Nat), e = .returned (.tuple #[s.val, x.val, .int .i64 code]) ∧ s.Ok W ∧ x.Ok W ∧ s.Few ∧ x.Few ∧ KTaken ver b s x.more x.top code ∧ Ext w W) := Lib.hid fun _ _ => Iff.rfl
  generalize KTakePost ver b w = POST at *
  have HKC : Hid (1 = kcode ver b) := Lib.hid (by unfold kcode; rw [if_pos hv])
  have HNO : Hid (∀ t m a, ¬ IsKat ver b t m a) := Lib.hid (fun t m a h => by
    have hk := kmay_parts h.may
    rw [inI_t hk.v1 hk.v3] at hv; cases hv)
  have hh : ver < 1 ∨ 3 < ver := by
    by_cases h1 : 1 ≤ ver
    · by_cases h3 : ver ≤ 3
      · rw [inI_t h1 h3] at hv; cases hv
      · omega
    · omega
  clear hv
  have hG4 := (Blk.new w 29 [.int .i64 0, .int .i64 0, .int .i64 0, .int .i64 0, .slice none 0 0, .slice none 0 0, .slice none 0 0]).alloc (.cells #[.slice none 0 0, .slice none 0 0] 33)
  have hG5 := Blk.new (w.alloc (.cells #[.int .i64 0, .int .i64 0, .int .i64 0, .int .i64 0, .slice none 0 0, .slice none 0 0, .slice none 0 0] 29)) 33 [.slice none 0 0, .slice none 0 0]
  have xw : Ext w ((w.alloc (.cells #[.int .i64 0, .int .i64 0, .int .i64 0, .int .i64 0, .slice none 0 0, .slice none 0 0, .slice none 0 0] 29)).alloc (.cells #[.slice none 0 0, .slice none 0 0] 33)) := ((Ext.refl w).alloc _).alloc _
  rw [show (w.alloc (.cells #[.int .i64 0, .int .i64 0, .int .i64 0, .int .i64 0, .slice none 0 0, .slice none 0 0, .slice none 0 0] 29)).heap.size = w.heap.size + 1 by simp] at hG5
  rcases hh with h | h
  · go_enter Tryz.func7, Tryz.ntmps7
    go_upto_region 1 with fail
    generalize ((w.alloc (.cells #[.int .i64 0, .int .i64 0, .int .i64 0, .int .i64 0, .slice none 0 0, .slice none 0 0, .slice none 0 0] 29)).alloc (.cells #[.slice none 0 0, .slice none 0 0] 33)) = W0 at *
    have g0 := hG4.cell 0
    have g1 := hG4.cell 1
    have g2 := hG4.cell 2
    have g3 := hG4.cell 3
    have g4 := hG4.cell 4
    have g5 := hG4.cell 5
    have g6 := hG4.cell 6
    simp only [List.getElem?_cons_zero, List.getElem?_cons_succ] at g0 g1 g2 g3 g4 g5 g6
    have p0 := hG4.frozen 0
    have p1 := hG4.frozen 1
    have p2 := hG4.frozen 2
    have p3 := hG4.frozen 3
    have p4 := hG4.frozen 4
    have p5 := hG4.frozen 5
    have p6 := hG4.frozen 6
    have k0 := hG5.cell 0
    have k1 := hG5.cell 1
    simp only [List.getElem?_cons_zero, List.getElem?_cons_succ] at k0 k1
    have q0 := hG5.frozen 0
    have q1 := hG5.frozen 1
    have HXZ := Lib.hid xw
    clear hG4 hG5
    go_wp2_with fail
    refine bodyPost_ret (v := .tuple #[.agg #[.int .i64 0, .int .i64 0, .int .i64 0, .int .i64 0, .slice none 0 0, .slice none 0 0, .slice none 0 0], .agg #[.slice none 0 0, .slice none 0 0], .int .i64 1]) (by simp [results, Tryz.results7, go_sem, g0, g1, g2, g3, g4, g5, g6, k0, k1]) rfl ?_
    refine (HE.out _ _).2 ⟨zeroK, noneX, 1, rfl, zeroK_ok _, noneX_ok _, zeroK_few, noneX_few, .inr ⟨by omega, HKC.out, rfl, rfl, rfl, rfl, rfl, rfl, rfl, rfl, rfl, HNO.out⟩, ?_⟩
    repeat (refine Ext.setCell ?_ (by simp) _)
    exact HXZ.out
  · have h' : ¬ ver < 1 := by omega
    go_enter Tryz.func7, Tryz.ntmps7
    go_upto_region 1 with fail
    generalize ((w.alloc (.cells #[.int .i64 0, .int .i64 0, .int .i64 0, .int .i64 0, .slice none 0 0, .slice none 0 0, .slice none 0 0] 29)).alloc (.cells #[.slice none 0 0, .slice none 0 0] 33)) = W0 at *
    have g0 := hG4.cell 0
    have g1 := hG4.cell 1
    have g2 := hG4.cell 2
    have g3 := hG4.cell 3
    have g4 := hG4.cell 4
    have g5 := hG4.cell 5
    have g6 := hG4.cell 6
    simp only [List.getElem?_cons_zero, List.getElem?_cons_succ] at g0 g1 g2 g3 g4 g5 g6
    have p0 := hG4.frozen 0
    have p1 := hG4.frozen 1
    have p2 := hG4.frozen 2
    have p3 := hG4.frozen 3
    have p4 := hG4.frozen 4
    have p5 := hG4.frozen 5
    have p6 := hG4.frozen 6
    have k0 := hG5.cell 0
    have k1 := hG5.cell 1
    simp only [List.getElem?_cons_zero, List.getElem?_cons_succ] at k0 k1
    have q0 := hG5.frozen 0
    have q1 := hG5.frozen 1
    have HXZ := Lib.hid xw
    clear hG4 hG5
    go_wp2_with fail
    refine bodyPost_ret (v := .tuple #[.agg #[.int .i64 0, .int .i64 0, .int .i64 0, .int .i64 0, .slice none 0 0, .slice none 0 0, .slice none 0 0], .agg #[.slice none 0 0, .slice none 0 0], .int .i64 1]) (by simp [results, Tryz.results7, go_sem, g0, g1, g2, g3, g4, g5, g6, k0, k1]) rfl ?_
    refine (HE.out _ _).2 ⟨zeroK, noneX, 1, rfl, zeroK_ok _, noneX_ok _, zeroK_few, noneX_few, .inr ⟨by omega, HKC.out, rfl, rfl, rfl, rfl, rfl, rfl, rfl, rfl, rfl, HNO.out⟩, ?_⟩
    repeat (refine Ext.setCell ?_ (by simp) _)
    exact HXZ.out

set_option maxRecDepth 100000 in
set_option maxHeartbeats 20000000 in
theorem ref10_Take_in (ver : Int) (A : Option Addr) (n c : Nat) (b : List UInt8) (w : World) (hb : Bs w A n b) (hn : n ≤ 100000) (hnc : n ≤ c) (hv : inI ver 1 3 = true) :
    Calls Tryz.prog 7 #[.slice A n c, .int .i64 ver] w (KTakePost ver b w) := by
  have HE : Hid (∀ (W : World) (e : Ending), KTakePost ver b w e W ↔ ∃ (s : KV) (x : XV) (code : Nat), e = .returned (.tuple #[s.val, x.val, .int .i64 code]) ∧ s.Ok W ∧ x.Ok W ∧ s.Few ∧ x.Few ∧ KTaken ver b s x.more x.top code ∧ Ext w W) := Lib.hid fun _ _ => Iff.rfl
  generalize KTakePost ver b w = POST at *
  obtain ⟨hv1, hv3⟩ := inI_iff.1 hv
  have HIN := Lib.hid hv
  have HRC := Lib.hid (fun (W : World) (h : Ext w W) => ref10_record 5 ver A n c b W (hb.ext h) hn hnc)
  unfold RecPost at HRC
  have HC1 : Hid (rcode 5 ver b ≠ 0 → rcode 5 ver b = kcode ver b ∧ (inI ver 1 3 = false ∨ (ttrow b).2 ≠ 0 ∨ checkN (specL 5 ver) (ttrow b).1 ≠ 0 ∨ kreadE ver (ttrow b).1 ≠ 0)) := Lib.hid (rcode_k hv)
  have HC2 : Hid (rcode 5 ver b = 0 → (ttrow b).2 = 0 ∧ checkN (specL 5 ver) (ttrow b).1 = 0) := Lib.hid rcode_z
  generalize rcode 5 ver b = rc at *
  have HB := Lib.hid hb
  clear hb hv
  have hG4 := (Blk.new w 29 [.int .i64 0, .int .i64 0, .int .i64 0, .int .i64 0, .slice none 0 0, .slice none 0 0, .slice none 0 0]).alloc (.cells #[.slice none 0 0, .slice none 0 0] 33)
  have hG5 := Blk.new (w.alloc (.cells #[.int .i64 0, .int .i64 0, .int .i64 0, .int .i64 0, .slice none 0 0, .slice none 0 0, .slice none 0 0] 29)) 33 [.slice none 0 0, .slice none 0 0]
  have xw : Ext w ((w.alloc (.cells #[.int .i64 0, .int .i64 0, .int .i64 0, .int .i64 0, .slice none 0 0, .slice none 0 0, .slice none 0 0] 29)).alloc (.cells #[.slice none 0 0, .slice none 0 0] 33)) := ((Ext.refl w).alloc _).alloc _
  rw [show (w.alloc (.cells #[.int .i64 0, .int .i64 0, .int .i64 0, .int .i64 0, .slice none 0 0, .slice none 0 0, .slice none 0 0] 29)).heap.size = w.heap.size + 1 by simp] at hG5
  have h1' : ¬ ver < 1 := by omega
  have h3' : ¬ 3 < ver := by omega
  go_enter Tryz.func7, Tryz.ntmps7
  go_upto_region 1 with fail
  generalize (w.alloc (.cells #[.int .i64 0, .int .i64 0, .int .i64 0, .int .i64 0, .slice none 0 0, .slice none 0 0, .slice none 0 0] 29)).alloc (.cells #[.slice none 0 0, .slice none 0 0] 33) = W0 at *
  go_wp2_with fail
  clear h1' h3'
  refine (HRC.out _ xw).mono ?_
  rintro e w1 ⟨A1, n1, c1, ms, rfl, hms, hnl, hss, x1⟩
  replace hG4 := hG4.ext x1
  replace hG5 := hG5.ext x1
  have hbase : w.heap.size ≤ W0.heap.size := xw.size
  replace xw := xw.trans x1
  clear HRC x1
  by_cases her : rc = 0
  case neg =>
    have hcb := beq_f (show ((rc : Nat) : Int) ≠ 0 by omega)
    have hcb2 := bne_t (show ((rc : Nat) : Int) ≠ 0 by omega)
    have HC0 := Lib.hid her
    have HCD := Lib.hid (HC1.out her)
    clear her HC1 hms hss hnl
    have g0 := hG4.cell 0
    have g1 := hG4.cell 1
    have g2 := hG4.cell 2
    have g3 := hG4.cell 3
    have g4 := hG4.cell 4
    have g5 := hG4.cell 5
    have g6 := hG4.cell 6
    simp only [List.getElem?_cons_zero, List.getElem?_cons_succ] at g0 g1 g2 g3 g4 g5 g6
    have p0 := hG4.frozen 0
    have p1 := hG4.frozen 1
    have p2 := hG4.frozen 2
    have p3 := hG4.frozen 3
    have p4 := hG4.frozen 4
    have p5 := hG4.frozen 5
    have p6 := hG4.frozen 6
    have k0 := hG5.cell 0
    have k1 := hG5.cell 1
    simp only [List.getElem?_cons_zero, List.getElem?_cons_succ] at k0 k1
    have q0 := hG5.frozen 0
    have q1 := hG5.frozen 1
    have HXZ := Lib.hid xw
    clear hG4 hG5
    go_wp2_with fail
    refine bodyPost_ret (v := .tuple #[.agg #[.int .i64 0, .int .i64 0, .int .i64 0, .int .i64 0, .slice none 0 0, .slice none 0 0, .slice none 0 0], .agg #[.slice none 0 0, .slice none 0 0], .int .i64 rc]) (by simp [results, Tryz.results7, go_sem, g0, g1, g2, g3, g4, g5, g6, k0, k1]) rfl ?_
    refine (HE.out _ _).2 ⟨zeroK, noneX, rc, rfl, zeroK_ok _, noneX_ok _, zeroK_few, noneX_few, dtaken_err HC0.out HCD.out.1 HCD.out.2 ⟨rfl, rfl, rfl, rfl, rfl, rfl, rfl, rfl, rfl⟩, ?_⟩
    repeat (refine Ext.setCell ?_ (by simp) _)
    exact HXZ.out
  case pos =>
    subst her
    subst hnl
    have HSS := Lib.hid (hss rfl)
    have HMS := Lib.hid (hms.to hbase)
    clear hms hss hbase HC1
    obtain ⟨hz1, hz2⟩ := HC2.out rfl
    have HZ1 := Lib.hid hz1
    have HZ2 := Lib.hid hz2
    obtain ⟨hml, hmf⟩ := ttrow_many (b := b) hz1 (ms := ms) HSS.out
    have HMF := Lib.hid hmf
    have HN1 := Lib.hid (fun (W : World) (h : Ext w1 W) => ref10_number A1 ms.length c1 ms 1 W ((HMS.out.fs rfl).ext h) (by omega))
    have HN2 := Lib.hid (fun (W : World) (h : Ext w1 W) => ref10_number A1 ms.length c1 ms 2 W ((HMS.out.fs rfl).ext h) (by omega))
    have HN3 := Lib.hid (fun (W : World) (h : Ext w1 W) => ref10_number A1 ms.length c1 ms 3 W ((HMS.out.fs rfl).ext h) (by omega))
    have HI1 := Lib.hid (dnum_i64 ms 1)
    have HI2 := Lib.hid (dnum_i64 ms 2)
    have HI3 := Lib.hid (dnum_i64 ms 3)
    have HDZ : Hid (dzero ms = KV.rk ⟨dnum ms 1, dnum ms 2, dnum ms 3, 0, none, 0, 0, [], none, 0, 0, [], none, 0, 0, []⟩ []) := Lib.hid rfl
    generalize dnum ms 1 = d1 at *
    generalize dnum ms 2 = d2 at *
    generalize dnum ms 3 = d3 at *
    clear hz1 hz2 hmf HC2
    have x1r := Ext.refl w1
    go_wp2_with fail
    refine (HN1.out _ x1r).mono ?_
    rintro e w2 ⟨rfl, x2⟩
    go_wp2_with fail
    refine (HN2.out _ x2).mono ?_
    rintro e w3 ⟨rfl, x3⟩
    replace x3 := x2.trans x3
    go_wp2_with fail
    refine (HN3.out _ x3).mono ?_
    rintro e w4 ⟨rfl, x4⟩
    replace x4 := x3.trans x4
    replace hG4 := hG4.ext x4
    replace hG5 := hG5.ext x4
    replace xw := xw.trans x4
    replace HMS := Lib.hid (HMS.out.ext x4)
    clear HN1 HN2 HN3 x1r x2 x3 x4
    go_upto_region 8 with fail
    have hg5 := hG5.lt
    have hS := (Blk.new w4 29 [.int .i64 d1, .int .i64 d2, .int .i64 d3, .int .i64 0, .slice none 0 0, .slice none 0 0, .slice none 0 0]).alloc (.cells #[.slice none 0 0, .slice none 0 0] 33)
    have hR := Blk.new (w4.alloc (.cells #[.int .i64 d1, .int .i64 d2, .int .i64 d3, .int .i64 0, .slice none 0 0, .slice none 0 0, .slice none 0 0] 29)) 33 [.slice none 0 0, .slice none 0 0]
    rw [show (w4.alloc (.cells #[.int .i64 d1, .int .i64 d2, .int .i64 d3, .int .i64 0, .slice none 0 0, .slice none 0 0, .slice none 0 0] 29)).heap.size = w4.heap.size + 1 by simp] at hR
    have x5 : Ext w4 ((w4.alloc (.cells #[.int .i64 d1, .int .i64 d2, .int .i64 d3, .int .i64 0, .slice none 0 0, .slice none 0 0, .slice none 0 0] 29)).alloc (.cells #[.slice none 0 0, .slice none 0 0] 33)) := ((Ext.refl w4).alloc _).alloc _
    generalize (w4.alloc (.cells #[.int .i64 d1, .int .i64 d2, .int .i64 d3, .int .i64 0, .slice none 0 0, .slice none 0 0, .slice none 0 0] 29)).alloc (.cells #[.slice none 0 0, .slice none 0 0] 33) = W5 at *
    replace hG4 := hG4.ext x5
    replace hG5 := hG5.ext x5
    replace xw := xw.trans x5
    replace HMS := Lib.hid (HMS.out.ext x5)
    generalize w4.heap.size = g at *
    have HG4 := Lib.hid hG4
    have HG5 := Lib.hid hG5
    have HRD : Hid (RD w W5 g (g + 1) ⟨d1, d2, d3, 0, none, 0, 0, [], none, 0, 0, [], none, 0, 0, []⟩ noneX) := Lib.hid ⟨hS, hR, ⟨HI1.out, HI2.out, HI3.out, show I64 0 from ⟨by decide, by decide⟩, World.ownsRow_nil _ _ _ _, World.ownsRow_nil _ _ _ _, World.ownsRow_nil _ _ _ _, by simp, by simp, by simp⟩, ⟨⟨World.ownsRow_nil _ _ _ _, by simp [noneX]⟩, rfl, World.ownsRow_nil _ _ _ _, by simp [noneX]⟩, by omega, by omega, by omega, xw, rfl⟩
    clear hG4 hG5 hS hR x5 xw HI1 HI2 HI3
    have HES := Lib.hid (kreadE_snoc ver ms)
    have HEB := Lib.hid (kreadE_bad ver ms)
    have HDS := Lib.hid (dread_snoc ver (dzero ms) ms)
    go_wp2_with fail
    go_loopw [11] (fun i wr => ∃ j : Nat, i = .int .i64 j ∧ j ≤ ms.length ∧ (∃ (s : KV) (x : XV), RD w wr g (g + 1) s x ∧ DFr (w.heap.size + 2) W5 wr ∧ Hid ((ms.take j).foldl (dstep ver) (dzero ms) = s.rk x.more) ∧ (s.n1 ≤ j ∧ s.n2 ≤ j ∧ s.n3 ≤ j ∧ x.n2 ≤ j) ∧ Hid (x.top = [] ∧ x.n1 = 0 ∧ x.A1 = none ∧ x.c1 = 0) ∧ Hid ((∀ y ∈ x.sns, y.len ≤ 17000) ∧ ∀ y ∈ s.sns, y.len ≤ 17000)) ∧ Hid (kreadE ver (ms.take j) = 0)) (fun i _ => ms.length - (intOf i).toNat)
    case atStart => exact ⟨0, rfl, by omega, ⟨_, _, HRD.out, DFr.refl _ _, Lib.hid (by rw [List.take_zero, List.foldl_nil]; exact HDZ.out), ⟨Nat.le_refl _, Nat.le_refl _, Nat.le_refl _, Nat.le_refl _⟩, Lib.hid ⟨rfl, rfl, rfl, rfl⟩, Lib.hid ⟨by simp [noneX], by simp⟩⟩, Lib.hid rfl⟩
    case round =>
      clear HRD HDZ
      obtain ⟨j, rfl, hj, ⟨s, x, hrd, hdf, HFD, ⟨k1, k2, k3, k4⟩, HTOP, HLN⟩, HKE⟩ := hrel
      by_cases hjn : j < ms.length
      · have hfs := (HMS.out.dfr hdf).fs rfl
        obtain ⟨bb, off, rfl, e0, e1, e2, e3⟩ := hfs.at_ hjn
        have hfo := hfs.ok ms[j] (List.getElem_mem _)
        have hfl := HMF.out ms[j] (List.getElem_mem _)
        have Hds := Lib.hid (HDS.out j hjn)
        have Hes := Lib.hid (HES.out j hjn HKE.out)
        have Heb := Lib.hid (HEB.out j hjn HKE.out)
        have HRW := Lib.hid hrd
        have HDW := Lib.hid hdf
        generalize ms[j] = f at *
        have hj0 : (0 : Int) ≤ j := by omega
        have hj1 : (j : Int) < ms.length := by omega
        have hbs := hfo.bs
        have hle := hfo.le
        obtain ⟨num, wire, nn, fA, fl, fc, fb⟩ := f
        dsimp only at e0 e1 e2 e3 hbs hle hfl
        have hx6 : Ext wr (wr.alloc (.cells #[.int .i64 num, .int .i64 wire, .int .u64 nn, .slice fA fl fc] 54)) := (Ext.refl wr).alloc _
        have HX6 := Lib.hid hx6
        clear hfs hfo hrd hdf hx6
        by_cases h4 : num < 4
        · have h4' : ¬ 4 ≤ num := by omega
          have HNO : Hid (num < 4 ∨ 6 < num) := Lib.hid (.inl h4)
          have HR0 : Hid (recCode ver ⟨num, wire, nn, fA, fl, fc, fb⟩ = 0) := Lib.hid (by unfold recCode; dsimp only; rw [if_neg (by omega), if_neg (by omega), if_neg (by omega)])
          clear h4 hbs hle hfl
          go_wp2_with fail
          go_roundw
          case rel => exact ⟨j + 1, val_int (by omega), by omega, ⟨s, x, HRW.out.to HX6.out, HDW.out.trans (DFr.of_ext HX6.out), Lib.hid (by rw [Hds.out, dstep_no HNO.out]; exact HFD.out), ⟨by omega, by omega, by omega, by omega⟩, HTOP, HLN⟩, Lib.hid (by rw [Hes.out]; exact HR0.out)⟩
          case measure => simp [intOf]; omega
        by_cases h6 : 6 < num
        · have h6' : ¬ num ≤ 6 := by omega
          have h4' : 4 ≤ num := by omega
          have HNO : Hid (num < 4 ∨ 6 < num) := Lib.hid (.inr h6)
          have HR0 : Hid (recCode ver ⟨num, wire, nn, fA, fl, fc, fb⟩ = 0) := Lib.hid (by unfold recCode; dsimp only; rw [if_neg (by omega), if_neg (by omega), if_neg (by omega)])
          clear h4 h6 hbs hle hfl
          go_wp2_with fail
          go_roundw
          case rel => exact ⟨j + 1, val_int (by omega), by omega, ⟨s, x, HRW.out.to HX6.out, HDW.out.trans (DFr.of_ext HX6.out), Lib.hid (by rw [Hds.out, dstep_no HNO.out]; exact HFD.out), ⟨by omega, by omega, by omega, by omega⟩, HTOP, HLN⟩, Lib.hid (by rw [Hes.out]; exact HR0.out)⟩
          case measure => simp [intOf]; omega
        have HRF := Lib.hid (fun (kd : Int) (W : World) (h : Ext wr W) => ref10_record kd ver fA fl fc fb W (hbs.ext h) (by omega) hle)
        unfold RecPost at HRF
        clear hbs
        by_cases n4 : num = 4
        · subst n4
          have HRCD : Hid (recCode ver ⟨4, wire, nn, fA, fl, fc, fb⟩ = rcode 4 ver fb) := Lib.hid (by unfold recCode; simp)
          clear h4 h6
          go_upto_region 14 with fail
          have hF := (Blk.new wr 54 [.int .i64 4, .int .i64 wire, .int .u64 nn, .slice fA fl fc]).alloc (.cells #[.int .i64 4, .int .i64 3, .int .i64 2] 3)
          have hK := Blk.new (wr.alloc (.cells #[.int .i64 4, .int .i64 wire, .int .u64 nn, .slice fA fl fc] 54)) 3 [.int .i64 4, .int .i64 3, .int .i64 2]
          rw [show (wr.alloc (.cells #[.int .i64 4, .int .i64 wire, .int .u64 nn, .slice fA fl fc] 54)).heap.size = wr.heap.size + 1 by simp] at hK
          have hx7 : Ext wr ((wr.alloc (.cells #[.int .i64 4, .int .i64 wire, .int .u64 nn, .slice fA fl fc] 54)).alloc (.cells #[.int .i64 4, .int .i64 3, .int .i64 2] 3)) := ((Ext.refl wr).alloc _).alloc _
          generalize (wr.alloc (.cells #[.int .i64 4, .int .i64 wire, .int .u64 nn, .slice fA fl fc] 54)).alloc (.cells #[.int .i64 4, .int .i64 3, .int .i64 2] 3) = W6 at *
          generalize wr.heap.size = gf at *
          have f0 := hF.cell 0
          have f3 := hF.cell 3
          have m0 := hK.cell 0
          simp only [List.getElem?_cons_zero, List.getElem?_cons_succ] at f0 f3 m0
          have HX7 := Lib.hid hx7
          have HF := Lib.hid hF
          clear hF hK hx7 HX6
          have hw0 : IntKind.i64.wrap 0 = 0 := by decide
          go_region_held3 (fun w' => w'.cell? ⟨gf, 3, none⟩ = some (.slice fA fl fc) ∧ w'.cell? ⟨gf, 0, none⟩ = some (.int .i64 4) ∧ w'.cell? ⟨gf + 1, 0, none⟩ = some (.int .i64 4))
            (first | exact ⟨y1.cell f3, y1.cell f0, y1.cell m0⟩ | go_keep)
            (first | (go_at_call 18; refine (HRF.out 4 _ (by first | exact HX7.out.drew | exact HX7.out)).mono ?_; rintro e w7 ⟨Ax, nx, cx, xs, rfl, hR, hxl, hxs, y1⟩))
          clear hw0
          have hG4 := (((HG4.out.dfs (by decide) (by omega) HDW.out).ext HX7.out).drew).ext y1
          have hG5 := (((HG5.out.dfs (by decide) (by omega) HDW.out).ext HX7.out).drew).ext y1
          have xw7 := ((HRW.out.ext.trans HX7.out).drew).trans y1
          have HC1 : Hid (rcode 4 ver fb ≠ 0 → rcode 4 ver fb = kcode ver b ∧ kreadE ver (ttrow b).1 ≠ 0) := Lib.hid (by
            intro h
            have e1 : kreadE ver (ttrow b).1 = rcode 4 ver fb := by rw [← s_kreadE HSS.out]; exact Heb.out h
            refine ⟨?_, by rw [e1]; exact h⟩
            unfold kcode
            rw [if_neg (by simp [HIN.out]), if_neg (by simp [HZ1.out]), if_neg (by simp [HZ2.out]), e1, if_pos h])
          have HC2 : Hid (rcode 4 ver fb = 0 → (ttrow fb).2 = 0) := Lib.hid (fun h => (rcode_z h).1)
          generalize rcode 4 ver fb = rc at *
          by_cases her : rc = 0
          case neg =>
            have hcb := beq_f (show ((rc : Nat) : Int) ≠ 0 by omega)
            have hcb2 := bne_t (show ((rc : Nat) : Int) ≠ 0 by omega)
            have HC0 := Lib.hid her
            have HCD := Lib.hid (HC1.out her)
            clear her HC1 HC2 hR hxl hxs f0 f3 m0 e0 e1 e2 e3 y1
            have g0 := hG4.cell 0
            have g1 := hG4.cell 1
            have g2 := hG4.cell 2
            have g3 := hG4.cell 3
            have g4 := hG4.cell 4
            have g5 := hG4.cell 5
            have g6 := hG4.cell 6
            simp only [List.getElem?_cons_zero, List.getElem?_cons_succ] at g0 g1 g2 g3 g4 g5 g6
            have p0 := hG4.frozen 0
            have p1 := hG4.frozen 1
            have p2 := hG4.frozen 2
            have p3 := hG4.frozen 3
            have p4 := hG4.frozen 4
            have p5 := hG4.frozen 5
            have p6 := hG4.frozen 6
            have k0 := hG5.cell 0
            have k1 := hG5.cell 1
            simp only [List.getElem?_cons_zero, List.getElem?_cons_succ] at k0 k1
            have q0 := hG5.frozen 0
            have q1 := hG5.frozen 1
            have HXZ := Lib.hid xw7
            clear hG4 hG5
            go_wp2_with fail
            refine bodyPost_ret (v := .tuple #[.agg #[.int .i64 0, .int .i64 0, .int .i64 0, .int .i64 0, .slice none 0 0, .slice none 0 0, .slice none 0 0], .agg #[.slice none 0 0, .slice none 0 0], .int .i64 rc]) (by simp [results, Tryz.results7, go_sem, g0, g1, g2, g3, g4, g5, g6, k0, k1]) rfl ?_
            refine (HE.out _ _).2 ⟨zeroK, noneX, rc, rfl, zeroK_ok _, noneX_ok _, zeroK_few, noneX_few, dtaken_err HC0.out HCD.out.1 (.inr (.inr (.inr HCD.out.2))) ⟨rfl, rfl, rfl, rfl, rfl, rfl, rfl, rfl, rfl⟩, ?_⟩
            repeat (refine Ext.setCell ?_ (by simp) _)
            exact HXZ.out
          case pos =>
            subst her
            subst hxl
            have HXS := Lib.hid (hxs rfl)
            obtain ⟨hxm, _⟩ := ttrow_many (b := fb) (HC2.out rfl) (ms := xs) HXS.out
            have HD : Hid (∀ A c, dstep ver (s.rk x.more) ⟨4, wire, nn, fA, fl, fc, fb⟩ = (Go.Proofs.YtiildgoaiookhaaGreat.addSes s A c (dses xs)).rk x.more) := Lib.hid (fun A c => by
              unfold dstep
              rw [if_pos rfl]
              dsimp only
              rw [← s_dses HXS.out]
              rfl)
            have HI : Hid (I64 (dses xs).client ∧ I64 (dses xs).seq ∧ I64 (dses xs).code ∧ I64 (dses xs).n) := Lib.hid ⟨dnum_i64 xs 1, dnum_i64 xs 2, dnum_i64 xs 3, dnum_i64 xs 4⟩
            have HRX := Lib.hid hR
            have HN1 : Hid (∀ (W : World), Ext w7 W → Calls Tryz.prog 19 #[.slice Ax xs.length cx, .int .i64 1] W fun e w' => e = .returned (.int .i64 (dses xs).client) ∧ Ext W w') := Lib.hid (fun W h => ref10_number Ax xs.length cx xs 1 W ((HRX.out.fs rfl).ext h) (by omega))
            have HN2 : Hid (∀ (W : World), Ext w7 W → Calls Tryz.prog 19 #[.slice Ax xs.length cx, .int .i64 2] W fun e w' => e = .returned (.int .i64 (dses xs).seq) ∧ Ext W w') := Lib.hid (fun W h => ref10_number Ax xs.length cx xs 2 W ((HRX.out.fs rfl).ext h) (by omega))
            have HN3 : Hid (∀ (W : World), Ext w7 W → Calls Tryz.prog 19 #[.slice Ax xs.length cx, .int .i64 3] W fun e w' => e = .returned (.int .i64 (dses xs).code) ∧ Ext W w') := Lib.hid (fun W h => ref10_number Ax xs.length cx xs 3 W ((HRX.out.fs rfl).ext h) (by omega))
            have HN4 : Hid (∀ (W : World), Ext w7 W → Calls Tryz.prog 19 #[.slice Ax xs.length cx, .int .i64 4] W fun e w' => e = .returned (.int .i64 (dses xs).n) ∧ Ext W w') := Lib.hid (fun W h => ref10_number Ax xs.length cx xs 4 W ((HRX.out.fs rfl).ext h) (by omega))
            have HE2 : Hid (kreadE ver (List.take (j + 1) ms) = 0) := Lib.hid (Hes.out.trans HRCD.out)
            have hx7 := (HX7.out.drew).trans y1
            have hrd7 := HRW.out.to hx7
            have HRD7 := Lib.hid hrd7
            have HDF7 := Lib.hid (HDW.out.trans (DFr.of_ext hx7))
            have hF7 := HF.out.drew.ext y1
            have HF7 := Lib.hid hF7
            have hszr := hrd7.ext.size
            have hgg : g < w7.heap.size := hrd7.bs.lt
            clear f0 f3 m0 e0 e1 e2 e3 hR hxs hG4 hG5 xw7 HXS HRX HRCD Hes Heb HC1 HC2 HRF HRW HDW HX7 HF
            have f0 := hF7.cell 0
            have o4 := hrd7.bs.cell 4
            simp only [List.getElem?_cons_zero, List.getElem?_cons_succ] at f0 o4
            clear hx7 hrd7 hF7 y1
            generalize dses xs = X at *
            go_upto_region 18 with fail
            clear f0
            have HS : Hid (∀ V : World, Ext w7 V → V.cell? ⟨g, 4, none⟩ = some (.slice s.A1 s.n1 s.c1)) := Lib.hid fun V h => h.cell o4
            refine WT.start (z := 15) (n := 16) rfl (fun V => V.cell? ⟨g, 4, none⟩ = some (.slice s.A1 s.n1 s.c1)) (by kernel_rfl) (HS.out _ (Ext.refl w7).drew) ?_
            simp only [List.replicate]
            refine WT.take (i := 0) (v := ?_) rfl (by kernel_rfl) (by kernel_rfl) (by kernel_rfl) (by rfl) (by kernel_rfl) (fun _ _ _ h => h) (Or.inl ⟨by rfl, ?_⟩) ?_
            rotate_left
            · intro w hSw
              (try dsimp only at hSw)
              go_simp
              try with_reducible rfl
            try simp only [Act.put, List.setIfInBounds_toArray, List.set_cons_zero, List.set_cons_succ]
            refine WT.take (i := 1) (v := ?_) rfl (by kernel_rfl) (by kernel_rfl) (by kernel_rfl) (by rfl) (by kernel_rfl) (fun _ _ _ h => h) (Or.inl ⟨by rfl, ?_⟩) ?_
            rotate_left
            · intro w hSw
              (try dsimp only at hSw)
              go_simp
              try with_reducible rfl
            try simp only [Act.put, List.setIfInBounds_toArray, List.set_cons_zero, List.set_cons_succ]
            refine WT.take (i := 2) (v := ?_) rfl (by kernel_rfl) (by kernel_rfl) (by kernel_rfl) (by rfl) (by kernel_rfl) (fun _ _ _ h => h) (Or.inl ⟨by rfl, ?_⟩) ?_
            rotate_left
            · intro w hSw
              (try dsimp only at hSw)
              go_simp
              try with_reducible rfl
            try simp only [Act.put, List.setIfInBounds_toArray, List.set_cons_zero, List.set_cons_succ]
            refine WT.take (i := 4) (v := ?_) rfl (by kernel_rfl) (by kernel_rfl) (by kernel_rfl) (by rfl) (by kernel_rfl) (fun _ _ _ h => h) (Or.inl ⟨by rfl, ?_⟩) ?_
            rotate_left
            · intro w hSw
              (try dsimp only at hSw)
              go_simp
              try with_reducible rfl
            try simp only [Act.put, List.setIfInBounds_toArray, List.set_cons_zero, List.set_cons_succ]
            refine WT.take (i := 6) (v := ?_) rfl (by kernel_rfl) (by kernel_rfl) (by kernel_rfl) (by rfl) (by kernel_rfl) (fun _ _ _ h => h) (Or.inl ⟨by rfl, ?_⟩) ?_
            rotate_left
            · intro w hSw
              (try dsimp only at hSw)
              go_simp
              try with_reducible rfl
            try simp only [Act.put, List.setIfInBounds_toArray, List.set_cons_zero, List.set_cons_succ]
            refine WT.take (i := 8) (v := ?_) rfl (by kernel_rfl) (by kernel_rfl) (by kernel_rfl) (by rfl) (by kernel_rfl) (fun _ _ _ h => h) (Or.inl ⟨by rfl, ?_⟩) ?_
            rotate_left
            · intro w hSw
              (try dsimp only at hSw)
              go_simp
              try with_reducible rfl
            try simp only [Act.put, List.setIfInBounds_toArray, List.set_cons_zero, List.set_cons_succ]
            refine WT.ready (rs := [3]) (by kernel_rfl) (by simp) ?_
            refine RTz.cons rfl (by rfl) (fun K hK => ?_) RTz.nil
            go_simp
            go_at_call 19
            refine (HN1.out _ (Ext.refl w7).drew).mono ?_
            rintro e v1 ⟨rfl, z1'⟩
            have z1 : Ext w7 v1 := ((Ext.refl w7).drew).trans z1'
            clear z1'
            refine hK.out _ _ (by exact HS.out _ z1) ?_
            clear hK K
            try simp only [Act.put, List.setIfInBounds_toArray, List.set_cons_zero, List.set_cons_succ]
            refine WT.ready (rs := [5]) (by kernel_rfl) (by simp) ?_
            refine RTz.cons rfl (by rfl) (fun K hK => ?_) RTz.nil
            go_simp
            go_at_call 19
            refine (HN2.out _ z1).mono ?_
            rintro e v2 ⟨rfl, z2'⟩
            have z2 : Ext w7 v2 := (z1).trans z2'
            clear z2'
            refine hK.out _ _ (by exact HS.out _ z2) ?_
            clear hK K
            try simp only [Act.put, List.setIfInBounds_toArray, List.set_cons_zero, List.set_cons_succ]
            refine WT.ready (rs := [7]) (by kernel_rfl) (by simp) ?_
            refine RTz.cons rfl (by rfl) (fun K hK => ?_) RTz.nil
            go_simp
            go_at_call 19
            refine (HN3.out _ z2).mono ?_
            rintro e v3 ⟨rfl, z3'⟩
            have z3 : Ext w7 v3 := (z2).trans z3'
            clear z3'
            refine hK.out _ _ (by exact HS.out _ z3) ?_
            clear hK K
            try simp only [Act.put, List.setIfInBounds_toArray, List.set_cons_zero, List.set_cons_succ]
            refine WT.ready (rs := [9]) (by kernel_rfl) (by simp) ?_
            refine RTz.cons rfl (by rfl) (fun K hK => ?_) RTz.nil
            go_simp
            go_at_call 19
            refine (HN4.out _ z3).mono ?_
            rintro e v4 ⟨rfl, z4'⟩
            have z4 : Ext w7 v4 := (z3).trans z4'
            clear z4'
            refine hK.out _ _ (by exact HS.out _ z4) ?_
            clear hK K
            try simp only [Act.put, List.setIfInBounds_toArray, List.set_cons_zero, List.set_cons_succ]
            refine WT.take (i := 10) (v := ?_) rfl (by kernel_rfl) (by kernel_rfl) (by kernel_rfl) (by rfl) (by kernel_rfl) (fun _ _ _ h => h) (Or.inl ⟨by rfl, ?_⟩) ?_
            rotate_left
            · intro w hSw
              (try dsimp only at hSw)
              go_simp
              try with_reducible rfl
            try simp only [Act.put, List.setIfInBounds_toArray, List.set_cons_zero, List.set_cons_succ]
            refine WT.take (i := 11) (v := ?_) rfl (by kernel_rfl) (by kernel_rfl) (by kernel_rfl) (by rfl) (by kernel_rfl) (fun _ _ _ h => h) (Or.inl ⟨by rfl, ?_⟩) ?_
            rotate_left
            · intro w hSw
              (try dsimp only at hSw)
              go_simp
              try with_reducible rfl
            try simp only [Act.put, List.setIfInBounds_toArray, List.set_cons_zero, List.set_cons_succ]
            refine WT.ready (rs := [12]) (by kernel_rfl) (by simp) ?_
            refine RTz.cons rfl (by rfl) (fun K hK => ?_) RTz.nil
            go_simp
            refine hK.out _ _ (by exact HS.out _ (z4.alloc (.cells #[.int .i64 X.client, .int .i64 X.seq, .int .i64 X.code, .int .i64 X.n] 63))) ?_
            clear hK K
            refine WT.ready (rs := [13]) (by kernel_rfl) (by simp) ?_
            refine RTz.cons rfl (by rfl) (fun K hK => ?_) RTz.nil
            have hv4 : w.heap.size ≤ v4.heap.size := Nat.le_trans hszr z4.size
            refine step_app sessT (by omega) _ rfl rfl (by simp [Act.eval]) (own_ext HRD7.out.ok.o1 (z4.alloc (.cells #[.int .i64 X.client, .int .i64 X.seq, .int .i64 X.code, .int .i64 X.n] 63))) (by first | (simp [Act.eval]; rfl) | (simp [Act.eval]; done)) (rd_new4 _ _ _ _ _ _) (Thing.one (X : CV)) (by unfold maxLen; omega) (by omega) (by simp; omega) ?_
            intro v6 w6 hown6 hg6 hat6
            obtain ⟨A6, c6, rfl, _⟩ := own_form hown6
            have xq6 := (z4.alloc (.cells #[.int .i64 X.client, .int .i64 X.seq, .int .i64 X.code, .int .i64 X.n] 63))
            have hS6 := HRD7.out.to xq6
            have hb6 := hS6.bs.grown hg6 (fun e => own_blk_ne hS6.ok.o1 hS6.bs (by decide) e.symm)
            have e6 := hb6.cell 4
            have z6 := hb6.frozen 4
            simp only [List.getElem?_cons_zero, List.getElem?_cons_succ] at e6
            refine hK.out _ _ (by exact hb6.cell 4) ?_
            clear hK K
            try simp only [Act.put, List.setIfInBounds_toArray, List.set_cons_zero, List.set_cons_succ]
            refine WT.take (i := 14) (v := ?_) rfl (by kernel_rfl) (by kernel_rfl) (by kernel_rfl) (by rfl) (by kernel_rfl) (fun _ _ _ h => h) (Or.inl ⟨by rfl, ?_⟩) ?_
            rotate_left
            · intro w hSw
              (try dsimp only at hSw)
              go_simp
              try with_reducible rfl
            try simp only [Act.put, List.setIfInBounds_toArray, List.set_cons_zero, List.set_cons_succ]
            refine WT.last rfl (by kernel_rfl) (by kernel_rfl) (fun K hK => ?_)
            go_simp
            refine hK.out _ _ ?_
            clear hK K
            have HADD := HI
            all_goals
              have hadd := hS6.addSes (f := X) HADD.out hg6 hown6
              have HR8 := Lib.hid hadd.1
              have HD8 := Lib.hid (HDF7.out.trans ((DFr.of_ext xq6).trans hadd.2))
              have hF8 := HF7.out.dfr (by decide) ((DFr.of_ext xq6).trans hadd.2)
              have f0 := hF8.cell 0
              simp only [List.getElem?_cons_zero, List.getElem?_cons_succ] at f0
              clear hadd xq6 hS6 hb6 hg6 hown6 hat6 e6 z6 hF8 o4 z1 z2 z3 z4 hv4 HS HRD7 HDF7 HF7
              go_upto_region 19 with fail
              generalize w6.setCell ⟨g, 4, none⟩ (.slice A6 (s.n1 + 1) c6) = W8 at *
              go_wp2_with fail
              go_roundw
              case rel => exact ⟨j + 1, val_int (by omega), by omega, ⟨_, x, HR8.out, HD8.out, Lib.hid (by rw [Hds.out, HFD.out]; exact HD.out _ _), ⟨by simp only [Go.Proofs.YtiildgoaiookhaaGreat.addSes]; omega, by simp only [Go.Proofs.YtiildgoaiookhaaGreat.addSes]; omega, by simp only [Go.Proofs.YtiildgoaiookhaaGreat.addSes]; omega, by omega⟩, HTOP, HLN⟩, HE2⟩
              case measure => simp [intOf]; omega
        by_cases n5 : num = 5
        · subst n5
          have HRCD : Hid (recCode ver ⟨5, wire, nn, fA, fl, fc, fb⟩ = rcode 3 ver fb) := Lib.hid (by unfold recCode; simp)
          clear h4 h6 n4
          go_upto_region 14 with fail
          have hF := (Blk.new wr 54 [.int .i64 5, .int .i64 wire, .int .u64 nn, .slice fA fl fc]).alloc (.cells #[.int .i64 4, .int .i64 3, .int .i64 2] 3)
          have hK := Blk.new (wr.alloc (.cells #[.int .i64 5, .int .i64 wire, .int .u64 nn, .slice fA fl fc] 54)) 3 [.int .i64 4, .int .i64 3, .int .i64 2]
          rw [show (wr.alloc (.cells #[.int .i64 5, .int .i64 wire, .int .u64 nn, .slice fA fl fc] 54)).heap.size = wr.heap.size + 1 by simp] at hK
          have hx7 : Ext wr ((wr.alloc (.cells #[.int .i64 5, .int .i64 wire, .int .u64 nn, .slice fA fl fc] 54)).alloc (.cells #[.int .i64 4, .int .i64 3, .int .i64 2] 3)) := ((Ext.refl wr).alloc _).alloc _
          generalize (wr.alloc (.cells #[.int .i64 5, .int .i64 wire, .int .u64 nn, .slice fA fl fc] 54)).alloc (.cells #[.int .i64 4, .int .i64 3, .int .i64 2] 3) = W6 at *
          generalize wr.heap.size = gf at *
          have f0 := hF.cell 0
          have f3 := hF.cell 3
          have m0 := hK.cell 1
          simp only [List.getElem?_cons_zero, List.getElem?_cons_succ] at f0 f3 m0
          have HX7 := Lib.hid hx7
          have HF := Lib.hid hF
          clear hF hK hx7 HX6
          have hw0 : IntKind.i64.wrap 1 = 1 := by decide
          go_region_held3 (fun w' => w'.cell? ⟨gf, 3, none⟩ = some (.slice fA fl fc) ∧ w'.cell? ⟨gf, 0, none⟩ = some (.int .i64 5) ∧ w'.cell? ⟨gf + 1, 1, none⟩ = some (.int .i64 3))
            (first | exact ⟨y1.cell f3, y1.cell f0, y1.cell m0⟩ | go_keep)
            (first | (go_at_call 18; refine (HRF.out 3 _ (by first | exact HX7.out.drew | exact HX7.out)).mono ?_; rintro e w7 ⟨Ax, nx, cx, xs, rfl, hR, hxl, hxs, y1⟩))
          clear hw0
          have hG4 := (((HG4.out.dfs (by decide) (by omega) HDW.out).ext HX7.out).drew).ext y1
          have hG5 := (((HG5.out.dfs (by decide) (by omega) HDW.out).ext HX7.out).drew).ext y1
          have xw7 := ((HRW.out.ext.trans HX7.out).drew).trans y1
          have HC1 : Hid (rcode 3 ver fb ≠ 0 → rcode 3 ver fb = kcode ver b ∧ kreadE ver (ttrow b).1 ≠ 0) := Lib.hid (by
            intro h
            have e1 : kreadE ver (ttrow b).1 = rcode 3 ver fb := by rw [← s_kreadE HSS.out]; exact Heb.out h
            refine ⟨?_, by rw [e1]; exact h⟩
            unfold kcode
            rw [if_neg (by simp [HIN.out]), if_neg (by simp [HZ1.out]), if_neg (by simp [HZ2.out]), e1, if_pos h])
          have HC2 : Hid (rcode 3 ver fb = 0 → (ttrow fb).2 = 0) := Lib.hid (fun h => (rcode_z h).1)
          generalize rcode 3 ver fb = rc at *
          by_cases her : rc = 0
          case neg =>
            have hcb := beq_f (show ((rc : Nat) : Int) ≠ 0 by omega)
            have hcb2 := bne_t (show ((rc : Nat) : Int) ≠ 0 by omega)
            have HC0 := Lib.hid her
            have HCD := Lib.hid (HC1.out her)
            clear her HC1 HC2 hR hxl hxs f0 f3 m0 e0 e1 e2 e3 y1
            have g0 := hG4.cell 0
            have g1 := hG4.cell 1
            have g2 := hG4.cell 2
            have g3 := hG4.cell 3
            have g4 := hG4.cell 4
            have g5 := hG4.cell 5
            have g6 := hG4.cell 6
            simp only [List.getElem?_cons_zero, List.getElem?_cons_succ] at g0 g1 g2 g3 g4 g5 g6
            have p0 := hG4.frozen 0
            have p1 := hG4.frozen 1
            have p2 := hG4.frozen 2
            have p3 := hG4.frozen 3
            have p4 := hG4.frozen 4
            have p5 := hG4.frozen 5
            have p6 := hG4.frozen 6
            have k0 := hG5.cell 0
            have k1 := hG5.cell 1
            simp only [List.getElem?_cons_zero, List.getElem?_cons_succ] at k0 k1
            have q0 := hG5.frozen 0
            have q1 := hG5.frozen 1
            have HXZ := Lib.hid xw7
            clear hG4 hG5
            go_wp2_with fail
            refine bodyPost_ret (v := .tuple #[.agg #[.int .i64 0, .int .i64 0, .int .i64 0, .int .i64 0, .slice none 0 0, .slice none 0 0, .slice none 0 0], .agg #[.slice none 0 0, .slice none 0 0], .int .i64 rc]) (by simp [results, Tryz.results7, go_sem, g0, g1, g2, g3, g4, g5, g6, k0, k1]) rfl ?_
            refine (HE.out _ _).2 ⟨zeroK, noneX, rc, rfl, zeroK_ok _, noneX_ok _, zeroK_few, noneX_few, dtaken_err HC0.out HCD.out.1 (.inr (.inr (.inr HCD.out.2))) ⟨rfl, rfl, rfl, rfl, rfl, rfl, rfl, rfl, rfl⟩, ?_⟩
            repeat (refine Ext.setCell ?_ (by simp) _)
            exact HXZ.out
          case pos =>
            subst her
            subst hxl
            have HXS := Lib.hid (hxs rfl)
            obtain ⟨hxm, _⟩ := ttrow_many (b := fb) (HC2.out rfl) (ms := xs) HXS.out
            have HD : Hid (∀ A c, dstep ver (s.rk x.more) ⟨5, wire, nn, fA, fl, fc, fb⟩ = (Go.Proofs.YtiildgoaiookhaaGreat.addOps s A c (dopn xs)).rk x.more) := Lib.hid (fun A c => by
              unfold dstep
              rw [if_neg (by simp), if_pos rfl]
              dsimp only
              rw [← s_dopn HXS.out]
              rfl)
            have HI : Hid (I64 (dopn xs).set ∧ I64 (dopn xs).client) := Lib.hid ⟨dnum_i64 xs 1, dnum_i64 xs 2⟩
            have HRX := Lib.hid hR
            have HN1 : Hid (∀ (W : World), Ext w7 W → Calls Tryz.prog 19 #[.slice Ax xs.length cx, .int .i64 1] W fun e w' => e = .returned (.int .i64 (dopn xs).set) ∧ Ext W w') := Lib.hid (fun W h => ref10_number Ax xs.length cx xs 1 W ((HRX.out.fs rfl).ext h) (by omega))
            have HN2 : Hid (∀ (W : World), Ext w7 W → Calls Tryz.prog 19 #[.slice Ax xs.length cx, .int .i64 2] W fun e w' => e = .returned (.int .i64 (dopn xs).client) ∧ Ext W w') := Lib.hid (fun W h => ref10_number Ax xs.length cx xs 2 W ((HRX.out.fs rfl).ext h) (by omega))
            have HE2 : Hid (kreadE ver (List.take (j + 1) ms) = 0) := Lib.hid (Hes.out.trans HRCD.out)
            have hx7 := (HX7.out.drew).trans y1
            have hrd7 := HRW.out.to hx7
            have HRD7 := Lib.hid hrd7
            have HDF7 := Lib.hid (HDW.out.trans (DFr.of_ext hx7))
            have hF7 := HF.out.drew.ext y1
            have HF7 := Lib.hid hF7
            have hszr := hrd7.ext.size
            have hgg : g < w7.heap.size := hrd7.bs.lt
            clear f0 f3 m0 e0 e1 e2 e3 hR hxs hG4 hG5 xw7 HXS HRX HRCD Hes Heb HC1 HC2 HRF HRW HDW HX7 HF
            have f0 := hF7.cell 0
            have o4 := hrd7.bs.cell 5
            simp only [List.getElem?_cons_zero, List.getElem?_cons_succ] at f0 o4
            clear hx7 hrd7 hF7 y1
            generalize dopn xs = X at *
            go_upto_region 20 with fail
            clear f0
            have HS : Hid (∀ V : World, Ext w7 V → V.cell? ⟨g, 5, none⟩ = some (.slice s.A2 s.n2 s.c2)) := Lib.hid fun V h => h.cell o4
            refine WT.start (z := 10) (n := 11) rfl (fun V => V.cell? ⟨g, 5, none⟩ = some (.slice s.A2 s.n2 s.c2)) (by kernel_rfl) (HS.out _ (Ext.refl w7).drew) ?_
            simp only [List.replicate]
            refine WT.take (i := 0) (v := ?_) rfl (by kernel_rfl) (by kernel_rfl) (by kernel_rfl) (by rfl) (by kernel_rfl) (fun _ _ _ h => h) (Or.inl ⟨by rfl, ?_⟩) ?_
            rotate_left
            · intro w hSw
              (try dsimp only at hSw)
              go_simp
              try with_reducible rfl
            try simp only [Act.put, List.setIfInBounds_toArray, List.set_cons_zero, List.set_cons_succ]
            refine WT.take (i := 1) (v := ?_) rfl (by kernel_rfl) (by kernel_rfl) (by kernel_rfl) (by rfl) (by kernel_rfl) (fun _ _ _ h => h) (Or.inl ⟨by rfl, ?_⟩) ?_
            rotate_left
            · intro w hSw
              (try dsimp only at hSw)
              go_simp
              try with_reducible rfl
            try simp only [Act.put, List.setIfInBounds_toArray, List.set_cons_zero, List.set_cons_succ]
            refine WT.take (i := 2) (v := ?_) rfl (by kernel_rfl) (by kernel_rfl) (by kernel_rfl) (by rfl) (by kernel_rfl) (fun _ _ _ h => h) (Or.inl ⟨by rfl, ?_⟩) ?_
            rotate_left
            · intro w hSw
              (try dsimp only at hSw)
              go_simp
              try with_reducible rfl
            try simp only [Act.put, List.setIfInBounds_toArray, List.set_cons_zero, List.set_cons_succ]
            refine WT.take (i := 4) (v := ?_) rfl (by kernel_rfl) (by kernel_rfl) (by kernel_rfl) (by rfl) (by kernel_rfl) (fun _ _ _ h => h) (Or.inl ⟨by rfl, ?_⟩) ?_
            rotate_left
            · intro w hSw
              (try dsimp only at hSw)
              go_simp
              try with_reducible rfl
            try simp only [Act.put, List.setIfInBounds_toArray, List.set_cons_zero, List.set_cons_succ]
            refine WT.ready (rs := [3]) (by kernel_rfl) (by simp) ?_
            refine RTz.cons rfl (by rfl) (fun K hK => ?_) RTz.nil
            go_simp
            go_at_call 19
            refine (HN1.out _ (Ext.refl w7).drew).mono ?_
            rintro e v1 ⟨rfl, z1'⟩
            have z1 : Ext w7 v1 := ((Ext.refl w7).drew).trans z1'
            clear z1'
            refine hK.out _ _ (by exact HS.out _ z1) ?_
            clear hK K
            try simp only [Act.put, List.setIfInBounds_toArray, List.set_cons_zero, List.set_cons_succ]
            refine WT.ready (rs := [5]) (by kernel_rfl) (by simp) ?_
            refine RTz.cons rfl (by rfl) (fun K hK => ?_) RTz.nil
            go_simp
            go_at_call 19
            refine (HN2.out _ z1).mono ?_
            rintro e v2 ⟨rfl, z2'⟩
            have z2 : Ext w7 v2 := (z1).trans z2'
            clear z2'
            refine hK.out _ _ (by exact HS.out _ z2) ?_
            clear hK K
            try simp only [Act.put, List.setIfInBounds_toArray, List.set_cons_zero, List.set_cons_succ]
            refine WT.take (i := 6) (v := ?_) rfl (by kernel_rfl) (by kernel_rfl) (by kernel_rfl) (by rfl) (by kernel_rfl) (fun _ _ _ h => h) (Or.inl ⟨by rfl, ?_⟩) ?_
            rotate_left
            · intro w hSw
              (try dsimp only at hSw)
              go_simp
              try with_reducible rfl
            try simp only [Act.put, List.setIfInBounds_toArray, List.set_cons_zero, List.set_cons_succ]
            refine WT.ready (rs := [7]) (by kernel_rfl) (by simp) ?_
            refine RTz.cons rfl (by rfl) (fun K hK => ?_) RTz.nil
            go_simp
            refine hK.out _ _ (by exact HS.out _ (z2.alloc (.cells #[.int .i64 X.set, .int .i64 X.client] 65))) ?_
            clear hK K
            refine WT.ready (rs := [8]) (by kernel_rfl) (by simp) ?_
            refine RTz.cons rfl (by rfl) (fun K hK => ?_) RTz.nil
            have hv2 : w.heap.size ≤ v2.heap.size := Nat.le_trans hszr z2.size
            refine step_app opensT (by omega) _ rfl rfl (by simp [Act.eval]) (own_ext HRD7.out.ok.o2 (z2.alloc (.cells #[.int .i64 X.set, .int .i64 X.client] 65))) (by first | (simp [Act.eval]; rfl) | (simp [Act.eval]; done)) (rd_new2 _ _ _ _) (Thing.one (X : OV)) (by unfold maxLen; omega) (by omega) (by simp; omega) ?_
            intro v6 w6 hown6 hg6 hat6
            obtain ⟨A6, c6, rfl, _⟩ := own_form hown6
            have xq6 := (z2.alloc (.cells #[.int .i64 X.set, .int .i64 X.client] 65))
            have hS6 := HRD7.out.to xq6
            have hb6 := hS6.bs.grown hg6 (fun e => own_blk_ne hS6.ok.o2 hS6.bs (by decide) e.symm)
            have e6 := hb6.cell 5
            have z6 := hb6.frozen 5
            simp only [List.getElem?_cons_zero, List.getElem?_cons_succ] at e6
            refine hK.out _ _ (by exact hb6.cell 5) ?_
            clear hK K
            try simp only [Act.put, List.setIfInBounds_toArray, List.set_cons_zero, List.set_cons_succ]
            refine WT.take (i := 9) (v := ?_) rfl (by kernel_rfl) (by kernel_rfl) (by kernel_rfl) (by rfl) (by kernel_rfl) (fun _ _ _ h => h) (Or.inl ⟨by rfl, ?_⟩) ?_
            rotate_left
            · intro w hSw
              (try dsimp only at hSw)
              go_simp
              try with_reducible rfl
            try simp only [Act.put, List.setIfInBounds_toArray, List.set_cons_zero, List.set_cons_succ]
            refine WT.last rfl (by kernel_rfl) (by kernel_rfl) (fun K hK => ?_)
            go_simp
            refine hK.out _ _ ?_
            clear hK K
            have HADD := HI
            all_goals
              have hadd := hS6.addOps (f := X) HADD.out hg6 hown6
              have HR8 := Lib.hid hadd.1
              have HD8 := Lib.hid (HDF7.out.trans ((DFr.of_ext xq6).trans hadd.2))
              have hF8 := HF7.out.dfr (by decide) ((DFr.of_ext xq6).trans hadd.2)
              have f0 := hF8.cell 0
              simp only [List.getElem?_cons_zero, List.getElem?_cons_succ] at f0
              clear hadd xq6 hS6 hb6 hg6 hown6 hat6 e6 z6 hF8 o4 z1 z2 hv2 HS HRD7 HDF7 HF7
              go_upto_region 21 with fail
              generalize w6.setCell ⟨g, 5, none⟩ (.slice A6 (s.n2 + 1) c6) = W8 at *
              go_wp2_with fail
              go_roundw
              case rel => exact ⟨j + 1, val_int (by omega), by omega, ⟨_, x, HR8.out, HD8.out, Lib.hid (by rw [Hds.out, HFD.out]; exact HD.out _ _), ⟨by simp only [Go.Proofs.YtiildgoaiookhaaGreat.addOps]; omega, by simp only [Go.Proofs.YtiildgoaiookhaaGreat.addOps]; omega, by simp only [Go.Proofs.YtiildgoaiookhaaGreat.addOps]; omega, by omega⟩, HTOP, HLN⟩, HE2⟩
              case measure => simp [intOf]; omega
        by_cases n6 : num = 6
        · subst n6
          have HRCD : Hid (recCode ver ⟨6, wire, nn, fA, fl, fc, fb⟩ = rcode 2 ver fb) := Lib.hid (by unfold recCode; simp)
          clear h4 h6 n4 n5
          go_upto_region 14 with fail
          have hF := (Blk.new wr 54 [.int .i64 6, .int .i64 wire, .int .u64 nn, .slice fA fl fc]).alloc (.cells #[.int .i64 4, .int .i64 3, .int .i64 2] 3)
          have hK := Blk.new (wr.alloc (.cells #[.int .i64 6, .int .i64 wire, .int .u64 nn, .slice fA fl fc] 54)) 3 [.int .i64 4, .int .i64 3, .int .i64 2]
          rw [show (wr.alloc (.cells #[.int .i64 6, .int .i64 wire, .int .u64 nn, .slice fA fl fc] 54)).heap.size = wr.heap.size + 1 by simp] at hK
          have hx7 : Ext wr ((wr.alloc (.cells #[.int .i64 6, .int .i64 wire, .int .u64 nn, .slice fA fl fc] 54)).alloc (.cells #[.int .i64 4, .int .i64 3, .int .i64 2] 3)) := ((Ext.refl wr).alloc _).alloc _
          generalize (wr.alloc (.cells #[.int .i64 6, .int .i64 wire, .int .u64 nn, .slice fA fl fc] 54)).alloc (.cells #[.int .i64 4, .int .i64 3, .int .i64 2] 3) = W6 at *
          generalize wr.heap.size = gf at *
          have f0 := hF.cell 0
          have f3 := hF.cell 3
          have m0 := hK.cell 2
          simp only [List.getElem?_cons_zero, List.getElem?_cons_succ] at f0 f3 m0
          have HX7 := Lib.hid hx7
          have HF := Lib.hid hF
          clear hF hK hx7 HX6
          have hw0 : IntKind.i64.wrap 2 = 2 := by decide
          go_region_held3 (fun w' => w'.cell? ⟨gf, 3, none⟩ = some (.slice fA fl fc) ∧ w'.cell? ⟨gf, 0, none⟩ = some (.int .i64 6) ∧ w'.cell? ⟨gf + 1, 2, none⟩ = some (.int .i64 2))
            (first | exact ⟨y1.cell f3, y1.cell f0, y1.cell m0⟩ | go_keep)
            (first | (go_at_call 18; refine (HRF.out 2 _ (by first | exact HX7.out.drew | exact HX7.out)).mono ?_; rintro e w7 ⟨Ax, nx, cx, xs, rfl, hR, hxl, hxs, y1⟩))
          clear hw0
          have hG4 := (((HG4.out.dfs (by decide) (by omega) HDW.out).ext HX7.out).drew).ext y1
          have hG5 := (((HG5.out.dfs (by decide) (by omega) HDW.out).ext HX7.out).drew).ext y1
          have xw7 := ((HRW.out.ext.trans HX7.out).drew).trans y1
          have HC1 : Hid (rcode 2 ver fb ≠ 0 → rcode 2 ver fb = kcode ver b ∧ kreadE ver (ttrow b).1 ≠ 0) := Lib.hid (by
            intro h
            have e1 : kreadE ver (ttrow b).1 = rcode 2 ver fb := by rw [← s_kreadE HSS.out]; exact Heb.out h
            refine ⟨?_, by rw [e1]; exact h⟩
            unfold kcode
            rw [if_neg (by simp [HIN.out]), if_neg (by simp [HZ1.out]), if_neg (by simp [HZ2.out]), e1, if_pos h])
          have HC2 : Hid (rcode 2 ver fb = 0 → (ttrow fb).2 = 0) := Lib.hid (fun h => (rcode_z h).1)
          generalize rcode 2 ver fb = rc at *
          by_cases her : rc = 0
          case neg =>
            have hcb := beq_f (show ((rc : Nat) : Int) ≠ 0 by omega)
            have hcb2 := bne_t (show ((rc : Nat) : Int) ≠ 0 by omega)
            have HC0 := Lib.hid her
            have HCD := Lib.hid (HC1.out her)
            clear her HC1 HC2 hR hxl hxs f0 f3 m0 e0 e1 e2 e3 y1
            have g0 := hG4.cell 0
            have g1 := hG4.cell 1
            have g2 := hG4.cell 2
            have g3 := hG4.cell 3
            have g4 := hG4.cell 4
            have g5 := hG4.cell 5
            have g6 := hG4.cell 6
            simp only [List.getElem?_cons_zero, List.getElem?_cons_succ] at g0 g1 g2 g3 g4 g5 g6
            have p0 := hG4.frozen 0
            have p1 := hG4.frozen 1
            have p2 := hG4.frozen 2
            have p3 := hG4.frozen 3
            have p4 := hG4.frozen 4
            have p5 := hG4.frozen 5
            have p6 := hG4.frozen 6
            have k0 := hG5.cell 0
            have k1 := hG5.cell 1
            simp only [List.getElem?_cons_zero, List.getElem?_cons_succ] at k0 k1
            have q0 := hG5.frozen 0
            have q1 := hG5.frozen 1
            have HXZ := Lib.hid xw7
            clear hG4 hG5
            go_wp2_with fail
            refine bodyPost_ret (v := .tuple #[.agg #[.int .i64 0, .int .i64 0, .int .i64 0, .int .i64 0, .slice none 0 0, .slice none 0 0, .slice none 0 0], .agg #[.slice none 0 0, .slice none 0 0], .int .i64 rc]) (by simp [results, Tryz.results7, go_sem, g0, g1, g2, g3, g4, g5, g6, k0, k1]) rfl ?_
            refine (HE.out _ _).2 ⟨zeroK, noneX, rc, rfl, zeroK_ok _, noneX_ok _, zeroK_few, noneX_few, dtaken_err HC0.out HCD.out.1 (.inr (.inr (.inr HCD.out.2))) ⟨rfl, rfl, rfl, rfl, rfl, rfl, rfl, rfl, rfl⟩, ?_⟩
            repeat (refine Ext.setCell ?_ (by simp) _)
            exact HXZ.out
          case pos =>
            subst her
            subst hxl
            have HXS := Lib.hid (hxs rfl)
            obtain ⟨hxm, hxf⟩ := ttrow_many (b := fb) (HC2.out rfl) (ms := xs) HXS.out
            have hbase := (HRW.out.ext.trans HX7.out).size
            have hro : OwnR w7 w.heap.size (.slice Ax xs.length cx) xs := hR.to (by first | exact hbase | exact ((HRW.out.ext.trans HX7.out).drew).size)
            have HTP := Lib.hid (fun W => ref04_Top 2 ver W)
            rw [show topL (specL 2 ver) = topN ver from rfl] at HTP
            have HSP := Lib.hid (fun (W : World) (h : Ext w7 W) => ref03_Split (topN ver) Ax xs.length cx xs W ((hro.fs rfl).ext h) (by omega))
            obtain ⟨P, hP⟩ : ∃ P, P = xs.filter (loB (topN ver)) := ⟨_, rfl⟩
            obtain ⟨Q, hQ⟩ : ∃ Q, Q = xs.filter (fun f => !loB (topN ver) f) := ⟨_, rfl⟩
            have hPl : P.length ≤ 16384 := by rw [hP]; exact Nat.le_trans (List.length_filter_le _ _) hxm
            have hQl : Q.length ≤ 16384 := by rw [hQ]; exact Nat.le_trans (List.length_filter_le _ _) hxm
            have HPO : Hid (∀ f ∈ P, OwnF w7 w.heap.size f) := Lib.hid (fun f hf => hro.own f (List.mem_filter.1 (hP ▸ hf)).1)
            have HQO : Hid (∀ f ∈ Q, OwnF w7 w.heap.size f) := Lib.hid (fun f hf => hro.own f (List.mem_filter.1 (hQ ▸ hf)).1)
            have HPF : Hid (∀ f ∈ P, f.len ≤ 16384) := Lib.hid (fun f hf => hxf f (List.mem_filter.1 (hP ▸ hf)).1)
            have HPQ : Hid (P = xs.filter (loB (topN ver)) ∧ Q = xs.filter (fun f => !loB (topN ver) f)) := Lib.hid ⟨hP, hQ⟩
            rw [← hP, ← hQ] at HSP
            have HE2 : Hid (kreadE ver (List.take (j + 1) ms) = 0) := Lib.hid (Hes.out.trans HRCD.out)
            have hx7 := (HX7.out.drew).trans y1
            have hrd7 := HRW.out.to hx7
            have HRD7 := Lib.hid hrd7
            have HDF7 := Lib.hid (HDW.out.trans (DFr.of_ext hx7))
            have hF7 := HF.out.drew.ext y1
            have HF7 := Lib.hid hF7
            have f0 := hF7.cell 0
            simp only [List.getElem?_cons_zero] at f0
            clear hP hQ f3 m0 e0 e1 e2 e3 hR hro hxs hxf hG4 hG5 xw7 HRCD Hes Heb HC1 HC2 HRF HRW HDW HX7 HF hx7 hrd7 hF7 y1
            go_upto_region 22 with fail
            clear f0
            have xr := Ext.refl w7
            go_wp2_with fail
            refine (HTP.out _).mono ?_
            rintro e w8 ⟨rfl, x8⟩
            go_wp2_with fail
            refine (HSP.out _ x8).mono ?_
            rintro e w9 ⟨vP, vQ, rfl, hoP, hoQ, x9'⟩
            have x9 := x8.trans x9'
            obtain ⟨AP, cP, rfl, _⟩ := own_form hoP
            obtain ⟨AQ, cQ, rfl, _⟩ := own_form hoQ
            have hbs8 := (HRD7.out.ext.trans x8).size
            have hrp : OwnR w9 w.heap.size (.slice AP P.length cP) P := ⟨own_base hoP hbs8, fun f hf => (HPO.out f hf).ext x9⟩
            have HRQ9 : Hid (OwnR w9 w.heap.size (.slice AQ Q.length cQ) Q) := Lib.hid ⟨own_base hoQ hbs8, fun f hf => (HQO.out f hf).ext x9⟩
            have HRP9 := Lib.hid hrp
            have HD3 := Lib.hid (fun (W : World) (h : Ext w9 W) => ref10_data AP P.length cP P 3 W ((hrp.fs rfl).ext h) (by omega))
            have HL3 : Hid ((ddat P 3).length ≤ 16384 ∧ (ddat P 5).length ≤ 16384) := Lib.hid ⟨ddat_le (fun f hf => by have h1 := (HRP9.out.own f hf).ok.bs.len; have h2 := HPF.out f hf; omega), ddat_le (fun f hf => by have h1 := (HRP9.out.own f hf).ok.bs.len; have h2 := HPF.out f hf; omega)⟩
            have HX9 := Lib.hid x9
            have HUN : Hid (∀ (W : World) (A : Option Addr) (n c : Nat), Bs W A n (ddat P 3) → n ≤ c → Ext w9 W → Calls Tryz.prog 22 #[.slice A n c] W fun e w' => ∃ (X : NV) (code : Int), e = .returned (.tuple #[.slice X.A X.len X.cap, .int .i64 code]) ∧ X.nq = dsnp P ∧ OwnN w' w.heap.size X ∧ Ext W w') := Lib.hid (fun W A n c hb hc hx => by
              have hlb := hb.len
              have hl3 := HL3.out
              refine (ref05_Unchunk A n c (ddat P 3) W hb (by omega) hc).mono ?_
              rintro e w' ⟨A4, c4, code, rfl, ho, y⟩
              refine ⟨⟨dnum P 1, dnum P 2, A4, (unch (ddat P 3)).length, c4, unch (ddat P 3), decide (dnum P 4 ≠ 0), bstr (ddat P 5)⟩, code, rfl, rfl, ⟨dnum_i64 P 1, dnum_i64 P 2, own_base ho (HRD7.out.ext.trans (HX9.out.trans hx)).size, unch_i64 _, ?_⟩, y⟩
              show (bstr (ddat P 5)).size ≤ maxLen
              have : (bstr (ddat P 5)).size = (ddat P 5).length := rfl
              unfold maxLen; omega)
            have xr9 := Ext.refl w9
            clear hoP hoQ x8 x9' x9 hrp xr HTP HSP HPO HQO hbs8
            go_upto_region 23 with fail
            go_wp2_with fail
            refine (HD3.out _ xr9).mono ?_
            rintro e wD ⟨AD, nD, cD, rfl, hbD, hncD, _, xD⟩
            go_wp2_with fail
            refine (HUN.out _ AD nD cD hbD hncD xD).mono ?_
            rintro e wA ⟨X, code, rfl, hq, hxn, xA'⟩
            have xA := xD.trans xA'
            have HNA : Hid (OwnN wA w.heap.size X) := Lib.hid hxn
            have HN1 : Hid (∀ (W : World), Ext wA W → Calls Tryz.prog 19 #[.slice AP P.length cP, .int .i64 1] W fun e w' => e = .returned (.int .i64 X.id) ∧ Ext W w') := Lib.hid (fun W h => by rw [show X.id = dnum P 1 from congrArg NQ.id hq]; exact ref10_number AP P.length cP P 1 W (((HRP9.out.ext xA).fs rfl).ext h) (by omega))
            have HN2 : Hid (∀ (W : World), Ext wA W → Calls Tryz.prog 19 #[.slice AP P.length cP, .int .i64 2] W fun e w' => e = .returned (.int .i64 X.set) ∧ Ext W w') := Lib.hid (fun W h => by rw [show X.set = dnum P 2 from congrArg NQ.set hq]; exact ref10_number AP P.length cP P 2 W (((HRP9.out.ext xA).fs rfl).ext h) (by omega))
            obtain ⟨m4, hm4⟩ : ∃ m4, m4 = dnum P 4 := ⟨_, rfl⟩
            have HN4 : Hid (∀ (W : World), Ext wA W → Calls Tryz.prog 19 #[.slice AP P.length cP, .int .i64 4] W fun e w' => e = .returned (.int .i64 m4) ∧ Ext W w') := Lib.hid (fun W h => by rw [hm4]; exact ref10_number AP P.length cP P 4 W (((HRP9.out.ext xA).fs rfl).ext h) (by omega))
            have hhd : (m4 != 0) = X.held := by
              rw [show X.held = decide (dnum P 4 ≠ 0) from congrArg NQ.held hq, hm4]
              by_cases h0 : dnum P 4 = 0
              · rw [bne_f h0, dec_f (by simpa using h0)]
              · rw [bne_t h0, dec_t (by simpa using h0)]
            obtain ⟨b5, hb5⟩ : ∃ b5, b5 = ddat P 5 := ⟨_, rfl⟩
            have HTG : Hid (bstr b5 = X.tag) := Lib.hid (by rw [hb5]; exact (congrArg NQ.tag hq).symm)
            have HD5 : Hid (∀ (W : World), Ext wA W → Calls Tryz.prog 23 #[.slice AP P.length cP, .int .i64 5] W fun e w' => ∃ A' n' c', (e = .returned (.slice A' n' c') ∧ Bs w' A' n' b5) ∧ Ext W w') := Lib.hid (fun W h => by
              rw [hb5]
              refine (ref10_data AP P.length cP P 5 W (((HRP9.out.ext xA).fs rfl).ext h) (by omega)).mono ?_
              rintro e w' ⟨A', n', c', rfl, k1, _, _, k4⟩
              exact ⟨A', n', c', ⟨rfl, k1⟩, k4⟩)
            have HSNL : Hid (X.len ≤ 17000) := Lib.hid (by
              have h1 := hxn.own.1
              have h2 := unch_len (ddat P 3)
              have h3 : X.ch = unch (ddat P 3) := congrArg NQ.ch hq
              simp only [List.length_map, Nat.mul_one] at h1
              rw [h3] at h1
              omega)
            have HQX : Hid (∀ A c A' c', dstep ver (s.rk x.more) ⟨6, wire, nn, fA, fl, fc, fb⟩ = (Go.Proofs.YtiildgoaiookhaaGreat.addSns s A c X).rk (Go.Proofs.YtiildgoaiookhaaGreat.addMore x A' c' ⟨AQ, Q.length, cQ, Q⟩).more) := Lib.hid (fun A c A' c' => dsnp_rk HRD7.out.len (by rw [hq, HPQ.out.1]) HPQ.out.2 HXS.out A A' c c')
            have hrdA := HRD7.out.to (HX9.out.trans xA)
            have HRDA := Lib.hid hrdA
            have HDFA := Lib.hid (HDF7.out.trans (DFr.of_ext (HX9.out.trans xA)))
            have HRQA := Lib.hid (HRQ9.out.ext xA)
            have hszr := hrdA.ext.size
            have hgg : g < wA.heap.size := hrdA.bs.lt
            have o6 := hrdA.bs.cell 6
            simp only [List.getElem?_cons_zero, List.getElem?_cons_succ] at o6
            clear hbD xD xA' xA hrdA hxn hm4 hb5 hq xr9 HD3 HUN HL3 HX9 HRP9 HRQ9 HPQ HPF HDF7 HRD7 HXS
            go_upto_region 24 with fail
            have HS : Hid (∀ V : World, Ext wA V → V.cell? ⟨g, 6, none⟩ = some (.slice s.A3 s.n3 s.c3)) := Lib.hid fun V h => h.cell o6
            refine WT.start (z := 17) (n := 18) rfl (fun V => V.cell? ⟨g, 6, none⟩ = some (.slice s.A3 s.n3 s.c3)) (by kernel_rfl) (HS.out _ (Ext.refl wA).drew) ?_
            simp only [List.replicate]
            refine WT.take (i := 0) (v := ?_) rfl (by kernel_rfl) (by kernel_rfl) (by kernel_rfl) (by rfl) (by kernel_rfl) (fun _ _ _ h => h) (Or.inl ⟨by rfl, ?_⟩) ?_
            rotate_left
            · intro w hSw
              (try dsimp only at hSw)
              go_simp
              try with_reducible rfl
            try simp only [Act.put, List.setIfInBounds_toArray, List.set_cons_zero, List.set_cons_succ]
            refine WT.take (i := 1) (v := ?_) rfl (by kernel_rfl) (by kernel_rfl) (by kernel_rfl) (by rfl) (by kernel_rfl) (fun _ _ _ h => h) (Or.inl ⟨by rfl, ?_⟩) ?_
            rotate_left
            · intro w hSw
              (try dsimp only at hSw)
              go_simp
              try with_reducible rfl
            try simp only [Act.put, List.setIfInBounds_toArray, List.set_cons_zero, List.set_cons_succ]
            refine WT.take (i := 2) (v := ?_) rfl (by kernel_rfl) (by kernel_rfl) (by kernel_rfl) (by rfl) (by kernel_rfl) (fun _ _ _ h => h) (Or.inl ⟨by rfl, ?_⟩) ?_
            rotate_left
            · intro w hSw
              (try dsimp only at hSw)
              go_simp
              try with_reducible rfl
            try simp only [Act.put, List.setIfInBounds_toArray, List.set_cons_zero, List.set_cons_succ]
            refine WT.take (i := 4) (v := ?_) rfl (by kernel_rfl) (by kernel_rfl) (by kernel_rfl) (by rfl) (by kernel_rfl) (fun _ _ _ h => h) (Or.inl ⟨by rfl, ?_⟩) ?_
            rotate_left
            · intro w hSw
              (try dsimp only at hSw)
              go_simp
              try with_reducible rfl
            try simp only [Act.put, List.setIfInBounds_toArray, List.set_cons_zero, List.set_cons_succ]
            refine WT.take (i := 6) (v := ?_) rfl (by kernel_rfl) (by kernel_rfl) (by kernel_rfl) (by rfl) (by kernel_rfl) (fun _ _ _ h => h) (Or.inl ⟨by rfl, ?_⟩) ?_
            rotate_left
            · intro w hSw
              (try dsimp only at hSw)
              go_simp
              try with_reducible rfl
            try simp only [Act.put, List.setIfInBounds_toArray, List.set_cons_zero, List.set_cons_succ]
            refine WT.take (i := 7) (v := ?_) rfl (by kernel_rfl) (by kernel_rfl) (by kernel_rfl) (by rfl) (by kernel_rfl) (fun _ _ _ h => h) (Or.inl ⟨by rfl, ?_⟩) ?_
            rotate_left
            · intro w hSw
              (try dsimp only at hSw)
              go_simp
              try with_reducible rfl
            try simp only [Act.put, List.setIfInBounds_toArray, List.set_cons_zero, List.set_cons_succ]
            refine WT.take (i := 10) (v := ?_) rfl (by kernel_rfl) (by kernel_rfl) (by kernel_rfl) (by rfl) (by kernel_rfl) (fun _ _ _ h => h) (Or.inl ⟨by rfl, ?_⟩) ?_
            rotate_left
            · intro w hSw
              (try dsimp only at hSw)
              go_simp
              try with_reducible rfl
            try simp only [Act.put, List.setIfInBounds_toArray, List.set_cons_zero, List.set_cons_succ]
            refine WT.ready (rs := [3]) (by kernel_rfl) (by simp) ?_
            refine RTz.cons rfl (by rfl) (fun K hK => ?_) RTz.nil
            go_simp
            go_at_call 19
            refine (HN1.out _ (Ext.refl wA).drew).mono ?_
            rintro e v1 ⟨rfl, z1'⟩
            have z1 : Ext wA v1 := ((Ext.refl wA).drew).trans z1'
            clear z1'
            refine hK.out _ _ (by exact HS.out _ z1) ?_
            clear hK K
            try simp only [Act.put, List.setIfInBounds_toArray, List.set_cons_zero, List.set_cons_succ]
            refine WT.ready (rs := [5]) (by kernel_rfl) (by simp) ?_
            refine RTz.cons rfl (by rfl) (fun K hK => ?_) RTz.nil
            go_simp
            go_at_call 19
            refine (HN2.out _ z1).mono ?_
            rintro e v2 ⟨rfl, z2'⟩
            have z2 : Ext wA v2 := (z1).trans z2'
            clear z2'
            refine hK.out _ _ (by exact HS.out _ z2) ?_
            clear hK K
            try simp only [Act.put, List.setIfInBounds_toArray, List.set_cons_zero, List.set_cons_succ]
            refine WT.ready (rs := [8]) (by kernel_rfl) (by simp) ?_
            refine RTz.cons rfl (by rfl) (fun K hK => ?_) RTz.nil
            go_simp
            go_at_call 19
            refine (HN4.out _ z2).mono ?_
            rintro e v4 ⟨rfl, z4'⟩
            have z4 : Ext wA v4 := (z2).trans z4'
            clear z4'
            refine hK.out _ _ (by exact HS.out _ z4) ?_
            clear hK K
            try simp only [Act.put, List.setIfInBounds_toArray, List.set_cons_zero, List.set_cons_succ]
            refine WT.take (i := 9) (v := ?_) rfl (by kernel_rfl) (by kernel_rfl) (by kernel_rfl) (by rfl) (by kernel_rfl) (fun _ _ _ h => h) (Or.inl ⟨by rfl, ?_⟩) ?_
            rotate_left
            · intro w hSw
              (try dsimp only at hSw)
              go_simp
              try with_reducible rfl
            try simp only [Act.put, List.setIfInBounds_toArray, List.set_cons_zero, List.set_cons_succ]
            refine WT.ready (rs := [11]) (by kernel_rfl) (by simp) ?_
            refine RTz.cons rfl (by rfl) (fun K hK => ?_) RTz.nil
            go_simp
            go_at_call 23
            refine (HD5.out _ z4).mono ?_
            rintro e v5 ⟨A5, n5, c5, ⟨rfl, hb5⟩, z5'⟩
            have z5 : Ext wA v5 := (z4).trans z5'
            clear z5'
            have hst := str_at hb5 c5
            rw [HTG.out] at hst
            clear hb5
            refine hK.out _ _ (by exact HS.out _ z5) ?_
            clear hK K
            try simp only [Act.put, List.setIfInBounds_toArray, List.set_cons_zero, List.set_cons_succ]
            refine WT.ready (rs := [12]) (by kernel_rfl) (by simp) ?_
            refine RTz.cons rfl (by rfl) (fun K hK => ?_) RTz.nil
            go_simp
            refine hK.out _ _ (by exact HS.out _ z5) ?_
            clear hK K
            try simp only [Act.put, List.setIfInBounds_toArray, List.set_cons_zero, List.set_cons_succ]
            refine WT.take (i := 13) (v := ?_) rfl (by kernel_rfl) (by kernel_rfl) (by kernel_rfl) (by rfl) (by kernel_rfl) (fun _ _ _ h => h) (Or.inl ⟨by rfl, ?_⟩) ?_
            rotate_left
            · intro w hSw
              (try dsimp only at hSw)
              go_simp
              try with_reducible rfl
            try simp only [Act.put, List.setIfInBounds_toArray, List.set_cons_zero, List.set_cons_succ]
            refine WT.ready (rs := [14]) (by kernel_rfl) (by simp) ?_
            refine RTz.cons rfl (by rfl) (fun K hK => ?_) RTz.nil
            go_simp
            refine hK.out _ _ (by exact HS.out _ (z5.alloc (.cells #[.int .i64 X.id, .int .i64 X.set, .slice X.A X.len X.cap, .bool X.held, .string X.tag] 70))) ?_
            clear hK K
            refine WT.ready (rs := [15]) (by kernel_rfl) (by simp) ?_
            refine RTz.cons rfl (by rfl) (fun K hK => ?_) RTz.nil
            have hv5 : w.heap.size ≤ v5.heap.size := Nat.le_trans hszr z5.size
            refine step_app snapsT (by omega) _ rfl rfl (by simp [Act.eval]) (own_ext HRDA.out.ok.o3 (z5.alloc (.cells #[.int .i64 X.id, .int .i64 X.set, .slice X.A X.len X.cap, .bool X.held, .string X.tag] 70))) (by first | (simp [Act.eval]; rfl) | (simp [Act.eval]; done)) (rd_new5 _ _ _ _ _ _ _) (Thing.one (X : NV)) (by unfold maxLen; omega) (by omega) (by simp; omega) ?_
            intro v6 w6 hown6 hg6 hat6
            obtain ⟨A6, c6, rfl, _⟩ := own_form hown6
            have xq6 := (z5.alloc (.cells #[.int .i64 X.id, .int .i64 X.set, .slice X.A X.len X.cap, .bool X.held, .string X.tag] 70))
            have hS6 := HRDA.out.to xq6
            have hb6 := hS6.bs.grown hg6 (fun e => own_blk_ne hS6.ok.o3 hS6.bs (by decide) e.symm)
            have e6 := hb6.cell 6
            have z6 := hb6.frozen 6
            simp only [List.getElem?_cons_zero, List.getElem?_cons_succ] at e6
            refine hK.out _ _ (by exact hb6.cell 6) ?_
            clear hK K
            try simp only [Act.put, List.setIfInBounds_toArray, List.set_cons_zero, List.set_cons_succ]
            refine WT.take (i := 16) (v := ?_) rfl (by kernel_rfl) (by kernel_rfl) (by kernel_rfl) (by rfl) (by kernel_rfl) (fun _ _ _ h => h) (Or.inl ⟨by rfl, ?_⟩) ?_
            rotate_left
            · intro w hSw
              (try dsimp only at hSw)
              go_simp
              try with_reducible rfl
            try simp only [Act.put, List.setIfInBounds_toArray, List.set_cons_zero, List.set_cons_succ]
            refine WT.last rfl (by kernel_rfl) (by kernel_rfl) (fun K hK => ?_)
            go_simp
            refine hK.out _ _ ?_
            clear hK K
            all_goals
              have hadd := hS6.addSns (f := X) (HNA.out.ext xq6) hg6 hown6
              have HR8 := Lib.hid hadd.1
              have HD8 := Lib.hid (HDFA.out.trans ((DFr.of_ext xq6).trans hadd.2))
              have HQ8 := Lib.hid (HRQA.out.dfr ((DFr.of_ext xq6).trans hadd.2))
              clear hadd xq6 hS6 hb6 hg6 hown6 hat6 e6 z6 o6 z1 z2 z4 z5 hst hhd hv5 HS HRDA HDFA HNA HRQA HN1 HN2 HN4 HD5 HTG
              go_upto_region 25 with fail
              generalize w6.setCell ⟨g, 6, none⟩ (.slice A6 (s.n3 + 1) c6) = W8 at *
              have o9 := HR8.out.bx.cell 1
              simp only [List.getElem?_cons_zero, List.getElem?_cons_succ] at o9
              have hz8 := HR8.out.ext.size
              go_wp2_with (at_builtin; refine wpList_app listsT (by omega) _ rfl rfl rfl (own_ext HR8.out.oz.row ((Ext.refl W8).alloc _)) rfl (rd_new1 _ _ _) (one1 rfl) (by unfold maxLen; omega) (by omega) (by simp; omega) ?_; intro vB wB hownB hgB hatB; obtain ⟨AB, cB, rfl, _⟩ := own_form hownB; have xqB := ext_at (w := W8) hgB ((Ext.refl W8).alloc _); have hSB := HR8.out.to xqB; have hbB := hSB.bx.grown hgB (fun e => own_blk_ne hSB.oz.row hSB.bx (by decide) e.symm); have eB := hbB.cell 1; have zB := hbB.frozen 1; simp only [List.getElem?_cons_zero, List.getElem?_cons_succ] at eB)
              have haddB := hSB.addMore (f := ⟨AQ, Q.length, cQ, Q⟩) (HQ8.out.ext xqB) rfl hgB hownB
              have HR9 := Lib.hid haddB.1
              have HD9 := Lib.hid (HD8.out.trans ((DFr.of_ext xqB).trans haddB.2))
              clear haddB xqB hSB hbB hgB hownB hatB eB zB o9
              go_roundw
              case rel => exact ⟨j + 1, val_int (by omega), by omega, ⟨_, _, HR9.out, HD9.out, Lib.hid (by rw [Hds.out, HFD.out]; exact HQX.out _ _ _ _), ⟨by simp only [Go.Proofs.YtiildgoaiookhaaGreat.addSns, Go.Proofs.YtiildgoaiookhaaGreat.addMore]; omega, by simp only [Go.Proofs.YtiildgoaiookhaaGreat.addSns, Go.Proofs.YtiildgoaiookhaaGreat.addMore]; omega, by simp only [Go.Proofs.YtiildgoaiookhaaGreat.addSns, Go.Proofs.YtiildgoaiookhaaGreat.addMore]; omega, by simp only [Go.Proofs.YtiildgoaiookhaaGreat.addSns, Go.Proofs.YtiildgoaiookhaaGreat.addMore]; omega⟩, Lib.hid (by simp only [Go.Proofs.YtiildgoaiookhaaGreat.addMore]; exact HTOP.out), Lib.hid (by
                refine ⟨fun y hy => ?_, fun y hy => ?_⟩
                · simp only [Go.Proofs.YtiildgoaiookhaaGreat.addMore] at hy
                  rcases List.mem_append.1 hy with hy | hy
                  · exact HLN.out.1 y hy
                  · simp only [List.mem_singleton] at hy
                    subst hy
                    show Q.length ≤ 17000
                    omega
                · simp only [Go.Proofs.YtiildgoaiookhaaGreat.addSns] at hy
                  rcases List.mem_append.1 hy with hy | hy
                  · exact HLN.out.2 y hy
                  · simp only [List.mem_singleton] at hy
                    subst hy
                    exact HSNL.out)⟩, HE2⟩
              case measure => simp [intOf]; omega
        exact absurd (show num = 6 by omega) n6
      · obtain rfl : j = ms.length := by omega
        have HFD2 : Hid (ms.foldl (dstep ver) (dzero ms) = s.rk x.more) := Lib.hid (by have := HFD.out; rw [List.take_length] at this; exact this)
        have HKE2 : Hid (kreadE ver (ttrow b).1 = 0) := Lib.hid (by have := HKE.out; rw [List.take_length] at this; rw [← s_kreadE HSS.out]; exact this)
        have HTP := Lib.hid (fun W => ref04_Top 5 ver W)
        rw [show topL (specL 5 ver) = topS ver from rfl] at HTP
        have hrm := HMS.out.dfr hdf
        have HSP := Lib.hid (fun (W : World) (h : Ext wr W) => ref03_Split (topS ver) A1 ms.length c1 ms W ((hrm.fs rfl).ext h) (by omega))
        have HDE := Lib.hid (fun A c => dread_end (v := ver) (ms := ms) (s := s) (x := x) (A := A) (c := c) HFD2.out)
        obtain ⟨P, hP⟩ : ∃ P, P = ms.filter (loB (topS ver)) := ⟨_, rfl⟩
        obtain ⟨Q, hQ⟩ : ∃ Q, Q = ms.filter (fun f => !loB (topS ver) f) := ⟨_, rfl⟩
        have hPl : P.length ≤ 16384 := by rw [hP]; exact Nat.le_trans (List.length_filter_le _ _) hml
        have hQl : Q.length ≤ 16384 := by rw [hQ]; exact Nat.le_trans (List.length_filter_le _ _) hml
        have HPO : Hid (∀ f ∈ P, OwnF wr w.heap.size f) := Lib.hid (fun f hf => hrm.own f (List.mem_filter.1 (hP ▸ hf)).1)
        have HQO : Hid (∀ f ∈ Q, OwnF wr w.heap.size f) := Lib.hid (fun f hf => hrm.own f (List.mem_filter.1 (hQ ▸ hf)).1)
        have HQQ : Hid (Q = ms.filter (fun f => !loB (topS ver) f)) := Lib.hid hQ
        rw [← hP, ← hQ] at HSP HDE
        have HG4r := Lib.hid (HG4.out.dfs (by decide) (by omega) hdf)
        have HG5r := Lib.hid (HG5.out.dfs (by decide) (by omega) hdf)
        have HRR := Lib.hid hrd
        have hxr := Ext.refl wr
        clear hP hQ hrm hrd hdf HFD HKE HG4 HG5 HMS HES HEB HDS HMF HFD2
        go_upto_region 26 with fail
        go_wp2_with fail
        refine (HTP.out _).mono ?_
        rintro e w8 ⟨rfl, x8⟩
        go_wp2_with fail
        refine (HSP.out _ x8).mono ?_
        rintro e w9 ⟨vP, vQ, rfl, hoP, hoQ, x9'⟩
        have x9 := x8.trans x9'
        obtain ⟨AP, cP, rfl, _⟩ := own_form hoP
        obtain ⟨AQ, cQ, rfl, _⟩ := own_form hoQ
        have hbs8 := (HRR.out.ext.trans x8).size
        have hrp : OwnR w9 w.heap.size (.slice AP P.length cP) P := ⟨own_base hoP hbs8, fun f hf => (HPO.out f hf).ext x9⟩
        have HRQ9 : Hid (OwnR w9 w.heap.size (.slice AQ Q.length cQ) Q) := Lib.hid ⟨own_base hoQ hbs8, fun f hf => (HQO.out f hf).ext x9⟩
        have HN7 := Lib.hid (ref10_number AP P.length cP P 7 w9 (hrp.fs rfl) (by omega))
        have HI7 := Lib.hid (dnum_i64 P 7)
        generalize dnum P 7 = d7 at *
        have HR9 := Lib.hid (HRR.out.to x9)
        have HX9 := Lib.hid x9
        clear hoP hoQ x8 x9' x9 hrp hxr HTP HSP HPO HQO hbs8 HRR
        go_upto_region 27 with fail
        go_wp2_with fail
        refine HN7.out.mono ?_
        rintro e wA ⟨rfl, xA⟩
        have hrA := HR9.out.to xA
        have HRQA := Lib.hid (HRQ9.out.ext xA)
        have HDA := Lib.hid (DFr.of_ext (m := w.heap.size + 2) (HX9.out.trans xA))
        have o3 := hrA.bs.cell 3
        have y3 := hrA.bs.frozen 3
        simp only [List.getElem?_cons_zero, List.getElem?_cons_succ] at o3
        have hq := hrA.setQuota HI7.out
        have HRB := Lib.hid hq.1
        have HDB := Lib.hid (HDA.out.trans hq.2)
        have HRQB := Lib.hid (HRQA.out.dfr hq.2)
        clear hq hrA xA HN7 HR9 HX9 HRQ9 HRQA HDA HI7
        go_upto_region 28 with fail
        obtain ⟨s', hs'⟩ : ∃ s', s' = setQuota s d7 := ⟨_, rfl⟩
        rw [← hs'] at HRB HDE
        generalize wA.setCell ⟨g, 3, none⟩ (.int .i64 d7) = wB at *
        clear o3 y3
        have hrB := HRB.out
        have o0 := hrB.bx.cell 0
        have y0 := hrB.bx.frozen 0
        simp only [List.getElem?_cons_zero, List.getElem?_cons_succ] at o0
        have ht := hrB.setTop HRQB.out
        have HRC := Lib.hid ht.1
        have HDC := Lib.hid (HDB.out.trans ht.2)
        clear ht hrB HRB HDB HRQB
        go_upto_region 29 with fail
        obtain ⟨x', hx'⟩ : ∃ x', x' = setTop x AQ cQ Q := ⟨_, rfl⟩
        have HRK : Hid (s'.rk x'.more = dread ver ms) := Lib.hid (by rw [hx']; exact HDE.out AQ cQ)
        have HTQ : Hid (x'.top = Q ∧ x'.n1 = Q.length ∧ x'.n2 = x.n2 ∧ x'.sns = x.sns ∧ s'.n1 = s.n1 ∧ s'.n2 = s.n2 ∧ s'.n3 = s.n3 ∧ s'.sns = s.sns) := Lib.hid (by rw [hx', hs']; exact ⟨rfl, rfl, rfl, rfl, rfl, rfl, rfl, rfl⟩)
        rw [← hx'] at HRC
        clear hs' hx' HDE
        generalize wB.setCell ⟨g + 1, 0, none⟩ (.slice AQ Q.length cQ) = wC at *
        clear o0 y0
        have hrc := HRC.out
        have htq := HTQ.out
        have hsok := hrc.ok.ok
        have hxok := hrc.oz.ok
        have hsf : s'.Few := ⟨by omega, by omega, by omega, fun y hy => by rw [htq.2.2.2.2.2.2.2] at hy; have := HLN.out.2 y hy; omega⟩
        have hxf : x'.Few := ⟨by rw [htq.2.1]; omega, by omega, fun y hy => by rw [htq.2.2.2.1] at hy; have := HLN.out.1 y hy; omega⟩
        have HPUT := Lib.hid (ref10_Put s' x' ver wC hsok hxok hsf hxf)
        have HIS : Hid (kput ver s' x'.more x'.top = (b, 0) → IsKat ver b s' x'.more x'.top) := Lib.hid (fun h => kput_is h hxok.kt hxok.km)
        have HML : Hid (x'.more.length = s'.sns.length) := Lib.hid ((more_len x').trans hrc.len)
        have HNO : Hid (kput ver s' x'.more x'.top ≠ (b, 0) → KTaken ver b zeroK noneX.more noneX.top 6) := Lib.hid (fun h => dtaken_no HIN.out HZ1.out HZ2.out HKE2.out HSS.out HRK.out (by rw [htq.1, HQQ.out]) (Nat.le_of_eq HML.out) h ⟨rfl, rfl, rfl, rfl, rfl, rfl, rfl, rfl, rfl⟩)
        unfold PutPost KV.val XV.val at HPUT
        generalize kput ver s' x'.more x'.top = KP at *
        obtain ⟨p, ep⟩ := KP
        dsimp only at HPUT
        have HSF := Lib.hid (And.intro hsf hxf)
        have HG4c := Lib.hid (HG4r.out.dfs (by decide) (by omega) HDC.out)
        have HG5c := Lib.hid (HG5r.out.dfs (by decide) (by omega) HDC.out)
        have HBc := Lib.hid (HB.out.ext hrc.ext)
        have r0 := hrc.bs.cell 0
        have r1 := hrc.bs.cell 1
        have r2 := hrc.bs.cell 2
        have r3 := hrc.bs.cell 3
        have r4 := hrc.bs.cell 4
        have r5 := hrc.bs.cell 5
        have r6 := hrc.bs.cell 6
        simp only [List.getElem?_cons_zero, List.getElem?_cons_succ] at r0 r1 r2 r3 r4 r5 r6
        have y0 := hrc.bs.frozen 0
        have y1 := hrc.bs.frozen 1
        have y2 := hrc.bs.frozen 2
        have y3 := hrc.bs.frozen 3
        have y4 := hrc.bs.frozen 4
        have y5 := hrc.bs.frozen 5
        have y6 := hrc.bs.frozen 6
        have u0 := hrc.bx.cell 0
        have u1 := hrc.bx.cell 1
        simp only [List.getElem?_cons_zero, List.getElem?_cons_succ] at u0 u1
        have v0 := hrc.bx.frozen 0
        have v1 := hrc.bx.frozen 1
        clear hrc htq hsok hxok hsf hxf HG4r HG5r HDC HRK HTQ HLN HZ1 HZ2 HKE2 HSS HQQ HTOP HB HIN k1 k2 k3 k4
        go_wp2_with fail
        refine HPUT.out.mono ?_
        rintro e w6 ⟨v6, rfl, ho6, x6⟩
        obtain ⟨A6, c6, rfl, _⟩ := own_form ho6
        have hb6 : Bs w6 A6 p.length p := Bs.of_own ho6
        have hrd6 := HRC.out.to x6
        have HRD6 := Lib.hid hrd6
        have HB6 := Lib.hid (HBc.out.ext x6)
        have hG4 := HG4c.out.ext x6
        have hG5 := HG5c.out.ext x6
        have HXZ := Lib.hid hrd6.ext
        clear HPUT ho6 x6 HRC HBc HG4c HG5c r0 r1 r2 r3 r4 r5 r6 y0 y1 y2 y3 y4 y5 y6 u0 u1 v0 v1
        by_cases hep : ep = 0
        case neg =>
          have hcb2 := bne_t (show ((ep : Nat) : Int) ≠ 0 by omega)
          have HKT := Lib.hid (HNO.out (fun h => hep (Prod.mk.inj h).2))
          clear hep HIS HNO HML hb6 hrd6
          have g0 := hG4.cell 0
          have g1 := hG4.cell 1
          have g2 := hG4.cell 2
          have g3 := hG4.cell 3
          have g4 := hG4.cell 4
          have g5 := hG4.cell 5
          have g6 := hG4.cell 6
          simp only [List.getElem?_cons_zero, List.getElem?_cons_succ] at g0 g1 g2 g3 g4 g5 g6
          have p0 := hG4.frozen 0
          have p1 := hG4.frozen 1
          have p2 := hG4.frozen 2
          have p3 := hG4.frozen 3
          have p4 := hG4.frozen 4
          have p5 := hG4.frozen 5
          have p6 := hG4.frozen 6
          have k0 := hG5.cell 0
          have k1 := hG5.cell 1
          simp only [List.getElem?_cons_zero, List.getElem?_cons_succ] at k0 k1
          have q0 := hG5.frozen 0
          have q1 := hG5.frozen 1
          clear hG4 hG5
          go_wp2_with fail
          refine bodyPost_ret (v := .tuple #[.agg #[.int .i64 0, .int .i64 0, .int .i64 0, .int .i64 0, .slice none 0 0, .slice none 0 0, .slice none 0 0], .agg #[.slice none 0 0, .slice none 0 0], .int .i64 6]) (by simp [results, Tryz.results7, go_sem, g0, g1, g2, g3, g4, g5, g6, k0, k1]) rfl ?_
          refine (HE.out _ _).2 ⟨zeroK, noneX, 6, rfl, zeroK_ok _, noneX_ok _, zeroK_few, noneX_few, HKT.out, ?_⟩
          repeat (refine Ext.setCell ?_ (by simp) _)
          exact HXZ.out
        case pos =>
          subst hep
          have hst6 := str_at hb6 c6
          have hstb := str_at HB6.out c
          by_cases hpb : p = b
          case neg =>
            have hsne := bstr_ne hpb
            have HKT := Lib.hid (HNO.out (fun h => hpb (Prod.mk.inj h).1))
            clear hpb HIS HNO HML hb6 hrd6
            have g0 := hG4.cell 0
            have g1 := hG4.cell 1
            have g2 := hG4.cell 2
            have g3 := hG4.cell 3
            have g4 := hG4.cell 4
            have g5 := hG4.cell 5
            have g6 := hG4.cell 6
            simp only [List.getElem?_cons_zero, List.getElem?_cons_succ] at g0 g1 g2 g3 g4 g5 g6
            have p0 := hG4.frozen 0
            have p1 := hG4.frozen 1
            have p2 := hG4.frozen 2
            have p3 := hG4.frozen 3
            have p4 := hG4.frozen 4
            have p5 := hG4.frozen 5
            have p6 := hG4.frozen 6
            have k0 := hG5.cell 0
            have k1 := hG5.cell 1
            simp only [List.getElem?_cons_zero, List.getElem?_cons_succ] at k0 k1
            have q0 := hG5.frozen 0
            have q1 := hG5.frozen 1
            clear hG4 hG5
            go_wp2_with fail
            refine bodyPost_ret (v := .tuple #[.agg #[.int .i64 0, .int .i64 0, .int .i64 0, .int .i64 0, .slice none 0 0, .slice none 0 0, .slice none 0 0], .agg #[.slice none 0 0, .slice none 0 0], .int .i64 6]) (by simp [results, Tryz.results7, go_sem, g0, g1, g2, g3, g4, g5, g6, k0, k1]) rfl ?_
            refine (HE.out _ _).2 ⟨zeroK, noneX, 6, rfl, zeroK_ok _, noneX_ok _, zeroK_few, noneX_few, HKT.out, ?_⟩
            repeat (refine Ext.setCell ?_ (by simp) _)
            exact HXZ.out
          case pos =>
            subst hpb
            have HKT := Lib.hid (HIS.out rfl)
            have g0 := hG4.cell 0
            have g1 := hG4.cell 1
            have g2 := hG4.cell 2
            have g3 := hG4.cell 3
            have g4 := hG4.cell 4
            have g5 := hG4.cell 5
            have g6 := hG4.cell 6
            simp only [List.getElem?_cons_zero, List.getElem?_cons_succ] at g0 g1 g2 g3 g4 g5 g6
            have p0 := hG4.frozen 0
            have p1 := hG4.frozen 1
            have p2 := hG4.frozen 2
            have p3 := hG4.frozen 3
            have p4 := hG4.frozen 4
            have p5 := hG4.frozen 5
            have p6 := hG4.frozen 6
            have k0 := hG5.cell 0
            have k1 := hG5.cell 1
            simp only [List.getElem?_cons_zero, List.getElem?_cons_succ] at k0 k1
            have q0 := hG5.frozen 0
            have q1 := hG5.frozen 1
            have HSO : Hid (TE w w6 s' x') := Lib.hid ⟨hrd6.ok, hrd6.oz, ⟨_, hG4⟩, ⟨_, hG5⟩, hrd6.ext⟩
            have r0 := hrd6.bs.cell 0
            have r1 := hrd6.bs.cell 1
            have r2 := hrd6.bs.cell 2
            have r3 := hrd6.bs.cell 3
            have r4 := hrd6.bs.cell 4
            have r5 := hrd6.bs.cell 5
            have r6 := hrd6.bs.cell 6
            simp only [List.getElem?_cons_zero, List.getElem?_cons_succ] at r0 r1 r2 r3 r4 r5 r6
            have y0 := hrd6.bs.frozen 0
            have y1 := hrd6.bs.frozen 1
            have y2 := hrd6.bs.frozen 2
            have y3 := hrd6.bs.frozen 3
            have y4 := hrd6.bs.frozen 4
            have y5 := hrd6.bs.frozen 5
            have y6 := hrd6.bs.frozen 6
            have u0 := hrd6.bx.cell 0
            have u1 := hrd6.bx.cell 1
            simp only [List.getElem?_cons_zero, List.getElem?_cons_succ] at u0 u1
            have v0 := hrd6.bx.frozen 0
            have v1 := hrd6.bx.frozen 1
            clear HIS HNO hb6 hrd6 hG4 hG5 HB6
            go_upto_region 32 with fail
            clear hst6 hstb
            go_region_law (fail)
            all_goals
              clear r0 r1 r2 r3 r4 r5 r6 u0 u1
              go_wp2_with fail
              refine bodyPost_ret (v := .tuple #[.agg #[.int .i64 s'.ver, .int .i64 s'.next, .int .i64 s'.keep, .int .i64 s'.quota, .slice s'.A1 s'.n1 s'.c1, .slice s'.A2 s'.n2 s'.c2, .slice s'.A3 s'.n3 s'.c3], .agg #[.slice x'.A1 x'.n1 x'.c1, .slice x'.A2 x'.n2 x'.c2], .int .i64 0]) (by simp [results, Tryz.results7, go_sem, g0, g1, g2, g3, g4, g5, g6, k0, k1]) rfl ?_
              refine te_end (ver := ver) (b := p) (w := w) (s := s') (x := x') (POST := POST) HE.out ?_ HSF.out.1 HSF.out.2 HKT.out HML.out
              exact (((((((((HSO.out.s4 0 _).s4 1 _).s4 2 _).s4 3 _).s4 4 _).s4 5 _).s4 6 _).s5 0 _).s5 1 _).to (Ext.refl _).drew
/-- coracleref10.Take says what image.Take says -/
theorem ref10_Take (ver : Int) (A : Option Addr) (n c : Nat) (b : List UInt8) (w : World) (hb : Bs w A n b) (hn : n ≤ 100000) (hnc : n ≤ c) :
    Calls Tryz.prog 7 #[.slice A n c, .int .i64 ver] w (KTakePost ver b w) := by
  rcases hv : inI ver 1 3 with _ | _
  · exact ref10_Take_ver ver A n c b w hv
  · exact ref10_Take_in ver A n c b w hb hn hnc hv
end Go.Proofs.YtiildgoaiookhaaGreat
