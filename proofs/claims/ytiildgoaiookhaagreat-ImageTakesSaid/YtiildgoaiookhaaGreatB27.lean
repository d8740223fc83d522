/- Words and walks that the last text of this claim stands on: StD, StE. No condition. -/
import Derived.Test.YtiildgoaiookhaaGreatB08
import Derived.Deep.RegionHeld3
/- The document's Ints and Same of snapshots. (Printed by wip/tools/stref.py.) -/
namespace Go.Proofs.YtiildgoaiookhaaGreat
open Go.RowKit

set_option maxRecDepth 100000 in
set_option maxHeartbeats 800000 in
theorem ref05_Ints (A A' : Option Addr) (n n' c c' : Nat) (l m : List Int) (b : Bool) (hb : decide (l = m) = b) (w : World) (h1 : Is w A n l) (h2 : Is w A' n' m) (hn : n ≤ 1000000) (hn' : n' ≤ 1000000) :
    Calls Tryz.prog 89 #[.slice A n c, .slice A' n' c'] w fun e w' => e = .returned (.bool b) ∧ Ext w w' := by
  have hl1 := h1.len
  have hl2 := h2.len
  by_cases hnn : n = n'
  case neg =>
    have hf : b = false := by rw [← hb]; simp; intro e; rw [e] at hl1; omega
    subst hf
    have hk := bne_t (show ((n : Nat) : Int) ≠ n' by omega)
    have hk' := beq_f (show ((n : Nat) : Int) ≠ n' by omega)
    clear hb h1 h2 hl1 hl2
    go_enter Tryz.func89, Tryz.ntmps89
    go_wp2
    go_ret
    exact ⟨rfl, Ext.refl w⟩
  subst hnn
  have Hb := Lib.hid hb
  clear hb
  go_enter Tryz.func89, Tryz.ntmps89
  go_wp2_with fail
  go_loopw [5] (fun i wr => ∃ j : Nat, i = .int .i64 j ∧ j ≤ n ∧ l.take j = m.take j ∧ Ext w wr) (fun i _ => n - (intOf i).toNat)
  case atStart => exact ⟨0, rfl, by omega, rfl, Ext.refl w⟩
  case round =>
    obtain ⟨j, rfl, hj, hpre, hx⟩ := hrel
    by_cases hjn : j < n
    · have hjl : j < l.length := by omega
      have hjm : j < m.length := by omega
      obtain ⟨bb, off, rfl, c0⟩ := (h1.ext hx).at_ hjn
      obtain ⟨bb', off', rfl, d0⟩ := (h2.ext hx).at_ hjn
      have HE := Lib.hid (fun he => take_eq_snoc hjl hjm hpre he)
      have HNe := Lib.hid (fun he => take_ne hjl hjm he)
      generalize l[j] = f at *
      generalize m[j] = g at *
      clear hpre
      have hj0 : (0 : Int) ≤ j := by omega
      have hj1 : (j : Int) < n := by omega
      by_cases he : f = g
      · have H1 := Lib.hid (HE.out he)
        have hq := bne_f he
        clear HE HNe he
        go_wp2
        go_quiet (fail)
        go_wp2
        go_roundw
        case rel => exact ⟨j + 1, val_int (by omega), by omega, H1.out, hx.drewN _⟩
        case measure => simp [intOf]; omega
      · have H1 : Hid (b = false) := Lib.hid (by rw [← Hb.out]; simpa using HNe.out he)
        have hq := bne_t he
        clear HE HNe he
        go_wp2
        go_quiet (fail)
        go_wp2
        go_ret
        exact ⟨by rw [H1.out] <;> rfl, hx.drewN _⟩
    · obtain rfl : n = j := by omega
      rw [List.take_of_length_le (by omega), List.take_of_length_le (by omega)] at hpre
      have H1 : Hid (b = true) := Lib.hid (by rw [← Hb.out, hpre]; simp)
      clear hpre
      go_wp2
      go_ret
      exact ⟨by rw [H1.out] <;> rfl, hx⟩

set_option maxRecDepth 100000 in
set_option maxHeartbeats 1600000 in
theorem ref06_Same (f g : NV) (b : Bool) (hb : nvEq f g = b) (w : World) (hf : f.Ok w) (hg : g.Ok w) (hl : f.len ≤ 1000000) (hm : g.len ≤ 1000000) :
    Calls Tryz.prog 58 #[.agg f.cells.toArray, .agg g.cells.toArray] w fun e w' => e = .returned (.bool b) ∧ Ext w w' := by
  have hc1 := hf.cs
  have hc2 := hg.cs
  obtain ⟨a1, s1, A1, ln1, cp1, ch1, hd1, tg1⟩ := f
  obtain ⟨a2, s2, A2, ln2, cp2, ch2, hd2, tg2⟩ := g
  unfold NV.cells
  unfold nvEq at hb
  dsimp only at hb hc1 hc2 hl hm ⊢
  have xa : Ext w ((w.alloc (.cells #[.int .i64 a1, .int .i64 s1, .slice A1 ln1 cp1, .bool hd1, .string tg1] 70)).alloc (.cells #[.int .i64 a2, .int .i64 s2, .slice A2 ln2 cp2, .bool hd2, .string tg2] 70)) := ((Ext.refl w).alloc _).alloc _
  have hb1 : Blk ((w.alloc (.cells #[.int .i64 a1, .int .i64 s1, .slice A1 ln1 cp1, .bool hd1, .string tg1] 70)).alloc (.cells #[.int .i64 a2, .int .i64 s2, .slice A2 ln2 cp2, .bool hd2, .string tg2] 70)) w.heap.size 70 [.int .i64 a1, .int .i64 s1, .slice A1 ln1 cp1, .bool hd1, .string tg1] := (Blk.new w 70 [.int .i64 a1, .int .i64 s1, .slice A1 ln1 cp1, .bool hd1, .string tg1]).alloc _
  have hb2 : Blk ((w.alloc (.cells #[.int .i64 a1, .int .i64 s1, .slice A1 ln1 cp1, .bool hd1, .string tg1] 70)).alloc (.cells #[.int .i64 a2, .int .i64 s2, .slice A2 ln2 cp2, .bool hd2, .string tg2] 70)) (w.heap.size + 1) 70 [.int .i64 a2, .int .i64 s2, .slice A2 ln2 cp2, .bool hd2, .string tg2] := by
    have := Blk.new (w.alloc (.cells #[.int .i64 a1, .int .i64 s1, .slice A1 ln1 cp1, .bool hd1, .string tg1] 70)) 70 [.int .i64 a2, .int .i64 s2, .slice A2 ln2 cp2, .bool hd2, .string tg2]
    simpa using this
  have HC : Hid (∀ V, Ext ((w.alloc (.cells #[.int .i64 a1, .int .i64 s1, .slice A1 ln1 cp1, .bool hd1, .string tg1] 70)).alloc (.cells #[.int .i64 a2, .int .i64 s2, .slice A2 ln2 cp2, .bool hd2, .string tg2] 70)) V → V.cell? ⟨w.heap.size, 0, none⟩ = some (.int .i64 a1) ∧ V.cell? ⟨w.heap.size, 1, none⟩ = some (.int .i64 s1) ∧ V.cell? ⟨w.heap.size, 3, none⟩ = some (.bool hd1) ∧ V.cell? ⟨w.heap.size, 4, none⟩ = some (.string tg1) ∧ V.cell? ⟨w.heap.size + 1, 0, none⟩ = some (.int .i64 a2) ∧ V.cell? ⟨w.heap.size + 1, 1, none⟩ = some (.int .i64 s2) ∧ V.cell? ⟨w.heap.size + 1, 3, none⟩ = some (.bool hd2) ∧ V.cell? ⟨w.heap.size + 1, 4, none⟩ = some (.string tg2)) := Lib.hid (fun V y => ⟨(hb1.ext y).cell 0, (hb1.ext y).cell 1, (hb1.ext y).cell 3, (hb1.ext y).cell 4, (hb2.ext y).cell 0, (hb2.ext y).cell 1, (hb2.ext y).cell 3, (hb2.ext y).cell 4⟩)
  have HS := Lib.hid (ref05_Ints A1 A2 ln1 ln2 cp1 cp2 ch1 ch2 (decide (ch1 = ch2)) rfl ((w.alloc (.cells #[.int .i64 a1, .int .i64 s1, .slice A1 ln1 cp1, .bool hd1, .string tg1] 70)).alloc (.cells #[.int .i64 a2, .int .i64 s2, .slice A2 ln2 cp2, .bool hd2, .string tg2] 70)) (hc1.ext xa) (hc2.ext xa) hl hm)
  obtain ⟨q0, q1, q2, q3, p0, p1, p2, p3⟩ := HC.out _ (Ext.refl _)
  have r2 := hb1.cell 2
  have r3 := hb2.cell 2
  simp only [List.getElem?_cons_zero, List.getElem?_cons_succ] at r2 r3
  clear hf hg hc1 hc2 hb1 hb2
  generalize hr : decide (ch1 = ch2) = r at *
  clear hr
  have HI := HS
  clear HS
  by_cases h1 : a1 = a2
  case neg =>
    rw [dec_f h1, Bool.false_and] at hb
    subst hb
    have k := beq_f h1
    clear h1
    rcases r with _ | _
    all_goals
      go_enter Tryz.func58, Tryz.ntmps58
      go_wp2_with fail
      refine HI.out.mono ?_
      rintro e w1 ⟨rfl, y1⟩
      obtain ⟨k0, k1, k2, k3, m0, m1, m2, m3⟩ := HC.out _ y1
      go_wp2
      go_ret
      exact ⟨rfl, xa.trans y1⟩

  rw [dec_t h1, Bool.true_and] at hb
  subst h1
  by_cases h2 : s1 = s2
  case neg =>
    rw [dec_f h2, Bool.false_and] at hb
    subst hb
    have k := beq_f h2
    clear h2
    rcases r with _ | _
    all_goals
      go_enter Tryz.func58, Tryz.ntmps58
      go_wp2_with fail
      refine HI.out.mono ?_
      rintro e w1 ⟨rfl, y1⟩
      obtain ⟨k0, k1, k2, k3, m0, m1, m2, m3⟩ := HC.out _ y1
      go_wp2
      go_ret
      exact ⟨rfl, xa.trans y1⟩

  rw [dec_t h2, Bool.true_and] at hb
  subst h2
  by_cases h3 : hd1 = hd2
  case neg =>
    rw [dec_f h3, Bool.false_and] at hb
    subst hb
    rcases r with _ | _ <;> rcases hd1 with _ | _ <;> rcases hd2 with _ | _ <;> first | exact absurd rfl h3 | skip
    all_goals
      clear h3
      go_enter Tryz.func58, Tryz.ntmps58
      go_wp2_with fail
      refine HI.out.mono ?_
      rintro e w1 ⟨rfl, y1⟩
      obtain ⟨k0, k1, k2, k3, m0, m1, m2, m3⟩ := HC.out _ y1
      go_wp2
      go_ret
      exact ⟨rfl, xa.trans y1⟩

  rw [dec_t h3, Bool.true_and] at hb
  subst h3
  by_cases h4 : tg1 = tg2
  case neg =>
    rw [dec_f h4, Bool.false_and] at hb
    subst hb
    have k := bytes_ne h4
    clear h4
    rcases r with _ | _
    all_goals
      rcases hd1 with _ | _
      all_goals
        go_enter Tryz.func58, Tryz.ntmps58
        go_wp2_with fail
        refine HI.out.mono ?_
        rintro e w1 ⟨rfl, y1⟩
        obtain ⟨k0, k1, k2, k3, m0, m1, m2, m3⟩ := HC.out _ y1
        go_wp2
        go_ret
        exact ⟨rfl, xa.trans y1⟩

  rw [dec_t h4, Bool.true_and] at hb
  subst h4
  subst hb
  rcases r with _ | _
  all_goals
    rcases hd1 with _ | _
    all_goals
      go_enter Tryz.func58, Tryz.ntmps58
      go_wp2_with fail
      refine HI.out.mono ?_
      rintro e w1 ⟨rfl, y1⟩
      obtain ⟨k0, k1, k2, k3, m0, m1, m2, m3⟩ := HC.out _ y1
      go_wp2
      go_ret
      exact ⟨rfl, xa.trans y1⟩

set_option maxRecDepth 100000 in
set_option maxHeartbeats 1600000 in
theorem ref06_SameAll (A A' : Option Addr) (n n' c c' : Nat) (l m : List NV) (b : Bool) (hb : snsEq l m = b) (w : World) (h1 : Ts w A n l) (h2 : Ts w A' n' m) (hn : n ≤ 1000000) (hn' : n' ≤ 1000000) (hl1 : ∀ f ∈ l, f.len ≤ 1000000) (hl2 : ∀ f ∈ m, f.len ≤ 1000000) :
    Calls Tryz.prog 25 #[.slice A n c, .slice A' n' c'] w fun e w' => e = .returned (.bool b) ∧ Ext w w' := by
  have hlen1 := h1.len
  have hlen2 := h2.len
  by_cases hnn : n = n'
  case neg =>
    have hf : b = false := by rw [← hb]; exact snsEq_len (by omega)
    subst hf
    have hk := bne_t (show ((n : Nat) : Int) ≠ n' by omega)
    clear hb h1 h2 hl1 hl2 hlen1 hlen2
    go_enter Tryz.func25, Tryz.ntmps25
    go_wp2
    go_ret
    exact ⟨rfl, Ext.refl w⟩
  subst hnn
  have Hb := Lib.hid hb
  have L1 := Lib.hid hl1
  have L2 := Lib.hid hl2
  clear hb hl1 hl2
  go_enter Tryz.func25, Tryz.ntmps25
  go_wp2_with fail
  go_loopw [5] (fun i wr => ∃ j : Nat, i = .int .i64 j ∧ j ≤ n ∧ Hid (b = snsEq (l.drop j) (m.drop j)) ∧ Ext w wr) (fun i _ => n - (intOf i).toNat)
  case atStart => exact ⟨0, rfl, by omega, Lib.hid Hb.out.symm, Ext.refl w⟩
  case round =>
    obtain ⟨j, rfl, hj, HPRE, hx⟩ := hrel
    by_cases hjn : j < n
    · have hpre := HPRE.out
      have hjl : j < l.length := by omega
      have hjm : j < m.length := by omega
      obtain ⟨bb, off, rfl, hlt, hc⟩ := (h1.ext hx).at_ hjn
      obtain ⟨bb', off', rfl, hlt', hd⟩ := (h2.ext hx).at_ hjn
      have ok1 : NV.Ok l[j] wr := (h1.ext hx).ok l[j] (List.getElem_mem _)
      have ok2 : NV.Ok m[j] wr := (h2.ext hx).ok m[j] (List.getElem_mem _)
      have le1 := L1.out l[j] (List.getElem_mem _)
      have le2 := L2.out m[j] (List.getElem_mem _)
      rw [List.drop_eq_getElem_cons hjl, List.drop_eq_getElem_cons hjm, snsEq_cons] at hpre
      generalize l[j] = f at *
      generalize m[j] = g at *
      have HC : Hid (∀ V, Ext wr V → V.cell? ⟨bb, off + j * 5, none⟩ = some (.int .i64 f.id) ∧ V.cell? ⟨bb, off + j * 5 + 1, none⟩ = some (.int .i64 f.set) ∧ V.cell? ⟨bb, off + j * 5 + 2, none⟩ = some (.slice f.A f.len f.cap) ∧ V.cell? ⟨bb, off + j * 5 + 3, none⟩ = some (.bool f.held) ∧ V.cell? ⟨bb, off + j * 5 + 4, none⟩ = some (.string f.tag) ∧ V.cell? ⟨bb', off' + j * 5, none⟩ = some (.int .i64 g.id) ∧ V.cell? ⟨bb', off' + j * 5 + 1, none⟩ = some (.int .i64 g.set) ∧ V.cell? ⟨bb', off' + j * 5 + 2, none⟩ = some (.slice g.A g.len g.cap) ∧ V.cell? ⟨bb', off' + j * 5 + 3, none⟩ = some (.bool g.held) ∧ V.cell? ⟨bb', off' + j * 5 + 4, none⟩ = some (.string g.tag)) := Lib.hid (fun V y => ⟨y.cell (hc 0 (by omega)), y.cell (hc 1 (by omega)), y.cell (hc 2 (by omega)), y.cell (hc 3 (by omega)), y.cell (hc 4 (by omega)), y.cell (hd 0 (by omega)), y.cell (hd 1 (by omega)), y.cell (hd 2 (by omega)), y.cell (hd 3 (by omega)), y.cell (hd 4 (by omega))⟩)
      obtain ⟨c0, c1, c2, c3, c4, d0, d1, d2, d3, d4⟩ := HC.out _ (Ext.refl _)
      have hj0 : (0 : Int) ≤ j := by omega
      have hj1 : (j : Int) < n := by omega
      have HE := Lib.hid (fun b hb V (y : Ext wr V) => ref06_Same f g b hb V (ok1.ext y) (ok2.ext y) le1 le2)
      clear hc hd ok1 ok2 HPRE
      rcases he : nvEq f g with _ | _
      · rw [he, Bool.false_and] at hpre
        subst hpre
        have HE2 := Lib.hid (HE.out _ he)
        clear HE he Hb
        have yd : Ext wr wr.drew := (Ext.refl wr).drew
        go_upto_region 6 with fail
        go_region_held3 (fun V => V.cell? ⟨bb, off + j * 5, none⟩ = some (.int .i64 f.id) ∧ V.cell? ⟨bb, off + j * 5 + 1, none⟩ = some (.int .i64 f.set) ∧ V.cell? ⟨bb, off + j * 5 + 2, none⟩ = some (.slice f.A f.len f.cap) ∧ V.cell? ⟨bb, off + j * 5 + 3, none⟩ = some (.bool f.held) ∧ V.cell? ⟨bb, off + j * 5 + 4, none⟩ = some (.string f.tag) ∧ V.cell? ⟨bb', off' + j * 5, none⟩ = some (.int .i64 g.id) ∧ V.cell? ⟨bb', off' + j * 5 + 1, none⟩ = some (.int .i64 g.set) ∧ V.cell? ⟨bb', off' + j * 5 + 2, none⟩ = some (.slice g.A g.len g.cap) ∧ V.cell? ⟨bb', off' + j * 5 + 3, none⟩ = some (.bool g.held) ∧ V.cell? ⟨bb', off' + j * 5 + 4, none⟩ = some (.string g.tag))
          (first | (exact HC.out _ y1) | (exact HC.out _ yd) | go_keep)
          (first | (go_at_call 58; refine (HE2.out _ yd).mono ?_; rintro e w1 ⟨rfl, y1'⟩; have y1 := yd.trans y1'))
        go_wp2
        go_ret
        exact ⟨rfl, hx.trans y1⟩
      · rw [he, Bool.true_and] at hpre
        have HP := Lib.hid hpre
        have HE2 := Lib.hid (HE.out _ he)
        clear HE he hpre
        have yd : Ext wr wr.drew := (Ext.refl wr).drew
        go_upto_region 6 with fail
        go_region_held3 (fun V => V.cell? ⟨bb, off + j * 5, none⟩ = some (.int .i64 f.id) ∧ V.cell? ⟨bb, off + j * 5 + 1, none⟩ = some (.int .i64 f.set) ∧ V.cell? ⟨bb, off + j * 5 + 2, none⟩ = some (.slice f.A f.len f.cap) ∧ V.cell? ⟨bb, off + j * 5 + 3, none⟩ = some (.bool f.held) ∧ V.cell? ⟨bb, off + j * 5 + 4, none⟩ = some (.string f.tag) ∧ V.cell? ⟨bb', off' + j * 5, none⟩ = some (.int .i64 g.id) ∧ V.cell? ⟨bb', off' + j * 5 + 1, none⟩ = some (.int .i64 g.set) ∧ V.cell? ⟨bb', off' + j * 5 + 2, none⟩ = some (.slice g.A g.len g.cap) ∧ V.cell? ⟨bb', off' + j * 5 + 3, none⟩ = some (.bool g.held) ∧ V.cell? ⟨bb', off' + j * 5 + 4, none⟩ = some (.string g.tag))
          (first | (exact HC.out _ y1) | (exact HC.out _ yd) | go_keep)
          (first | (go_at_call 58; refine (HE2.out _ yd).mono ?_; rintro e w1 ⟨rfl, y1'⟩; have y1 := yd.trans y1'))
        go_wp2_with fail
        go_roundw
        case rel => exact ⟨j + 1, val_int (by omega), by omega, HP, hx.trans y1⟩
        case measure => simp [intOf]; omega
    · obtain rfl : n = j := by omega
      have hpre := HPRE.out
      rw [List.drop_of_length_le (by omega), List.drop_of_length_le (by omega)] at hpre
      have HP : Hid (b = true) := Lib.hid hpre
      clear hpre HPRE
      go_wp2
      go_ret
      exact ⟨by rw [HP.out] <;> rfl, hx⟩
end Go.Proofs.YtiildgoaiookhaaGreat

/- coracleref07.Same. (Printed by wip/tools/stref7.py.) -/
namespace Go.Proofs.YtiildgoaiookhaaGreat
open Go.RowKit

set_option maxRecDepth 100000 in
set_option maxHeartbeats 6400000 in
theorem ref07_Same (s t : KV) (b : Bool) (hb : kSame s t = b) (w : World) (hs : s.Ok w) (ht : t.Ok w) (fs : s.Few) (ft : t.Few) :
    Calls Tryz.prog 8 #[s.val, t.val] w fun e w' => e = .returned (.bool b) ∧ Ext w w' := by
  obtain ⟨g1, g2, g3, g4⟩ := fs
  obtain ⟨f1, f2, f3, f4⟩ := ft
  have S1 := hs.t1
  have S2 := hs.t2
  have S3 := hs.t3
  have U1 := ht.t1
  have U2 := ht.t2
  have U3 := ht.t3
  clear hs ht
  obtain ⟨v1, x1, k1, u1, A1, n1, c1, l1, B1, m1, d1, o1, C1, p1, e1, q1⟩ := s
  obtain ⟨v2, x2, k2, u2, A2, n2, c2, l2, B2, m2, d2, o2, C2, p2, e2, q2⟩ := t
  unfold KV.val
  unfold kSame at hb
  dsimp only at *
  have xa : Ext w ((w.alloc (.cells #[.int .i64 v1, .int .i64 x1, .int .i64 k1, .int .i64 u1, .slice A1 n1 c1, .slice B1 m1 d1, .slice C1 p1 e1] 29)).alloc (.cells #[.int .i64 v2, .int .i64 x2, .int .i64 k2, .int .i64 u2, .slice A2 n2 c2, .slice B2 m2 d2, .slice C2 p2 e2] 29)) := ((Ext.refl w).alloc _).alloc _
  have hb1 : Blk ((w.alloc (.cells #[.int .i64 v1, .int .i64 x1, .int .i64 k1, .int .i64 u1, .slice A1 n1 c1, .slice B1 m1 d1, .slice C1 p1 e1] 29)).alloc (.cells #[.int .i64 v2, .int .i64 x2, .int .i64 k2, .int .i64 u2, .slice A2 n2 c2, .slice B2 m2 d2, .slice C2 p2 e2] 29)) w.heap.size 29 [.int .i64 v1, .int .i64 x1, .int .i64 k1, .int .i64 u1, .slice A1 n1 c1, .slice B1 m1 d1, .slice C1 p1 e1] := (Blk.new w 29 [.int .i64 v1, .int .i64 x1, .int .i64 k1, .int .i64 u1, .slice A1 n1 c1, .slice B1 m1 d1, .slice C1 p1 e1]).alloc _
  have hb2 : Blk ((w.alloc (.cells #[.int .i64 v1, .int .i64 x1, .int .i64 k1, .int .i64 u1, .slice A1 n1 c1, .slice B1 m1 d1, .slice C1 p1 e1] 29)).alloc (.cells #[.int .i64 v2, .int .i64 x2, .int .i64 k2, .int .i64 u2, .slice A2 n2 c2, .slice B2 m2 d2, .slice C2 p2 e2] 29)) (w.heap.size + 1) 29 [.int .i64 v2, .int .i64 x2, .int .i64 k2, .int .i64 u2, .slice A2 n2 c2, .slice B2 m2 d2, .slice C2 p2 e2] := by
    have := Blk.new (w.alloc (.cells #[.int .i64 v1, .int .i64 x1, .int .i64 k1, .int .i64 u1, .slice A1 n1 c1, .slice B1 m1 d1, .slice C1 p1 e1] 29)) 29 [.int .i64 v2, .int .i64 x2, .int .i64 k2, .int .i64 u2, .slice A2 n2 c2, .slice B2 m2 d2, .slice C2 p2 e2]
    simpa using this
  have HC : Hid (∀ V, Ext ((w.alloc (.cells #[.int .i64 v1, .int .i64 x1, .int .i64 k1, .int .i64 u1, .slice A1 n1 c1, .slice B1 m1 d1, .slice C1 p1 e1] 29)).alloc (.cells #[.int .i64 v2, .int .i64 x2, .int .i64 k2, .int .i64 u2, .slice A2 n2 c2, .slice B2 m2 d2, .slice C2 p2 e2] 29)) V → V.cell? ⟨w.heap.size, 0, none⟩ = some (.int .i64 v1) ∧ V.cell? ⟨w.heap.size, 1, none⟩ = some (.int .i64 x1) ∧ V.cell? ⟨w.heap.size, 2, none⟩ = some (.int .i64 k1) ∧ V.cell? ⟨w.heap.size, 3, none⟩ = some (.int .i64 u1) ∧ V.cell? ⟨w.heap.size, 4, none⟩ = some (.slice A1 n1 c1) ∧ V.cell? ⟨w.heap.size, 5, none⟩ = some (.slice B1 m1 d1) ∧ V.cell? ⟨w.heap.size, 6, none⟩ = some (.slice C1 p1 e1) ∧ V.cell? ⟨w.heap.size + 1, 0, none⟩ = some (.int .i64 v2) ∧ V.cell? ⟨w.heap.size + 1, 1, none⟩ = some (.int .i64 x2) ∧ V.cell? ⟨w.heap.size + 1, 2, none⟩ = some (.int .i64 k2) ∧ V.cell? ⟨w.heap.size + 1, 3, none⟩ = some (.int .i64 u2) ∧ V.cell? ⟨w.heap.size + 1, 4, none⟩ = some (.slice A2 n2 c2) ∧ V.cell? ⟨w.heap.size + 1, 5, none⟩ = some (.slice B2 m2 d2) ∧ V.cell? ⟨w.heap.size + 1, 6, none⟩ = some (.slice C2 p2 e2)) := Lib.hid (fun V y => ⟨(hb1.ext y).cell 0, (hb1.ext y).cell 1, (hb1.ext y).cell 2, (hb1.ext y).cell 3, (hb1.ext y).cell 4, (hb1.ext y).cell 5, (hb1.ext y).cell 6, (hb2.ext y).cell 0, (hb2.ext y).cell 1, (hb2.ext y).cell 2, (hb2.ext y).cell 3, (hb2.ext y).cell 4, (hb2.ext y).cell 5, (hb2.ext y).cell 6⟩)
  replace S1 := S1.ext xa
  replace S2 := S2.ext xa
  replace S3 := S3.ext xa
  replace U1 := U1.ext xa
  replace U2 := U2.ext xa
  replace U3 := U3.ext xa
  clear hb1 hb2
  have hl1 := S1.len
  have hl2 := U1.len
  have hm1 := S2.len
  have hm2 := U2.len
  obtain ⟨s0, s1, s2, s3, s4, s5, s6, t0, t1, t2, t3, t4, t5, t6⟩ := HC.out _ (Ext.refl _)
  by_cases h1 : v1 = v2
  case neg =>
    have hf : b = false := by rw [← hb, dec_f h1]; simp
    subst hf
    have z := bne_t h1
    clear h1 hb HC
    go_enter Tryz.func8, Tryz.ntmps8
    go_wp2
    go_ret
    exact ⟨rfl, xa⟩
  rw [dec_t h1, Bool.true_and] at hb
  subst h1
  by_cases h2 : x1 = x2
  case neg =>
    have hf : b = false := by rw [← hb, dec_f h2]; simp
    subst hf
    have z := bne_t h2
    clear h2 hb HC
    go_enter Tryz.func8, Tryz.ntmps8
    go_wp2
    go_ret
    exact ⟨rfl, xa⟩
  rw [dec_t h2, Bool.true_and] at hb
  subst h2
  by_cases h3 : k1 = k2
  case neg =>
    have hf : b = false := by rw [← hb, dec_f h3]; simp
    subst hf
    have z := bne_t h3
    clear h3 hb HC
    go_enter Tryz.func8, Tryz.ntmps8
    go_wp2
    go_ret
    exact ⟨rfl, xa⟩
  rw [dec_t h3, Bool.true_and] at hb
  subst h3
  by_cases h4 : u1 = u2
  case neg =>
    have hf : b = false := by rw [← hb, dec_f h4]; simp
    subst hf
    have z := bne_t h4
    clear h4 hb HC
    go_enter Tryz.func8, Tryz.ntmps8
    go_wp2
    go_ret
    exact ⟨rfl, xa⟩
  rw [dec_t h4, Bool.true_and] at hb
  subst h4
  by_cases h5 : n1 = n2
  case neg =>
    have hf : b = false := by rw [← hb]; rw [dec_f (show ¬ l1 = l2 from fun e => by rw [e] at hl1; omega)]; simp
    subst hf
    have z := bne_t (show ((n1 : Nat) : Int) ≠ n2 by omega)
    clear h5 hb HC
    go_enter Tryz.func8, Tryz.ntmps8
    go_wp2
    go_ret
    exact ⟨rfl, xa⟩
  subst h5
  by_cases h6 : m1 = m2
  case neg =>
    have hf : b = false := by rw [← hb]; rw [dec_f (show ¬ o1 = o2 from fun e => by rw [e] at hm1; omega)]; simp
    subst hf
    have z := bne_t (show ((m1 : Nat) : Int) ≠ m2 by omega)
    clear h6 hb HC
    go_enter Tryz.func8, Tryz.ntmps8
    go_wp2
    go_ret
    exact ⟨rfl, xa⟩
  subst h6
  have Hb := Lib.hid hb
  clear hb
  go_enter Tryz.func8, Tryz.ntmps8
  clear s0 s1 s2 s3 s4 s5 s6 t0 t1 t2 t3 t4 t5 t6
  obtain ⟨s0, s1, s2, s3, s4, s5, s6, t0, t1, t2, t3, t4, t5, t6⟩ := HC.out _ (Ext.refl _)
  go_wp2_with fail
  go_loopw [5] (fun i wr => ∃ j : Nat, i = .int .i64 j ∧ j ≤ n1 ∧ Hid (l1.take j = l2.take j) ∧ Ext ((w.alloc (.cells #[.int .i64 v1, .int .i64 x1, .int .i64 k1, .int .i64 u1, .slice A1 n1 c1, .slice B1 m1 d1, .slice C1 p1 e1] 29)).alloc (.cells #[.int .i64 v1, .int .i64 x1, .int .i64 k1, .int .i64 u1, .slice A2 n1 c2, .slice B2 m1 d2, .slice C2 p2 e2] 29)) wr) (fun i _ => n1 - (intOf i).toNat)
  case atStart => exact ⟨0, rfl, by omega, Lib.hid rfl, Ext.refl _⟩
  case round =>
    obtain ⟨j, rfl, hj, HPRE, hx⟩ := hrel
    obtain ⟨s0, s1, s2, s3, s4, s5, s6, t0, t1, t2, t3, t4, t5, t6⟩ := HC.out _ (hx)
    by_cases hjn : j < n1
    · have hpre := HPRE.out
      have hjl : j < l1.length := by omega
      have hjm : j < l2.length := by omega
      obtain ⟨bb, off, rfl, hlt, hc⟩ := (S1.ext hx).at_ hjn
      obtain ⟨bk, ofk, rfl, hlt', hd⟩ := (U1.ext hx).at_ hjn
      have HE := Lib.hid (fun he => take_eq_snoc hjl hjm hpre he)
      have HNe := Lib.hid (fun he => take_ne hjl hjm he)
      generalize l1[j] = f at *
      generalize l2[j] = g at *
      have cf0 : wr.cell? ⟨bb, off + j * 4, none⟩ = some (.int .i64 f.client) := hc 0 (by omega)
      have cf1 : wr.cell? ⟨bb, off + j * 4 + 1, none⟩ = some (.int .i64 f.seq) := hc 1 (by omega)
      have cf2 : wr.cell? ⟨bb, off + j * 4 + 2, none⟩ = some (.int .i64 f.code) := hc 2 (by omega)
      have cf3 : wr.cell? ⟨bb, off + j * 4 + 3, none⟩ = some (.int .i64 f.n) := hc 3 (by omega)
      have cg0 : wr.cell? ⟨bk, ofk + j * 4, none⟩ = some (.int .i64 g.client) := hd 0 (by omega)
      have cg1 : wr.cell? ⟨bk, ofk + j * 4 + 1, none⟩ = some (.int .i64 g.seq) := hd 1 (by omega)
      have cg2 : wr.cell? ⟨bk, ofk + j * 4 + 2, none⟩ = some (.int .i64 g.code) := hd 2 (by omega)
      have cg3 : wr.cell? ⟨bk, ofk + j * 4 + 3, none⟩ = some (.int .i64 g.n) := hd 3 (by omega)
      clear hc hd hpre HPRE
      have hj0 : (0 : Int) ≤ j := by omega
      have hj1 : (j : Int) < n1 := by omega
      by_cases he : f = g
      · have H1 := Lib.hid (HE.out he)
        have hq := fun w => run_neq_cv f g w
        rw [show decide (f = g) = true by simp [he]] at hq
        simp only [Bool.not_true] at hq
        clear HE HNe he
        go_wp2
        go_quiet (fail)
        go_wp2
        go_roundw
        case rel => exact ⟨j + 1, val_int (by omega), by omega, H1, hx.drewN _⟩
        case measure => simp [intOf]; omega
      · have H1 : Hid (b = false) := Lib.hid (by rw [← Hb.out, dec_f (HNe.out he)]; simp)
        have hq := fun w => run_neq_cv f g w
        rw [show decide (f = g) = false by simp [he]] at hq
        simp only [Bool.not_false] at hq
        clear HE HNe he
        go_wp2
        go_quiet (fail)
        go_wp2
        go_ret
        exact ⟨by rw [H1.out] <;> rfl, xa.trans (hx.drewN _)⟩
    · obtain rfl : n1 = j := by omega
      have hpre := HPRE.out
      rw [List.take_of_length_le (by omega), List.take_of_length_le (by omega)] at hpre
      have hpre0 := hpre
      have hx0 := hx
      have S2w := S2.ext hx
      have U2w := U2.ext hx
      clear hpre HPRE hx
      generalize hwr : wr = wr0 at *
      clear hwr
      go_wp2_with fail
      go_loopw [6] (fun i wr => ∃ j : Nat, i = .int .i64 j ∧ j ≤ m1 ∧ Hid (o1.take j = o2.take j) ∧ Ext wr0 wr) (fun i _ => m1 - (intOf i).toNat)
      case atStart => exact ⟨0, rfl, by omega, Lib.hid rfl, Ext.refl _⟩
      case round =>
        obtain ⟨j, rfl, hj, HPRE, hx⟩ := hrel
        obtain ⟨s0, s1, s2, s3, s4, s5, s6, t0, t1, t2, t3, t4, t5, t6⟩ := HC.out _ ((hx0.trans hx))
        by_cases hjn : j < m1
        · have hpre := HPRE.out
          have hjl : j < o1.length := by omega
          have hjm : j < o2.length := by omega
          obtain ⟨bb, off, rfl, hlt, hc⟩ := (S2w.ext hx).at_ hjn
          obtain ⟨bk, ofk, rfl, hlt', hd⟩ := (U2w.ext hx).at_ hjn
          have HE := Lib.hid (fun he => take_eq_snoc hjl hjm hpre he)
          have HNe := Lib.hid (fun he => take_ne hjl hjm he)
          generalize o1[j] = f at *
          generalize o2[j] = g at *
          have cf0 : wr.cell? ⟨bb, off + j * 2, none⟩ = some (.int .i64 f.set) := hc 0 (by omega)
          have cf1 : wr.cell? ⟨bb, off + j * 2 + 1, none⟩ = some (.int .i64 f.client) := hc 1 (by omega)
          have cg0 : wr.cell? ⟨bk, ofk + j * 2, none⟩ = some (.int .i64 g.set) := hd 0 (by omega)
          have cg1 : wr.cell? ⟨bk, ofk + j * 2 + 1, none⟩ = some (.int .i64 g.client) := hd 1 (by omega)
          clear hc hd hpre HPRE
          have hj0 : (0 : Int) ≤ j := by omega
          have hj1 : (j : Int) < m1 := by omega
          by_cases he : f = g
          · have H1 := Lib.hid (HE.out he)
            have hq := fun w => run_neq_ov f g w
            rw [show decide (f = g) = true by simp [he]] at hq
            simp only [Bool.not_true] at hq
            clear HE HNe he
            go_wp2
            go_quiet (fail)
            go_wp2
            go_roundw
            case rel => exact ⟨j + 1, val_int (by omega), by omega, H1, hx.drewN _⟩
            case measure => simp [intOf]; omega
          · have H1 : Hid (b = false) := Lib.hid (by rw [← Hb.out, dec_t hpre0, Bool.true_and, dec_f (HNe.out he)]; simp)
            have hq := fun w => run_neq_ov f g w
            rw [show decide (f = g) = false by simp [he]] at hq
            simp only [Bool.not_false] at hq
            clear HE HNe he
            go_wp2
            go_quiet (fail)
            go_wp2
            go_ret
            exact ⟨by rw [H1.out] <;> rfl, (xa.trans hx0).trans (hx.drewN _)⟩
        · obtain rfl : m1 = j := by omega
          have hpre := HPRE.out
          rw [List.take_of_length_le (by omega), List.take_of_length_le (by omega)] at hpre
          have hb3 := Hb.out
          rw [dec_t hpre0, Bool.true_and, dec_t hpre, Bool.true_and] at hb3
          have HA := Lib.hid (ref06_SameAll C1 C2 p1 p2 e1 e2 q1 q2 b hb3 wr (S3.ext (hx0.trans hx)) (U3.ext (hx0.trans hx)) g3 f3 g4 f4)
          have xf := (xa.trans hx0).trans hx
          clear hpre hpre0 HPRE Hb hb3
          go_wp2_with fail
          refine HA.out.mono ?_
          rintro e w9 ⟨rfl, y9⟩
          go_wp2
          go_ret
          exact ⟨rfl, xf.trans y9⟩
end Go.Proofs.YtiildgoaiookhaaGreat
