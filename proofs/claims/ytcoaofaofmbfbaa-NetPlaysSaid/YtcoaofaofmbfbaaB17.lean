/- Words and walks that the last text of this claim stands on: LtU. No condition. -/
import Derived.Test.YtcoaofaofmbfbaaB16
/- coracleref03.Same, coracleref11.SameLog, coracleref16.Same, at any two. (Printed by wip/tools/ltsame.py.) -/
namespace Go.Proofs.Ytcoaofaofmbfbaa
open Go.RowKit

/-- a field without where its bytes lie -/
def FV.q (f : FV) : Int × Int × Nat × List UInt8 := (f.num, f.wire, f.n, f.b)
def fsEq (l m : List FV) : Bool := decide (l.map FV.q = m.map FV.q)
theorem fsEq_cons (a b : FV) (l m : List FV) : fsEq (a :: l) (b :: m) = (decide (a.num = b.num) && (decide (a.wire = b.wire) && (decide (a.n = b.n) && (decide (a.b = b.b) && fsEq l m)))) := by
  unfold fsEq
  simp only [List.map_cons, List.cons.injEq, FV.q, Prod.mk.injEq, Bool.decide_and, Bool.and_assoc]
theorem fsEq_len {l m : List FV} (h : l.length ≠ m.length) : fsEq l m = false := by
  unfold fsEq
  have : ¬ l.map FV.q = m.map FV.q := fun e => by have := congrArg List.length e; simp at this; exact h this
  simp [this]
theorem fsEq_s {l m : List FV} (hl : ∀ f ∈ l, f.len = f.b.length) (hm : ∀ f ∈ m, f.len = f.b.length) : fsEq l m = true ↔ l.map FV.s = m.map FV.s := by
  unfold fsEq
  rw [decide_eq_true_iff]
  have e : ∀ l : List FV, (∀ f ∈ l, f.len = f.b.length) → l.map FV.s = (l.map FV.q).map fun p => (p.1, p.2.1, p.2.2.1, p.2.2.2.length, p.2.2.2) := by
    intro l h
    rw [List.map_map]
    exact List.map_congr_left fun f hf => by simp [FV.s, FV.q, h f hf]
  have e2 : ∀ l : List FV, l.map FV.q = (l.map FV.s).map fun p => (p.1, p.2.1, p.2.2.1, p.2.2.2.2) := by
    intro l; rw [List.map_map]; rfl
  constructor
  · intro h; rw [e l hl, e m hm, h]
  · intro h; rw [e2, e2, h]

set_option maxRecDepth 100000 in
set_option maxHeartbeats 3200000 in
theorem ref03_SameB (A A' : Option Addr) (n n' c c' : Nat) (l m : List FV) (b : Bool) (hb : fsEq l m = b) (w : World) (h1 : Fs w A n l) (h2 : Fs w A' n' m) (hn : n ≤ 1000000) (hn' : n' ≤ 1000000) :
    Calls Try.prog 20 #[.slice A n c, .slice A' n' c'] w fun e w' => e = .returned (.bool b) ∧ Ext w w' := by
  have hlen1 := h1.len
  have hlen2 := h2.len
  by_cases hnn : n = n'
  case neg =>
    have hf : b = false := by rw [← hb]; exact fsEq_len (by omega)
    subst hf
    have hk := bne_t (show ((n : Nat) : Int) ≠ n' by omega)
    clear hb h1 h2 hlen1 hlen2
    go_enter Try.func20, Try.ntmps20
    go_wp2
    go_ret
    exact ⟨rfl, Ext.refl w⟩
  subst hnn
  have Hb := Lib.hid hb
  clear hb
  go_enter Try.func20, Try.ntmps20
  go_wp2_with fail
  go_loopw [5] (fun i wr => ∃ j : Nat, i = .int .i64 j ∧ j ≤ n ∧ b = fsEq (l.drop j) (m.drop j) ∧ Ext w wr) (fun i _ => n - (intOf i).toNat)
  case atStart => exact ⟨0, rfl, by omega, Hb.out.symm, Ext.refl w⟩
  case round =>
    obtain ⟨j, rfl, hj, hpre, hx⟩ := hrel
    by_cases hjn : j < n
    · have hjl : j < l.length := by omega
      have hjm : j < m.length := by omega
      obtain ⟨bb, off, rfl, c0, c1, c2, c3⟩ := (h1.ext hx).at_ hjn
      obtain ⟨bb', off', rfl, d0, d1, d2, d3⟩ := (h2.ext hx).at_ hjn
      have k1 := (h1.ext hx).ok l[j] (List.getElem_mem _)
      have k2 := (h2.ext hx).ok m[j] (List.getElem_mem _)
      rw [List.drop_eq_getElem_cons hjl, List.drop_eq_getElem_cons hjm, fsEq_cons] at hpre
      generalize l[j] = f at *
      generalize m[j] = g at *
      have b1 := k1.bs
      have b2 := k2.bs
      clear k1 k2 h1 h2 hlen1 hlen2
      have hsA := fun k => str_at (b1.drewN k) f.cap
      have hsB := fun k => str_at (b2.drewN k) g.cap
      clear b1 b2
      have hj0 : (0 : Int) ≤ j := by omega
      have hj1 : (j : Int) < n := by omega
      obtain ⟨fnum, fwire, fn, fA, flen, fcap, fb⟩ := f
      obtain ⟨gnum, gwire, gn, gA, glen, gcap, gb⟩ := g
      dsimp only at hpre hsA hsB c0 d0 c1 d1 c2 d2 c3 d3
      by_cases tnum : fnum = gnum
      case neg =>
        have hf : Hid (b = false) := Lib.hid (by rw [hpre, dec_f tnum]; simp only [Bool.false_and])
        have z := bne_t tnum
        clear tnum hpre
        go_wp2
        go_quiet (fail)
        go_wp2
        go_ret
        exact ⟨by rw [hf.out] <;> rfl, hx.drewN _⟩
      rw [dec_t tnum, Bool.true_and] at hpre
      subst tnum
      by_cases twire : fwire = gwire
      case neg =>
        have hf : Hid (b = false) := Lib.hid (by rw [hpre, dec_f twire]; simp only [Bool.false_and])
        have z := bne_t twire
        clear twire hpre
        go_wp2
        go_quiet (fail)
        go_wp2
        go_ret
        exact ⟨by rw [hf.out] <;> rfl, hx.drewN _⟩
      rw [dec_t twire, Bool.true_and] at hpre
      subst twire
      by_cases tn : fn = gn
      case neg =>
        have hf : Hid (b = false) := Lib.hid (by rw [hpre, dec_f tn]; simp only [Bool.false_and])
        have z := bne_t (show ((fn : Nat) : Int) ≠ gn by omega)
        clear tn hpre
        go_wp2
        go_quiet (fail)
        go_wp2
        go_ret
        exact ⟨by rw [hf.out] <;> rfl, hx.drewN _⟩
      rw [dec_t tn, Bool.true_and] at hpre
      subst tn
      by_cases tb : fb = gb
      case neg =>
        have hf : Hid (b = false) := Lib.hid (by rw [hpre, dec_f tb]; simp only [Bool.false_and])
        have z := bstr_ne tb
        generalize bstr fb = P at *
        generalize bstr gb = Q at *
        clear tb hpre
        go_wp2
        go_quiet (fail)
        go_wp2
        go_ret
        exact ⟨by rw [hf.out] <;> rfl, hx.drewN _⟩
      rw [dec_t tb, Bool.true_and] at hpre
      subst tb
      have HP := Lib.hid hpre
      clear hpre
      go_wp2
      go_quiet (fail)
      go_wp2
      go_roundw
      case rel => exact ⟨j + 1, val_int (by omega), by omega, HP.out, hx.drewN _⟩
      case measure => simp [intOf]; omega
    · obtain rfl : n = j := by omega
      rw [List.drop_of_length_le (by omega), List.drop_of_length_le (by omega)] at hpre
      have HP : Hid (b = true) := Lib.hid hpre
      clear hpre
      go_wp2
      go_ret
      exact ⟨by rw [HP.out] <;> rfl, hx⟩

set_option maxRecDepth 100000 in
set_option maxHeartbeats 3200000 in
theorem ref11_SameLogB (A A' : Option Addr) (n n' c c' : Nat) (l m : List EV) (b : Bool) (hb : entEq l m = b) (w : World) (h1 : Es w A n l) (h2 : Es w A' n' m) (hn : n ≤ 1000000) (hn' : n' ≤ 1000000) :
    Calls Try.prog 55 #[.slice A n c, .slice A' n' c'] w fun e w' => e = .returned (.bool b) ∧ Ext w w' := by
  have hlen1 := h1.len
  have hlen2 := h2.len
  by_cases hnn : n = n'
  case neg =>
    have hf : b = false := by rw [← hb]; exact entEq_len (by omega)
    subst hf
    have hk := bne_t (show ((n : Nat) : Int) ≠ n' by omega)
    clear hb h1 h2 hlen1 hlen2
    go_enter Try.func55, Try.ntmps55
    go_wp2
    go_ret
    exact ⟨rfl, Ext.refl w⟩
  subst hnn
  have Hb := Lib.hid hb
  clear hb
  go_enter Try.func55, Try.ntmps55
  go_wp2_with fail
  go_loopw [5] (fun i wr => ∃ j : Nat, i = .int .i64 j ∧ j ≤ n ∧ b = entEq (l.drop j) (m.drop j) ∧ Ext w wr) (fun i _ => n - (intOf i).toNat)
  case atStart => exact ⟨0, rfl, by omega, Hb.out.symm, Ext.refl w⟩
  case round =>
    obtain ⟨j, rfl, hj, hpre, hx⟩ := hrel
    by_cases hjn : j < n
    · have hjl : j < l.length := by omega
      have hjm : j < m.length := by omega
      obtain ⟨bb, off, rfl, c0, c1⟩ := (h1.ext hx).at_ hjn
      obtain ⟨bb', off', rfl, d0, d1⟩ := (h2.ext hx).at_ hjn
      have k1 := (h1.ext hx).ok l[j] (List.getElem_mem _)
      have k2 := (h2.ext hx).ok m[j] (List.getElem_mem _)
      rw [List.drop_eq_getElem_cons hjl, List.drop_eq_getElem_cons hjm, entEq_cons] at hpre
      generalize l[j] = f at *
      generalize m[j] = g at *
      have b1 := k1.bs
      have b2 := k2.bs
      clear k1 k2 h1 h2 hlen1 hlen2
      have hsA := fun k => str_at (b1.drewN k) f.cap
      have hsB := fun k => str_at (b2.drewN k) g.cap
      clear b1 b2
      have hj0 : (0 : Int) ≤ j := by omega
      have hj1 : (j : Int) < n := by omega
      obtain ⟨fterm, fA, flen, fcap, fb⟩ := f
      obtain ⟨gterm, gA, glen, gcap, gb⟩ := g
      dsimp only at hpre hsA hsB c0 d0 c1 d1
      by_cases tterm : fterm = gterm
      case neg =>
        have hf : Hid (b = false) := Lib.hid (by rw [hpre, dec_f tterm]; simp only [Bool.false_and])
        have z := bne_t tterm
        clear tterm hpre
        go_wp2
        go_quiet (fail)
        go_wp2
        go_ret
        exact ⟨by rw [hf.out] <;> rfl, hx.drewN _⟩
      rw [dec_t tterm, Bool.true_and] at hpre
      subst tterm
      by_cases tb : fb = gb
      case neg =>
        have hf : Hid (b = false) := Lib.hid (by rw [hpre, dec_f tb]; simp only [Bool.false_and])
        have z := bstr_ne tb
        generalize bstr fb = P at *
        generalize bstr gb = Q at *
        clear tb hpre
        go_wp2
        go_quiet (fail)
        go_wp2
        go_ret
        exact ⟨by rw [hf.out] <;> rfl, hx.drewN _⟩
      rw [dec_t tb, Bool.true_and] at hpre
      subst tb
      have HP := Lib.hid hpre
      clear hpre
      go_wp2
      go_quiet (fail)
      go_wp2
      go_roundw
      case rel => exact ⟨j + 1, val_int (by omega), by omega, HP.out, hx.drewN _⟩
      case measure => simp [intOf]; omega
    · obtain rfl : n = j := by omega
      rw [List.drop_of_length_le (by omega), List.drop_of_length_le (by omega)] at hpre
      have HP : Hid (b = true) := Lib.hid hpre
      clear hpre
      go_wp2
      go_ret
      exact ⟨by rw [HP.out] <;> rfl, hx⟩

def letEqR (x y : LV) : Bool := entEq x.l y.l && (decide (x.kind = y.kind) && (decide (x.src = y.src) && (decide (x.dst = y.dst) && (decide (x.term = y.term) && (decide (x.a = y.a) && (decide (x.b = y.b) && (decide (x.c = y.c) && (decide (x.bin = y.bin) && decide (x.ok = y.ok)))))))))
theorem letEqR_eq (x y : LV) : letEqR x y = letEq x y := by
  unfold letEqR letEq
  rw [Bool.eq_iff_iff]
  simp only [Bool.and_eq_true]
  constructor
  · rintro ⟨h1, h2, h3, h4, h5, h6, h7, h8, h9, h10⟩; exact ⟨h2, h3, h4, h5, h9, h6, h7, h8, h10, h1⟩
  · rintro ⟨h1, h2, h3, h4, h5, h6, h7, h8, h9, h10⟩; exact ⟨h10, h1, h2, h3, h4, h6, h7, h8, h5, h9⟩
set_option maxRecDepth 100000 in
set_option maxHeartbeats 6400000 in
theorem ref16_SameB (x y : LV) (r : Bool) (hr : letEq x y = r) (w : World) (hx : x.Ok w) (hy : y.Ok w) (hn : x.n ≤ 1000000) (hn' : y.n ≤ 1000000) :
    Calls Try.prog 19 #[x.val, y.val] w fun e w' => e = .returned (.bool r) ∧ Ext w w' := by
  have e1 := hx.es
  have e2 := hy.es
  rw [← letEqR_eq] at hr
  clear hx hy
  obtain ⟨k1, s1, d1, t1, a1, b1, c1, v1, o1, A1, n1, q1, l1⟩ := x
  obtain ⟨k2, s2, d2, t2, a2, b2, c2, v2, o2, A2, n2, q2, l2⟩ := y
  unfold LV.val
  unfold letEqR at hr
  dsimp only at hr e1 e2 hn hn' ⊢
  have xa : Ext w ((w.alloc (.cells #[.int .i64 k1, .int .i64 s1, .int .i64 d1, .int .i64 t1, .int .i64 a1, .int .i64 b1, .int .i64 c1, .int .i64 v1, .bool o1, .slice A1 n1 q1] 26)).alloc (.cells #[.int .i64 k2, .int .i64 s2, .int .i64 d2, .int .i64 t2, .int .i64 a2, .int .i64 b2, .int .i64 c2, .int .i64 v2, .bool o2, .slice A2 n2 q2] 26)) := ((Ext.refl w).alloc _).alloc _
  have hB1 : Blk ((w.alloc (.cells #[.int .i64 k1, .int .i64 s1, .int .i64 d1, .int .i64 t1, .int .i64 a1, .int .i64 b1, .int .i64 c1, .int .i64 v1, .bool o1, .slice A1 n1 q1] 26)).alloc (.cells #[.int .i64 k2, .int .i64 s2, .int .i64 d2, .int .i64 t2, .int .i64 a2, .int .i64 b2, .int .i64 c2, .int .i64 v2, .bool o2, .slice A2 n2 q2] 26)) w.heap.size 26 [.int .i64 k1, .int .i64 s1, .int .i64 d1, .int .i64 t1, .int .i64 a1, .int .i64 b1, .int .i64 c1, .int .i64 v1, .bool o1, .slice A1 n1 q1] := (Blk.new w 26 [.int .i64 k1, .int .i64 s1, .int .i64 d1, .int .i64 t1, .int .i64 a1, .int .i64 b1, .int .i64 c1, .int .i64 v1, .bool o1, .slice A1 n1 q1]).alloc _
  have hB2 : Blk ((w.alloc (.cells #[.int .i64 k1, .int .i64 s1, .int .i64 d1, .int .i64 t1, .int .i64 a1, .int .i64 b1, .int .i64 c1, .int .i64 v1, .bool o1, .slice A1 n1 q1] 26)).alloc (.cells #[.int .i64 k2, .int .i64 s2, .int .i64 d2, .int .i64 t2, .int .i64 a2, .int .i64 b2, .int .i64 c2, .int .i64 v2, .bool o2, .slice A2 n2 q2] 26)) (w.heap.size + 1) 26 [.int .i64 k2, .int .i64 s2, .int .i64 d2, .int .i64 t2, .int .i64 a2, .int .i64 b2, .int .i64 c2, .int .i64 v2, .bool o2, .slice A2 n2 q2] := by
    have := Blk.new (w.alloc (.cells #[.int .i64 k1, .int .i64 s1, .int .i64 d1, .int .i64 t1, .int .i64 a1, .int .i64 b1, .int .i64 c1, .int .i64 v1, .bool o1, .slice A1 n1 q1] 26)) 26 [.int .i64 k2, .int .i64 s2, .int .i64 d2, .int .i64 t2, .int .i64 a2, .int .i64 b2, .int .i64 c2, .int .i64 v2, .bool o2, .slice A2 n2 q2]
    rwa [show (w.alloc (.cells #[.int .i64 k1, .int .i64 s1, .int .i64 d1, .int .i64 t1, .int .i64 a1, .int .i64 b1, .int .i64 c1, .int .i64 v1, .bool o1, .slice A1 n1 q1] 26)).heap.size = w.heap.size + 1 by simp] at this
  obtain ⟨g, hg⟩ : ∃ g, entEq l1 l2 = g := ⟨_, rfl⟩
  have HE := Lib.hid (ref11_SameLogB A1 A2 n1 n2 q1 q2 l1 l2 g hg _ (e1.ext xa) (e2.ext xa) hn hn')
  rw [hg] at hr
  clear e1 e2 hg
  have HB1 := Lib.hid hB1
  have HB2 := Lib.hid hB2
  clear hB1 hB2
  rcases g with _ | _
  · simp only [Bool.false_and] at hr
    subst hr
    go_enter Try.func19, Try.ntmps19
    go_wp2_with fail
    refine HE.out.mono ?_
    rintro e w9 ⟨rfl, y9⟩
    go_wp2_with fail
    go_ret
    exact ⟨rfl, xa.trans y9⟩
  rw [Bool.true_and] at hr
  by_cases ggk : k1 = k2
  case neg =>
    have hf : r = false := by rw [← hr, dec_f ggk]; simp only [Bool.false_and]
    subst hf
    have zz := beq_f ggk
    clear ggk hr
    go_enter Try.func19, Try.ntmps19
    go_wp2_with fail
    refine HE.out.mono ?_
    rintro e w9 ⟨rfl, y9⟩
    have u0 := (HB1.out.ext y9).cell 0
    have z0 := (HB2.out.ext y9).cell 0
    have u1 := (HB1.out.ext y9).cell 1
    have z1 := (HB2.out.ext y9).cell 1
    have u2 := (HB1.out.ext y9).cell 2
    have z2 := (HB2.out.ext y9).cell 2
    have u3 := (HB1.out.ext y9).cell 3
    have z3 := (HB2.out.ext y9).cell 3
    have u4 := (HB1.out.ext y9).cell 4
    have z4 := (HB2.out.ext y9).cell 4
    have u5 := (HB1.out.ext y9).cell 5
    have z5 := (HB2.out.ext y9).cell 5
    have u6 := (HB1.out.ext y9).cell 6
    have z6 := (HB2.out.ext y9).cell 6
    have u7 := (HB1.out.ext y9).cell 7
    have z7 := (HB2.out.ext y9).cell 7
    have u8 := (HB1.out.ext y9).cell 8
    have z8 := (HB2.out.ext y9).cell 8
    simp only [List.getElem?_cons_zero, List.getElem?_cons_succ] at u0 z0 u1 z1 u2 z2 u3 z3 u4 z4 u5 z5 u6 z6 u7 z7 u8 z8
    go_wp2_with fail
    go_ret
    exact ⟨rfl, xa.trans y9⟩
  rw [dec_t ggk, Bool.true_and] at hr
  subst ggk
  by_cases ggs : s1 = s2
  case neg =>
    have hf : r = false := by rw [← hr, dec_f ggs]; simp only [Bool.false_and]
    subst hf
    have zz := beq_f ggs
    clear ggs hr
    go_enter Try.func19, Try.ntmps19
    go_wp2_with fail
    refine HE.out.mono ?_
    rintro e w9 ⟨rfl, y9⟩
    have u0 := (HB1.out.ext y9).cell 0
    have z0 := (HB2.out.ext y9).cell 0
    have u1 := (HB1.out.ext y9).cell 1
    have z1 := (HB2.out.ext y9).cell 1
    have u2 := (HB1.out.ext y9).cell 2
    have z2 := (HB2.out.ext y9).cell 2
    have u3 := (HB1.out.ext y9).cell 3
    have z3 := (HB2.out.ext y9).cell 3
    have u4 := (HB1.out.ext y9).cell 4
    have z4 := (HB2.out.ext y9).cell 4
    have u5 := (HB1.out.ext y9).cell 5
    have z5 := (HB2.out.ext y9).cell 5
    have u6 := (HB1.out.ext y9).cell 6
    have z6 := (HB2.out.ext y9).cell 6
    have u7 := (HB1.out.ext y9).cell 7
    have z7 := (HB2.out.ext y9).cell 7
    have u8 := (HB1.out.ext y9).cell 8
    have z8 := (HB2.out.ext y9).cell 8
    simp only [List.getElem?_cons_zero, List.getElem?_cons_succ] at u0 z0 u1 z1 u2 z2 u3 z3 u4 z4 u5 z5 u6 z6 u7 z7 u8 z8
    go_wp2_with fail
    go_ret
    exact ⟨rfl, xa.trans y9⟩
  rw [dec_t ggs, Bool.true_and] at hr
  subst ggs
  by_cases ggd : d1 = d2
  case neg =>
    have hf : r = false := by rw [← hr, dec_f ggd]; simp only [Bool.false_and]
    subst hf
    have zz := beq_f ggd
    clear ggd hr
    go_enter Try.func19, Try.ntmps19
    go_wp2_with fail
    refine HE.out.mono ?_
    rintro e w9 ⟨rfl, y9⟩
    have u0 := (HB1.out.ext y9).cell 0
    have z0 := (HB2.out.ext y9).cell 0
    have u1 := (HB1.out.ext y9).cell 1
    have z1 := (HB2.out.ext y9).cell 1
    have u2 := (HB1.out.ext y9).cell 2
    have z2 := (HB2.out.ext y9).cell 2
    have u3 := (HB1.out.ext y9).cell 3
    have z3 := (HB2.out.ext y9).cell 3
    have u4 := (HB1.out.ext y9).cell 4
    have z4 := (HB2.out.ext y9).cell 4
    have u5 := (HB1.out.ext y9).cell 5
    have z5 := (HB2.out.ext y9).cell 5
    have u6 := (HB1.out.ext y9).cell 6
    have z6 := (HB2.out.ext y9).cell 6
    have u7 := (HB1.out.ext y9).cell 7
    have z7 := (HB2.out.ext y9).cell 7
    have u8 := (HB1.out.ext y9).cell 8
    have z8 := (HB2.out.ext y9).cell 8
    simp only [List.getElem?_cons_zero, List.getElem?_cons_succ] at u0 z0 u1 z1 u2 z2 u3 z3 u4 z4 u5 z5 u6 z6 u7 z7 u8 z8
    go_wp2_with fail
    go_ret
    exact ⟨rfl, xa.trans y9⟩
  rw [dec_t ggd, Bool.true_and] at hr
  subst ggd
  by_cases ggt : t1 = t2
  case neg =>
    have hf : r = false := by rw [← hr, dec_f ggt]; simp only [Bool.false_and]
    subst hf
    have zz := beq_f ggt
    clear ggt hr
    go_enter Try.func19, Try.ntmps19
    go_wp2_with fail
    refine HE.out.mono ?_
    rintro e w9 ⟨rfl, y9⟩
    have u0 := (HB1.out.ext y9).cell 0
    have z0 := (HB2.out.ext y9).cell 0
    have u1 := (HB1.out.ext y9).cell 1
    have z1 := (HB2.out.ext y9).cell 1
    have u2 := (HB1.out.ext y9).cell 2
    have z2 := (HB2.out.ext y9).cell 2
    have u3 := (HB1.out.ext y9).cell 3
    have z3 := (HB2.out.ext y9).cell 3
    have u4 := (HB1.out.ext y9).cell 4
    have z4 := (HB2.out.ext y9).cell 4
    have u5 := (HB1.out.ext y9).cell 5
    have z5 := (HB2.out.ext y9).cell 5
    have u6 := (HB1.out.ext y9).cell 6
    have z6 := (HB2.out.ext y9).cell 6
    have u7 := (HB1.out.ext y9).cell 7
    have z7 := (HB2.out.ext y9).cell 7
    have u8 := (HB1.out.ext y9).cell 8
    have z8 := (HB2.out.ext y9).cell 8
    simp only [List.getElem?_cons_zero, List.getElem?_cons_succ] at u0 z0 u1 z1 u2 z2 u3 z3 u4 z4 u5 z5 u6 z6 u7 z7 u8 z8
    go_wp2_with fail
    go_ret
    exact ⟨rfl, xa.trans y9⟩
  rw [dec_t ggt, Bool.true_and] at hr
  subst ggt
  by_cases gga : a1 = a2
  case neg =>
    have hf : r = false := by rw [← hr, dec_f gga]; simp only [Bool.false_and]
    subst hf
    have zz := beq_f gga
    clear gga hr
    go_enter Try.func19, Try.ntmps19
    go_wp2_with fail
    refine HE.out.mono ?_
    rintro e w9 ⟨rfl, y9⟩
    have u0 := (HB1.out.ext y9).cell 0
    have z0 := (HB2.out.ext y9).cell 0
    have u1 := (HB1.out.ext y9).cell 1
    have z1 := (HB2.out.ext y9).cell 1
    have u2 := (HB1.out.ext y9).cell 2
    have z2 := (HB2.out.ext y9).cell 2
    have u3 := (HB1.out.ext y9).cell 3
    have z3 := (HB2.out.ext y9).cell 3
    have u4 := (HB1.out.ext y9).cell 4
    have z4 := (HB2.out.ext y9).cell 4
    have u5 := (HB1.out.ext y9).cell 5
    have z5 := (HB2.out.ext y9).cell 5
    have u6 := (HB1.out.ext y9).cell 6
    have z6 := (HB2.out.ext y9).cell 6
    have u7 := (HB1.out.ext y9).cell 7
    have z7 := (HB2.out.ext y9).cell 7
    have u8 := (HB1.out.ext y9).cell 8
    have z8 := (HB2.out.ext y9).cell 8
    simp only [List.getElem?_cons_zero, List.getElem?_cons_succ] at u0 z0 u1 z1 u2 z2 u3 z3 u4 z4 u5 z5 u6 z6 u7 z7 u8 z8
    go_wp2_with fail
    go_ret
    exact ⟨rfl, xa.trans y9⟩
  rw [dec_t gga, Bool.true_and] at hr
  subst gga
  by_cases ggb : b1 = b2
  case neg =>
    have hf : r = false := by rw [← hr, dec_f ggb]; simp only [Bool.false_and]
    subst hf
    have zz := beq_f ggb
    clear ggb hr
    go_enter Try.func19, Try.ntmps19
    go_wp2_with fail
    refine HE.out.mono ?_
    rintro e w9 ⟨rfl, y9⟩
    have u0 := (HB1.out.ext y9).cell 0
    have z0 := (HB2.out.ext y9).cell 0
    have u1 := (HB1.out.ext y9).cell 1
    have z1 := (HB2.out.ext y9).cell 1
    have u2 := (HB1.out.ext y9).cell 2
    have z2 := (HB2.out.ext y9).cell 2
    have u3 := (HB1.out.ext y9).cell 3
    have z3 := (HB2.out.ext y9).cell 3
    have u4 := (HB1.out.ext y9).cell 4
    have z4 := (HB2.out.ext y9).cell 4
    have u5 := (HB1.out.ext y9).cell 5
    have z5 := (HB2.out.ext y9).cell 5
    have u6 := (HB1.out.ext y9).cell 6
    have z6 := (HB2.out.ext y9).cell 6
    have u7 := (HB1.out.ext y9).cell 7
    have z7 := (HB2.out.ext y9).cell 7
    have u8 := (HB1.out.ext y9).cell 8
    have z8 := (HB2.out.ext y9).cell 8
    simp only [List.getElem?_cons_zero, List.getElem?_cons_succ] at u0 z0 u1 z1 u2 z2 u3 z3 u4 z4 u5 z5 u6 z6 u7 z7 u8 z8
    go_wp2_with fail
    go_ret
    exact ⟨rfl, xa.trans y9⟩
  rw [dec_t ggb, Bool.true_and] at hr
  subst ggb
  by_cases ggc : c1 = c2
  case neg =>
    have hf : r = false := by rw [← hr, dec_f ggc]; simp only [Bool.false_and]
    subst hf
    have zz := beq_f ggc
    clear ggc hr
    go_enter Try.func19, Try.ntmps19
    go_wp2_with fail
    refine HE.out.mono ?_
    rintro e w9 ⟨rfl, y9⟩
    have u0 := (HB1.out.ext y9).cell 0
    have z0 := (HB2.out.ext y9).cell 0
    have u1 := (HB1.out.ext y9).cell 1
    have z1 := (HB2.out.ext y9).cell 1
    have u2 := (HB1.out.ext y9).cell 2
    have z2 := (HB2.out.ext y9).cell 2
    have u3 := (HB1.out.ext y9).cell 3
    have z3 := (HB2.out.ext y9).cell 3
    have u4 := (HB1.out.ext y9).cell 4
    have z4 := (HB2.out.ext y9).cell 4
    have u5 := (HB1.out.ext y9).cell 5
    have z5 := (HB2.out.ext y9).cell 5
    have u6 := (HB1.out.ext y9).cell 6
    have z6 := (HB2.out.ext y9).cell 6
    have u7 := (HB1.out.ext y9).cell 7
    have z7 := (HB2.out.ext y9).cell 7
    have u8 := (HB1.out.ext y9).cell 8
    have z8 := (HB2.out.ext y9).cell 8
    simp only [List.getElem?_cons_zero, List.getElem?_cons_succ] at u0 z0 u1 z1 u2 z2 u3 z3 u4 z4 u5 z5 u6 z6 u7 z7 u8 z8
    go_wp2_with fail
    go_ret
    exact ⟨rfl, xa.trans y9⟩
  rw [dec_t ggc, Bool.true_and] at hr
  subst ggc
  by_cases ggv : v1 = v2
  case neg =>
    have hf : r = false := by rw [← hr, dec_f ggv]; simp only [Bool.false_and]
    subst hf
    have zz := beq_f ggv
    clear ggv hr
    go_enter Try.func19, Try.ntmps19
    go_wp2_with fail
    refine HE.out.mono ?_
    rintro e w9 ⟨rfl, y9⟩
    have u0 := (HB1.out.ext y9).cell 0
    have z0 := (HB2.out.ext y9).cell 0
    have u1 := (HB1.out.ext y9).cell 1
    have z1 := (HB2.out.ext y9).cell 1
    have u2 := (HB1.out.ext y9).cell 2
    have z2 := (HB2.out.ext y9).cell 2
    have u3 := (HB1.out.ext y9).cell 3
    have z3 := (HB2.out.ext y9).cell 3
    have u4 := (HB1.out.ext y9).cell 4
    have z4 := (HB2.out.ext y9).cell 4
    have u5 := (HB1.out.ext y9).cell 5
    have z5 := (HB2.out.ext y9).cell 5
    have u6 := (HB1.out.ext y9).cell 6
    have z6 := (HB2.out.ext y9).cell 6
    have u7 := (HB1.out.ext y9).cell 7
    have z7 := (HB2.out.ext y9).cell 7
    have u8 := (HB1.out.ext y9).cell 8
    have z8 := (HB2.out.ext y9).cell 8
    simp only [List.getElem?_cons_zero, List.getElem?_cons_succ] at u0 z0 u1 z1 u2 z2 u3 z3 u4 z4 u5 z5 u6 z6 u7 z7 u8 z8
    go_wp2_with fail
    go_ret
    exact ⟨rfl, xa.trans y9⟩
  rw [dec_t ggv, Bool.true_and] at hr
  subst ggv
  rcases o1 with _ | _ <;> rcases o2 with _ | _ <;> simp at hr <;> subst hr
  all_goals
    go_enter Try.func19, Try.ntmps19
    go_wp2_with fail
    refine HE.out.mono ?_
    rintro e w9 ⟨rfl, y9⟩
    have u0 := (HB1.out.ext y9).cell 0
    have z0 := (HB2.out.ext y9).cell 0
    have u1 := (HB1.out.ext y9).cell 1
    have z1 := (HB2.out.ext y9).cell 1
    have u2 := (HB1.out.ext y9).cell 2
    have z2 := (HB2.out.ext y9).cell 2
    have u3 := (HB1.out.ext y9).cell 3
    have z3 := (HB2.out.ext y9).cell 3
    have u4 := (HB1.out.ext y9).cell 4
    have z4 := (HB2.out.ext y9).cell 4
    have u5 := (HB1.out.ext y9).cell 5
    have z5 := (HB2.out.ext y9).cell 5
    have u6 := (HB1.out.ext y9).cell 6
    have z6 := (HB2.out.ext y9).cell 6
    have u7 := (HB1.out.ext y9).cell 7
    have z7 := (HB2.out.ext y9).cell 7
    have u8 := (HB1.out.ext y9).cell 8
    have z8 := (HB2.out.ext y9).cell 8
    simp only [List.getElem?_cons_zero, List.getElem?_cons_succ] at u0 z0 u1 z1 u2 z2 u3 z3 u4 z4 u5 z5 u6 z6 u7 z7 u8 z8
    go_wp2_with fail
    go_ret
    exact ⟨rfl, xa.trans y9⟩
end Go.Proofs.Ytcoaofaofmbfbaa
