/- Words and walks that the last text of this claim stands on: LpK. No condition. -/
import Derived.Test.YtcoaofaofmbfbaaB12
/- The walk of the law LetterKinds. (Printed by wip/tools/lpkinds.py.) -/
namespace Go.Proofs.Ytcoaofaofmbfbaa
open Go.RowKit

/-- what the law's letters have in common -/
structure KBd (a b t v n : Int) : Prop where
  a : 0 ≤ a ∧ a ≤ 4
  b : 0 ≤ b ∧ b ≤ 4
  t : 1 ≤ t ∧ t ≤ 256
  v : 1 ≤ v ∧ v ≤ 3
  n : 1 ≤ n ∧ n ≤ 60
theorem inB_y {x lo hi : Int} (h1 : lo ≤ x) (h2 : x ≤ hi) : inB x lo hi = true := inB_t.2 ⟨h1, h2⟩
theorem kmay {k a b t v n : Int} (h : KBd a b t v n) (hk : 1 ≤ k ∧ k ≤ 4) (hab : a ≠ b) (la lb lc : Int) (ok : Bool) (A : Option Addr) (m c : Nat) (l : List EV) (hl : entsB l = true) :
    mayB ⟨k, a, b, t, la, lb, lc, v, ok, A, m, c, l⟩ = (inB la 0 (if (k == 1 || k == 3 || k == 4) then 64 else 0) && inB lb 0 (if (k == 1 || k == 3) then 1048576 else 0) && inB lc 0 (if k == 3 then 64 else 0) && (!ok || k == 2 || k == 4) && inB m 0 (if k == 3 then 4 else 0)) := by
  unfold mayB
  dsimp only
  have hkk : (k == 1 || k == 2 || k == 3 || k == 4) = true := by
    simp only [Bool.or_eq_true, beq_iff_eq]; omega
  rw [hkk, inB_y h.a.1 h.a.2, inB_y h.b.1 h.b.2, inB_y h.t.1 (by have := h.t.2; omega), inB_y h.v.1 h.v.2, bne_t hab, hl]
  simp only [Bool.true_and, Bool.and_true]
theorem kmay_no {k a t v : Int} (la lb lc : Int) (ok : Bool) (A : Option Addr) (m c : Nat) (l : List EV) : mayB ⟨k, a, a, t, la, lb, lc, v, ok, A, m, c, l⟩ = false := by
  unfold mayB
  simp
theorem in_n {a b t v n : Int} (h : KBd a b t v n) : inB n 0 64 = true ∧ inB n 0 0 = false ∧ inB n 0 1048576 = true ∧ inB 0 0 64 = true ∧ inB 0 0 0 = true ∧ inB 0 0 1048576 = true ∧ inB ((1 : Nat) : Int) 0 4 = true ∧ inB ((1 : Nat) : Int) 0 0 = false ∧ inB ((0 : Nat) : Int) 0 4 = true ∧ inB ((0 : Nat) : Int) 0 0 = true := by
  have h1 := h.n.1
  have h2 := h.n.2
  refine ⟨inB_y (by omega) (by omega), inB_f.2 (by omega), inB_y (by omega) (by omega), by decide, by decide, by decide, by decide, by decide, by decide, by decide⟩
theorem KBd.i {a b t v n : Int} (h : KBd a b t v n) : I64 a ∧ I64 b ∧ I64 t ∧ I64 v ∧ I64 n := by
  obtain ⟨h1, h2, h3, h4, h5⟩ := h
  exact ⟨⟨by omega, by omega⟩, ⟨by omega, by omega⟩, ⟨by omega, by omega⟩, ⟨by omega, by omega⟩, ⟨by omega, by omega⟩⟩
theorem i64_n (n : Int) (h : -1000 ≤ n ∧ n ≤ 1000) : I64 n := ⟨by omega, by omega⟩
def oneE (t : Int) : EV := ⟨t, none, 0, 0, []⟩
theorem oneE_ents {a b t v n : Int} (h : KBd a b t v n) : entsB [oneE t] = true := by
  have := inB_y h.t.1 (show t ≤ 1048576 by have := h.t.2; omega)
  simp [entsB, oneE, this]
theorem oneE_es (w : World) (t : Int) (ht : I64 t) (k : Nat) (hk : k = w.heap.size) : Es (w.alloc (.cells #[.int .i64 t, .slice none 0 0] 31)) (some ⟨k, 0, none⟩) 1 [oneE t] := by
  subst hk
  refine ⟨rd_at2 w _ _ _ _ rfl, fun f hf => ?_⟩
  simp only [List.mem_singleton] at hf
  subst hf
  exact ⟨Bs.nil_ _ _, Nat.le_refl _, by simp [oneE, maxLen], ht⟩
/-- letter.May at a letter of the law -/
theorem kcall {k a b t v n : Int} (h : KBd a b t v n) (hk : 1 ≤ k ∧ k ≤ 4) (la lb lc : Int) (h1 : I64 la) (h2 : I64 lb) (h3 : I64 lc) (ok : Bool) (A : Option Addr) (m c : Nat) (l : List EV) (w : World) (he : Es w A m l) (hm : m ≤ 1000) (hmc : m ≤ c) (hcm : c ≤ maxLen) :
    Calls Try.prog 13 #[.agg #[.int .i64 k, .int .i64 a, .int .i64 b, .int .i64 t, .int .i64 la, .int .i64 lb, .int .i64 lc, .int .i64 v, .bool ok, .slice A m c]] w fun e w' => e = .returned (.int .i64 (mayR ⟨k, a, b, t, la, lb, lc, v, ok, A, m, c, l⟩)) ∧ Ext w w' := by
  obtain ⟨i1, i2, i3, i4, i5⟩ := h.i
  exact letter_May ⟨k, a, b, t, la, lb, lc, v, ok, A, m, c, l⟩ w ⟨he, hmc, hcm, (⟨by omega, by omega⟩ : I64 k), i1, i2, i3, h1, h2, h3, i4⟩ hm
theorem kcallF {k a b t v n : Int} (h : KBd a b t v n) (hk : 1 ≤ k ∧ k ≤ 4) (la lb lc : Int) (h1 : I64 la) (h2 : I64 lb) (h3 : I64 lc) (ok : Bool) (A : Option Addr) (m c : Nat) (l : List EV) (w : World) (he : Es w A m l) (hm : m ≤ 1000) (hmc : m ≤ c) (hcm : c ≤ maxLen)
    (hr : mayB ⟨k, a, b, t, la, lb, lc, v, ok, A, m, c, l⟩ = false) :
    Calls Try.prog 13 #[.agg #[.int .i64 k, .int .i64 a, .int .i64 b, .int .i64 t, .int .i64 la, .int .i64 lb, .int .i64 lc, .int .i64 v, .bool ok, .slice A m c]] w fun e w' => e = .returned (.int .i64 1) ∧ Ext w w' := by
  have := kcall h hk la lb lc h1 h2 h3 ok A m c l w he hm hmc hcm
  rwa [mayR_f hr] at this
theorem kcallT {k a b t v n : Int} (h : KBd a b t v n) (hk : 1 ≤ k ∧ k ≤ 4) (la lb lc : Int) (h1 : I64 la) (h2 : I64 lb) (h3 : I64 lc) (ok : Bool) (A : Option Addr) (m c : Nat) (l : List EV) (w : World) (he : Es w A m l) (hm : m ≤ 1000) (hmc : m ≤ c) (hcm : c ≤ maxLen)
    (hr : mayB ⟨k, a, b, t, la, lb, lc, v, ok, A, m, c, l⟩ = true) :
    Calls Try.prog 13 #[.agg #[.int .i64 k, .int .i64 a, .int .i64 b, .int .i64 t, .int .i64 la, .int .i64 lb, .int .i64 lc, .int .i64 v, .bool ok, .slice A m c]] w fun e w' => e = .returned (.int .i64 0) ∧ Ext w w' := by
  have := kcall h hk la lb lc h1 h2 h3 ok A m c l w he hm hmc hcm
  rwa [mayR_t hr] at this

set_option maxRecDepth 100000 in
set_option maxHeartbeats 40000000 in
theorem law_LetterKinds (fr tt x0 x1 x2 : Nat) (w : World) (hf : fr < 256) (ht : tt < 256) (h0 : x0 < 256) (h1 : x1 < 256) (h2 : x2 < 256) :
    Calls Try.prog 3 #[.int .u8 fr, .int .u8 tt, .agg #[.int .u8 x0, .int .u8 x1, .int .u8 x2]] w fun e w' => e = .returned (.bool true) ∧ Ext w w' := by
  have xW : Ext w (w.alloc (.cells #[.int .u8 x0, .int .u8 x1, .int .u8 x2] 22)) := (Ext.refl w).alloc _
  have hB := Blk.new w 22 [.int .u8 x0, .int .u8 x1, .int .u8 x2]
  go_enter Try.func3, Try.ntmps3
  go_wp2_with fail
  refine (law16_shown _).mono ?_
  rintro e w1 ⟨rfl, x1'⟩
  replace xW := xW.trans x1'
  replace hB := hB.ext x1'
  have d0 := hB.cell 0
  have d1 := hB.cell 1
  have d2 := hB.cell 2
  simp only [List.getElem?_cons_zero, List.getElem?_cons_succ] at d0 d1 d2
  have HK : Hid (KBd ((fr : Int) % 5) ((tt : Int) % 5) (1 + (x0 : Int)) (1 + (x1 : Int) % 3) (1 + (x2 : Int) % 60)) := Lib.hid ⟨by omega, by omega, by omega, by omega, by omega⟩
  clear hB x1'
  go_wp2_with fail
  generalize (fr : Int) % 5 = a at *
  generalize (tt : Int) % 5 = b at *
  generalize 1 + (x0 : Int) = t at *
  generalize 1 + (x1 : Int) % 3 = v at *
  generalize 1 + (x2 : Int) % 60 = n at *
  clear d0 d1 d2 hf ht h0 h1 h2
  have hbd := HK.out
  obtain ⟨⟨ha1, ha2⟩, ⟨hb1, hb2⟩, ⟨ht1, ht2⟩, ⟨hv1, hv2⟩, ⟨hn1, hn2⟩⟩ := hbd
  go_loopw [13] (fun i wr => ∃ k : Int, i = .int .i64 k ∧ 1 ≤ k ∧ k ≤ 5 ∧ Ext w wr) (fun i _ => (5 - intOf i).toNat)
  case atStart => exact ⟨1, rfl, by omega, by omega, xW⟩
  case round =>
    clear xW
    obtain ⟨k, rfl, hk1, hk5, hx⟩ := hrel
    obtain ⟨wo, rfl⟩ : ∃ wo : World, wo = wr := ⟨_, rfl⟩
    by_cases hk : k ≤ 4
    · by_cases hab : a = b
      · subst hab
        have HC := Lib.hid (fun (W : World) => kcallF HK.out ⟨hk1, hk⟩ 0 0 0 (i64_n 0 (by omega)) (i64_n 0 (by omega)) (i64_n 0 (by omega)) false none 0 0 [] W (Es.nil_ W none) (by omega) (by omega) (by unfold maxLen; omega) (kmay_no _ _ _ _ _ _ _ _))
        have z := bne_f (show a = a from rfl)
        go_wp2_with fail
        refine (HC.out _).mono ?_
        rintro e w2 ⟨rfl, x2⟩
        have xx := (hx.alloc _).trans x2
        clear HC
        go_wp2_with fail
        go_roundw
        case rel => exact ⟨k + 1, rfl, by omega, by omega, xx⟩
        case measure => simp [intOf]; omega
      · have z := bne_t hab
        have z2 := beq_f hab
        have HM := Lib.hid (fun k hk => kmay (k := k) HK.out hk hab)
        have HN := Lib.hid (in_n HK.out)
        obtain ⟨_, _, it, _, in_⟩ := HK.out.i
        have h0 := i64_n 0 (by omega)
        clear hab
        obtain rfl | rfl | rfl | rfl : k = 1 ∨ k = 2 ∨ k = 3 ∨ k = 4 := by omega
        · have Cy := Lib.hid (fun (W : World) => kcallT (k := 1) HK.out ⟨by omega, by omega⟩ 0 0 0 h0 h0 h0 false none 0 0 [] W (Es.nil_ W none) (by omega) (by omega) (by unfold maxLen; omega) (by rw [HM.out 1 (by omega) _ _ _ _ _ _ _ _ rfl]; obtain ⟨n1, n2, n3, n4, n5, n6, n7, n8, n9, n10⟩ := HN.out; simp at n9 n10; simp [*]))
          have Cp := Lib.hid (fun (W : World) => kcallT (k := 1) HK.out ⟨by omega, by omega⟩ n 0 0 in_ h0 h0 false none 0 0 [] W (Es.nil_ W none) (by omega) (by omega) (by unfold maxLen; omega) (by rw [HM.out 1 (by omega) _ _ _ _ _ _ _ _ rfl]; obtain ⟨n1, n2, n3, n4, n5, n6, n7, n8, n9, n10⟩ := HN.out; simp at n9 n10; simp [*]))
          have Cq := Lib.hid (fun (W : World) => kcallT (k := 1) HK.out ⟨by omega, by omega⟩ 0 n 0 h0 in_ h0 false none 0 0 [] W (Es.nil_ W none) (by omega) (by omega) (by unfold maxLen; omega) (by rw [HM.out 1 (by omega) _ _ _ _ _ _ _ _ rfl]; obtain ⟨n1, n2, n3, n4, n5, n6, n7, n8, n9, n10⟩ := HN.out; simp at n9 n10; simp [*]))
          have Cr := Lib.hid (fun (W : World) => kcallF (k := 1) HK.out ⟨by omega, by omega⟩ 0 0 n h0 h0 in_ false none 0 0 [] W (Es.nil_ W none) (by omega) (by omega) (by unfold maxLen; omega) (by rw [HM.out 1 (by omega) _ _ _ _ _ _ _ _ rfl]; obtain ⟨n1, n2, n3, n4, n5, n6, n7, n8, n9, n10⟩ := HN.out; simp at n9 n10; simp [*]))
          have Cs := Lib.hid (fun (W : World) => kcallF (k := 1) HK.out ⟨by omega, by omega⟩ 0 0 0 h0 h0 h0 true none 0 0 [] W (Es.nil_ W none) (by omega) (by omega) (by unfold maxLen; omega) (by rw [HM.out 1 (by omega) _ _ _ _ _ _ _ _ rfl]; obtain ⟨n1, n2, n3, n4, n5, n6, n7, n8, n9, n10⟩ := HN.out; simp at n9 n10; simp [*]))
          have Ce := Lib.hid (fun (W : World) (g : Nat) (he : Es W (some ⟨g, 0, none⟩) 1 [oneE t]) => kcallF (k := 1) HK.out ⟨by omega, by omega⟩ 0 0 0 h0 h0 h0 false (some ⟨g, 0, none⟩) 1 1 [oneE t] W he (by omega) (by omega) (by unfold maxLen; omega) (by rw [HM.out 1 (by omega) _ _ _ _ _ _ _ _ (oneE_ents HK.out)]; obtain ⟨n1, n2, n3, n4, n5, n6, n7, n8, n9, n10⟩ := HN.out; simp at n7 n8; simp [*]))
          go_upto_region 11 with fail
          have hY := Blk.new wo 26 [.int .i64 1, .int .i64 a, .int .i64 b, .int .i64 t, .int .i64 0, .int .i64 0, .int .i64 0, .int .i64 v, .bool false, .slice none 0 0]
          have x0 := hx.alloc (.cells #[.int .i64 1, .int .i64 a, .int .i64 b, .int .i64 t, .int .i64 0, .int .i64 0, .int .i64 0, .int .i64 v, .bool false, .slice none 0 0] 26)
          generalize hgY : wo.heap.size = gY at *
          generalize wo.alloc (.cells #[.int .i64 1, .int .i64 a, .int .i64 b, .int .i64 t, .int .i64 0, .int .i64 0, .int .i64 0, .int .i64 v, .bool false, .slice none 0 0] 26) = W0 at *
          have hgy := hY.lt
          clear hgY
          have d0 := hY.cell 0
          have d1 := hY.cell 1
          have d2 := hY.cell 2
          have d3 := hY.cell 3
          have d4 := hY.cell 4
          have d5 := hY.cell 5
          have d6 := hY.cell 6
          have d7 := hY.cell 7
          have d8 := hY.cell 8
          have d9 := hY.cell 9
          simp only [List.getElem?_cons_zero, List.getElem?_cons_succ] at d0 d1 d2 d3 d4 d5 d6 d7 d8 d9
          go_wp2_with fail
          refine (Cy.out _).mono ?_
          rintro e w2 ⟨rfl, x2⟩
          replace x0 := x0.trans x2
          replace hY := hY.ext x2
          have hgy2 : gY < w2.heap.size := hY.lt
          clear Cy x2 d0 d1 d2 d3 d4 d5 d6 d7 d8 d9 hgy
          have d0 := hY.cell 0
          have d1 := hY.cell 1
          have d2 := hY.cell 2
          have d3 := hY.cell 3
          have d4 := hY.cell 4
          have d5 := hY.cell 5
          have d6 := hY.cell 6
          have d7 := hY.cell 7
          have d8 := hY.cell 8
          have d9 := hY.cell 9
          simp only [List.getElem?_cons_zero, List.getElem?_cons_succ] at d0 d1 d2 d3 d4 d5 d6 d7 d8 d9
          go_upto_region 15 with fail
          have hP := Blk.new w2 26 [.int .i64 1, .int .i64 a, .int .i64 b, .int .i64 t, .int .i64 0, .int .i64 0, .int .i64 0, .int .i64 v, .bool false, .slice none 0 0]
          have hwP := x0.size
          replace x0 := x0.alloc (.cells #[.int .i64 1, .int .i64 a, .int .i64 b, .int .i64 t, .int .i64 0, .int .i64 0, .int .i64 0, .int .i64 v, .bool false, .slice none 0 0] 26)
          replace hY := hY.alloc (.cells #[.int .i64 1, .int .i64 a, .int .i64 b, .int .i64 t, .int .i64 0, .int .i64 0, .int .i64 0, .int .i64 v, .bool false, .slice none 0 0] 26)
          generalize hgP : w2.heap.size = gP at *
          generalize w2.alloc (.cells #[.int .i64 1, .int .i64 a, .int .i64 b, .int .i64 t, .int .i64 0, .int .i64 0, .int .i64 0, .int .i64 v, .bool false, .slice none 0 0] 26) = WP at *
          have hlP := hP.lt
          clear d0 d1 d2 d3 d4 d5 d6 d7 d8 d9 hgP
          have d0 := hY.cell 0
          have d1 := hY.cell 1
          have d2 := hY.cell 2
          have d3 := hY.cell 3
          have d4 := hY.cell 4
          have d5 := hY.cell 5
          have d6 := hY.cell 6
          have d7 := hY.cell 7
          have d8 := hY.cell 8
          have d9 := hY.cell 9
          simp only [List.getElem?_cons_zero, List.getElem?_cons_succ] at d0 d1 d2 d3 d4 d5 d6 d7 d8 d9
          go_upto_region 16 with fail
          have hQ := Blk.new WP 26 [.int .i64 1, .int .i64 a, .int .i64 b, .int .i64 t, .int .i64 0, .int .i64 0, .int .i64 0, .int .i64 v, .bool false, .slice none 0 0]
          have hwQ := x0.size
          replace x0 := x0.alloc (.cells #[.int .i64 1, .int .i64 a, .int .i64 b, .int .i64 t, .int .i64 0, .int .i64 0, .int .i64 0, .int .i64 v, .bool false, .slice none 0 0] 26)
          replace hY := hY.alloc (.cells #[.int .i64 1, .int .i64 a, .int .i64 b, .int .i64 t, .int .i64 0, .int .i64 0, .int .i64 0, .int .i64 v, .bool false, .slice none 0 0] 26)
          replace hP := hP.alloc (.cells #[.int .i64 1, .int .i64 a, .int .i64 b, .int .i64 t, .int .i64 0, .int .i64 0, .int .i64 0, .int .i64 v, .bool false, .slice none 0 0] 26)
          generalize hgQ : WP.heap.size = gQ at *
          generalize WP.alloc (.cells #[.int .i64 1, .int .i64 a, .int .i64 b, .int .i64 t, .int .i64 0, .int .i64 0, .int .i64 0, .int .i64 v, .bool false, .slice none 0 0] 26) = WQ at *
          have hlQ := hQ.lt
          clear d0 d1 d2 d3 d4 d5 d6 d7 d8 d9 hgQ
          have d0 := hY.cell 0
          have d1 := hY.cell 1
          have d2 := hY.cell 2
          have d3 := hY.cell 3
          have d4 := hY.cell 4
          have d5 := hY.cell 5
          have d6 := hY.cell 6
          have d7 := hY.cell 7
          have d8 := hY.cell 8
          have d9 := hY.cell 9
          simp only [List.getElem?_cons_zero, List.getElem?_cons_succ] at d0 d1 d2 d3 d4 d5 d6 d7 d8 d9
          go_upto_region 17 with fail
          have hR := Blk.new WQ 26 [.int .i64 1, .int .i64 a, .int .i64 b, .int .i64 t, .int .i64 0, .int .i64 0, .int .i64 0, .int .i64 v, .bool false, .slice none 0 0]
          have hwR := x0.size
          replace x0 := x0.alloc (.cells #[.int .i64 1, .int .i64 a, .int .i64 b, .int .i64 t, .int .i64 0, .int .i64 0, .int .i64 0, .int .i64 v, .bool false, .slice none 0 0] 26)
          replace hY := hY.alloc (.cells #[.int .i64 1, .int .i64 a, .int .i64 b, .int .i64 t, .int .i64 0, .int .i64 0, .int .i64 0, .int .i64 v, .bool false, .slice none 0 0] 26)
          replace hP := hP.alloc (.cells #[.int .i64 1, .int .i64 a, .int .i64 b, .int .i64 t, .int .i64 0, .int .i64 0, .int .i64 0, .int .i64 v, .bool false, .slice none 0 0] 26)
          replace hQ := hQ.alloc (.cells #[.int .i64 1, .int .i64 a, .int .i64 b, .int .i64 t, .int .i64 0, .int .i64 0, .int .i64 0, .int .i64 v, .bool false, .slice none 0 0] 26)
          generalize hgR : WQ.heap.size = gR at *
          generalize WQ.alloc (.cells #[.int .i64 1, .int .i64 a, .int .i64 b, .int .i64 t, .int .i64 0, .int .i64 0, .int .i64 0, .int .i64 v, .bool false, .slice none 0 0] 26) = WR at *
          have hlR := hR.lt
          clear d0 d1 d2 d3 d4 d5 d6 d7 d8 d9 hgR
          have d0 := hY.cell 0
          have d1 := hY.cell 1
          have d2 := hY.cell 2
          have d3 := hY.cell 3
          have d4 := hY.cell 4
          have d5 := hY.cell 5
          have d6 := hY.cell 6
          have d7 := hY.cell 7
          have d8 := hY.cell 8
          have d9 := hY.cell 9
          simp only [List.getElem?_cons_zero, List.getElem?_cons_succ] at d0 d1 d2 d3 d4 d5 d6 d7 d8 d9
          go_upto_region 18 with fail
          have hS := Blk.new WR 26 [.int .i64 1, .int .i64 a, .int .i64 b, .int .i64 t, .int .i64 0, .int .i64 0, .int .i64 0, .int .i64 v, .bool false, .slice none 0 0]
          have hwS := x0.size
          replace x0 := x0.alloc (.cells #[.int .i64 1, .int .i64 a, .int .i64 b, .int .i64 t, .int .i64 0, .int .i64 0, .int .i64 0, .int .i64 v, .bool false, .slice none 0 0] 26)
          replace hY := hY.alloc (.cells #[.int .i64 1, .int .i64 a, .int .i64 b, .int .i64 t, .int .i64 0, .int .i64 0, .int .i64 0, .int .i64 v, .bool false, .slice none 0 0] 26)
          replace hP := hP.alloc (.cells #[.int .i64 1, .int .i64 a, .int .i64 b, .int .i64 t, .int .i64 0, .int .i64 0, .int .i64 0, .int .i64 v, .bool false, .slice none 0 0] 26)
          replace hQ := hQ.alloc (.cells #[.int .i64 1, .int .i64 a, .int .i64 b, .int .i64 t, .int .i64 0, .int .i64 0, .int .i64 0, .int .i64 v, .bool false, .slice none 0 0] 26)
          replace hR := hR.alloc (.cells #[.int .i64 1, .int .i64 a, .int .i64 b, .int .i64 t, .int .i64 0, .int .i64 0, .int .i64 0, .int .i64 v, .bool false, .slice none 0 0] 26)
          generalize hgS : WR.heap.size = gS at *
          generalize WR.alloc (.cells #[.int .i64 1, .int .i64 a, .int .i64 b, .int .i64 t, .int .i64 0, .int .i64 0, .int .i64 0, .int .i64 v, .bool false, .slice none 0 0] 26) = WS at *
          have hlS := hS.lt
          clear d0 d1 d2 d3 d4 d5 d6 d7 d8 d9 hgS
          have cP4 := hP.cell 4
          simp only [List.getElem?_cons_zero, List.getElem?_cons_succ] at cP4
          have fP4 := hP.frozen 4
          have cQ5 := hQ.cell 5
          simp only [List.getElem?_cons_zero, List.getElem?_cons_succ] at cQ5
          have fQ5 := hQ.frozen 5
          have cR6 := hR.cell 6
          simp only [List.getElem?_cons_zero, List.getElem?_cons_succ] at cR6
          have fR6 := hR.frozen 6
          have cS8 := hS.cell 8
          simp only [List.getElem?_cons_zero, List.getElem?_cons_succ] at cS8
          have fS8 := hS.frozen 8
          go_upto_region 22 with fail
          clear cP4 fP4 cQ5 fQ5 cR6 fR6 cS8 fS8
          replace hY := hY.far (p := ⟨gP, 4, none⟩) (by show gY ≠ gP; omega) (.int .i64 n)
          replace hP := hP.set_ 4 (.int .i64 n)
          replace hQ := hQ.far (p := ⟨gP, 4, none⟩) (by show gQ ≠ gP; omega) (.int .i64 n)
          replace hR := hR.far (p := ⟨gP, 4, none⟩) (by show gR ≠ gP; omega) (.int .i64 n)
          replace hS := hS.far (p := ⟨gP, 4, none⟩) (by show gS ≠ gP; omega) (.int .i64 n)
          replace x0 := x0.setCell (p := ⟨gP, 4, none⟩) (by show w.heap.size ≤ gP; omega) (.int .i64 n)
          replace hY := hY.far (p := ⟨gQ, 5, none⟩) (by show gY ≠ gQ; omega) (.int .i64 n)
          replace hP := hP.far (p := ⟨gQ, 5, none⟩) (by show gP ≠ gQ; omega) (.int .i64 n)
          replace hQ := hQ.set_ 5 (.int .i64 n)
          replace hR := hR.far (p := ⟨gQ, 5, none⟩) (by show gR ≠ gQ; omega) (.int .i64 n)
          replace hS := hS.far (p := ⟨gQ, 5, none⟩) (by show gS ≠ gQ; omega) (.int .i64 n)
          replace x0 := x0.setCell (p := ⟨gQ, 5, none⟩) (by show w.heap.size ≤ gQ; omega) (.int .i64 n)
          replace hY := hY.far (p := ⟨gR, 6, none⟩) (by show gY ≠ gR; omega) (.int .i64 n)
          replace hP := hP.far (p := ⟨gR, 6, none⟩) (by show gP ≠ gR; omega) (.int .i64 n)
          replace hQ := hQ.far (p := ⟨gR, 6, none⟩) (by show gQ ≠ gR; omega) (.int .i64 n)
          replace hR := hR.set_ 6 (.int .i64 n)
          replace hS := hS.far (p := ⟨gR, 6, none⟩) (by show gS ≠ gR; omega) (.int .i64 n)
          replace x0 := x0.setCell (p := ⟨gR, 6, none⟩) (by show w.heap.size ≤ gR; omega) (.int .i64 n)
          replace hY := hY.far (p := ⟨gS, 8, none⟩) (by show gY ≠ gS; omega) (.bool true)
          replace hP := hP.far (p := ⟨gS, 8, none⟩) (by show gP ≠ gS; omega) (.bool true)
          replace hQ := hQ.far (p := ⟨gS, 8, none⟩) (by show gQ ≠ gS; omega) (.bool true)
          replace hR := hR.far (p := ⟨gS, 8, none⟩) (by show gR ≠ gS; omega) (.bool true)
          replace hS := hS.set_ 8 (.bool true)
          replace x0 := x0.setCell (p := ⟨gS, 8, none⟩) (by show w.heap.size ≤ gS; omega) (.bool true)
          simp only [List.set_cons_succ, List.set_cons_zero] at hP hQ hR hS
          generalize ((((WS.setCell ⟨gP, 4, none⟩ (.int .i64 n)).setCell ⟨gQ, 5, none⟩ (.int .i64 n)).setCell ⟨gR, 6, none⟩ (.int .i64 n)).setCell ⟨gS, 8, none⟩ (.bool true)) = W7 at *
          have d0 := hY.cell 0
          have d1 := hY.cell 1
          have d2 := hY.cell 2
          have d3 := hY.cell 3
          have d4 := hY.cell 4
          have d5 := hY.cell 5
          have d6 := hY.cell 6
          have d7 := hY.cell 7
          have d8 := hY.cell 8
          have d9 := hY.cell 9
          simp only [List.getElem?_cons_zero, List.getElem?_cons_succ] at d0 d1 d2 d3 d4 d5 d6 d7 d8 d9
          go_upto_region 23 with fail
          have hlS7 := hS.lt
          have hE := Blk.new W7 26 [.int .i64 1, .int .i64 a, .int .i64 b, .int .i64 t, .int .i64 0, .int .i64 0, .int .i64 0, .int .i64 v, .bool false, .slice none 0 0]
          have hwE := x0.size
          replace x0 := x0.alloc (.cells #[.int .i64 1, .int .i64 a, .int .i64 b, .int .i64 t, .int .i64 0, .int .i64 0, .int .i64 0, .int .i64 v, .bool false, .slice none 0 0] 26)
          replace hY := hY.alloc (.cells #[.int .i64 1, .int .i64 a, .int .i64 b, .int .i64 t, .int .i64 0, .int .i64 0, .int .i64 0, .int .i64 v, .bool false, .slice none 0 0] 26)
          replace hP := hP.alloc (.cells #[.int .i64 1, .int .i64 a, .int .i64 b, .int .i64 t, .int .i64 0, .int .i64 0, .int .i64 0, .int .i64 v, .bool false, .slice none 0 0] 26)
          replace hQ := hQ.alloc (.cells #[.int .i64 1, .int .i64 a, .int .i64 b, .int .i64 t, .int .i64 0, .int .i64 0, .int .i64 0, .int .i64 v, .bool false, .slice none 0 0] 26)
          replace hR := hR.alloc (.cells #[.int .i64 1, .int .i64 a, .int .i64 b, .int .i64 t, .int .i64 0, .int .i64 0, .int .i64 0, .int .i64 v, .bool false, .slice none 0 0] 26)
          replace hS := hS.alloc (.cells #[.int .i64 1, .int .i64 a, .int .i64 b, .int .i64 t, .int .i64 0, .int .i64 0, .int .i64 0, .int .i64 v, .bool false, .slice none 0 0] 26)
          generalize hgE : W7.heap.size = gE at *
          generalize W7.alloc (.cells #[.int .i64 1, .int .i64 a, .int .i64 b, .int .i64 t, .int .i64 0, .int .i64 0, .int .i64 0, .int .i64 v, .bool false, .slice none 0 0] 26) = W8 at *
          have hlE := hE.lt
          have hPE := hP.lt
          clear d0 d1 d2 d3 d4 d5 d6 d7 d8 d9 hgE
          have c9 := hE.cell 9
          simp only [List.getElem?_cons_zero, List.getElem?_cons_succ] at c9
          have f9 := hE.frozen 9
          go_upto_region 24 with fail
          clear c9 f9
          replace hP := (hP.far (p := ⟨gE, 9, none⟩) (by show gP ≠ gE; have := hlP; omega) (.slice (some ⟨W8.heap.size, 0, none⟩) 1 1)).alloc (.cells #[.int .i64 t, .slice none 0 0] 31)
          replace hQ := (hQ.far (p := ⟨gE, 9, none⟩) (by show gQ ≠ gE; have := hlQ; omega) (.slice (some ⟨W8.heap.size, 0, none⟩) 1 1)).alloc (.cells #[.int .i64 t, .slice none 0 0] 31)
          replace hR := (hR.far (p := ⟨gE, 9, none⟩) (by show gR ≠ gE; have := hlR; omega) (.slice (some ⟨W8.heap.size, 0, none⟩) 1 1)).alloc (.cells #[.int .i64 t, .slice none 0 0] 31)
          replace hS := (hS.far (p := ⟨gE, 9, none⟩) (by show gS ≠ gE; have := hlS; omega) (.slice (some ⟨W8.heap.size, 0, none⟩) 1 1)).alloc (.cells #[.int .i64 t, .slice none 0 0] 31)
          replace hE := hE.set_ 9 (.slice (some ⟨W8.heap.size, 0, none⟩) 1 1)
          simp only [List.set_cons_succ, List.set_cons_zero] at hE
          replace hE := hE.alloc (.cells #[.int .i64 t, .slice none 0 0] 31)
          have hes2 := oneE_es (W8.setCell ⟨gE, 9, none⟩ (.slice (some ⟨W8.heap.size, 0, none⟩) 1 1)) t it W8.heap.size (by simp)
          replace x0 := (x0.setCell (p := ⟨gE, 9, none⟩) (by show w.heap.size ≤ gE; omega) (.slice (some ⟨W8.heap.size, 0, none⟩) 1 1)).alloc (.cells #[.int .i64 t, .slice none 0 0] 31)
          generalize (W8.setCell ⟨gE, 9, none⟩ (.slice (some ⟨W8.heap.size, 0, none⟩) 1 1)).alloc (.cells #[.int .i64 t, .slice none 0 0] 31) = W9 at *
          generalize W8.heap.size = g5 at *
          have d0 := hP.cell 0
          have d1 := hP.cell 1
          have d2 := hP.cell 2
          have d3 := hP.cell 3
          have d4 := hP.cell 4
          have d5 := hP.cell 5
          have d6 := hP.cell 6
          have d7 := hP.cell 7
          have d8 := hP.cell 8
          have d9 := hP.cell 9
          simp only [List.getElem?_cons_zero, List.getElem?_cons_succ] at d0 d1 d2 d3 d4 d5 d6 d7 d8 d9
          go_wp2_with fail
          refine (Cp.out _).mono ?_
          rintro e u0 ⟨rfl, x2⟩
          replace x0 := x0.trans x2
          replace hQ := hQ.ext x2
          replace hR := hR.ext x2
          replace hS := hS.ext x2
          replace hE := hE.ext x2
          replace hes2 := hes2.ext x2
          clear Cp x2 d0 d1 d2 d3 d4 d5 d6 d7 d8 d9
          have d0 := hQ.cell 0
          have d1 := hQ.cell 1
          have d2 := hQ.cell 2
          have d3 := hQ.cell 3
          have d4 := hQ.cell 4
          have d5 := hQ.cell 5
          have d6 := hQ.cell 6
          have d7 := hQ.cell 7
          have d8 := hQ.cell 8
          have d9 := hQ.cell 9
          simp only [List.getElem?_cons_zero, List.getElem?_cons_succ] at d0 d1 d2 d3 d4 d5 d6 d7 d8 d9
          go_wp2_with fail
          refine (Cq.out _).mono ?_
          rintro e u1 ⟨rfl, x2⟩
          replace x0 := x0.trans x2
          replace hR := hR.ext x2
          replace hS := hS.ext x2
          replace hE := hE.ext x2
          replace hes2 := hes2.ext x2
          clear Cq x2 d0 d1 d2 d3 d4 d5 d6 d7 d8 d9
          have d0 := hR.cell 0
          have d1 := hR.cell 1
          have d2 := hR.cell 2
          have d3 := hR.cell 3
          have d4 := hR.cell 4
          have d5 := hR.cell 5
          have d6 := hR.cell 6
          have d7 := hR.cell 7
          have d8 := hR.cell 8
          have d9 := hR.cell 9
          simp only [List.getElem?_cons_zero, List.getElem?_cons_succ] at d0 d1 d2 d3 d4 d5 d6 d7 d8 d9
          go_wp2_with fail
          refine (Cr.out _).mono ?_
          rintro e u2 ⟨rfl, x2⟩
          replace x0 := x0.trans x2
          replace hS := hS.ext x2
          replace hE := hE.ext x2
          replace hes2 := hes2.ext x2
          clear Cr x2 d0 d1 d2 d3 d4 d5 d6 d7 d8 d9
          have d0 := hS.cell 0
          have d1 := hS.cell 1
          have d2 := hS.cell 2
          have d3 := hS.cell 3
          have d4 := hS.cell 4
          have d5 := hS.cell 5
          have d6 := hS.cell 6
          have d7 := hS.cell 7
          have d8 := hS.cell 8
          have d9 := hS.cell 9
          simp only [List.getElem?_cons_zero, List.getElem?_cons_succ] at d0 d1 d2 d3 d4 d5 d6 d7 d8 d9
          go_wp2_with fail
          refine (Cs.out _).mono ?_
          rintro e u3 ⟨rfl, x2⟩
          replace x0 := x0.trans x2
          replace hE := hE.ext x2
          replace hes2 := hes2.ext x2
          clear Cs x2 d0 d1 d2 d3 d4 d5 d6 d7 d8 d9
          have d0 := hE.cell 0
          have d1 := hE.cell 1
          have d2 := hE.cell 2
          have d3 := hE.cell 3
          have d4 := hE.cell 4
          have d5 := hE.cell 5
          have d6 := hE.cell 6
          have d7 := hE.cell 7
          have d8 := hE.cell 8
          have d9 := hE.cell 9
          simp only [List.getElem?_cons_zero, List.getElem?_cons_succ] at d0 d1 d2 d3 d4 d5 d6 d7 d8 d9
          go_wp2_with fail
          refine (Ce.out _ _ hes2).mono ?_
          rintro e u4 ⟨rfl, x2⟩
          replace x0 := x0.trans x2
          clear Ce x2 d0 d1 d2 d3 d4 d5 d6 d7 d8 d9
          go_wp2_with fail
          go_roundw
          case rel => exact ⟨1 + 1, rfl, by omega, by omega, x0⟩
          case measure => simp [intOf]
        · have Cy := Lib.hid (fun (W : World) => kcallT (k := 2) HK.out ⟨by omega, by omega⟩ 0 0 0 h0 h0 h0 false none 0 0 [] W (Es.nil_ W none) (by omega) (by omega) (by unfold maxLen; omega) (by rw [HM.out 2 (by omega) _ _ _ _ _ _ _ _ rfl]; obtain ⟨n1, n2, n3, n4, n5, n6, n7, n8, n9, n10⟩ := HN.out; simp at n9 n10; simp [*]))
          have Cp := Lib.hid (fun (W : World) => kcallF (k := 2) HK.out ⟨by omega, by omega⟩ n 0 0 in_ h0 h0 false none 0 0 [] W (Es.nil_ W none) (by omega) (by omega) (by unfold maxLen; omega) (by rw [HM.out 2 (by omega) _ _ _ _ _ _ _ _ rfl]; obtain ⟨n1, n2, n3, n4, n5, n6, n7, n8, n9, n10⟩ := HN.out; simp at n9 n10; simp [*]))
          have Cq := Lib.hid (fun (W : World) => kcallF (k := 2) HK.out ⟨by omega, by omega⟩ 0 n 0 h0 in_ h0 false none 0 0 [] W (Es.nil_ W none) (by omega) (by omega) (by unfold maxLen; omega) (by rw [HM.out 2 (by omega) _ _ _ _ _ _ _ _ rfl]; obtain ⟨n1, n2, n3, n4, n5, n6, n7, n8, n9, n10⟩ := HN.out; simp at n9 n10; simp [*]))
          have Cr := Lib.hid (fun (W : World) => kcallF (k := 2) HK.out ⟨by omega, by omega⟩ 0 0 n h0 h0 in_ false none 0 0 [] W (Es.nil_ W none) (by omega) (by omega) (by unfold maxLen; omega) (by rw [HM.out 2 (by omega) _ _ _ _ _ _ _ _ rfl]; obtain ⟨n1, n2, n3, n4, n5, n6, n7, n8, n9, n10⟩ := HN.out; simp at n9 n10; simp [*]))
          have Cs := Lib.hid (fun (W : World) => kcallT (k := 2) HK.out ⟨by omega, by omega⟩ 0 0 0 h0 h0 h0 true none 0 0 [] W (Es.nil_ W none) (by omega) (by omega) (by unfold maxLen; omega) (by rw [HM.out 2 (by omega) _ _ _ _ _ _ _ _ rfl]; obtain ⟨n1, n2, n3, n4, n5, n6, n7, n8, n9, n10⟩ := HN.out; simp at n9 n10; simp [*]))
          have Ce := Lib.hid (fun (W : World) (g : Nat) (he : Es W (some ⟨g, 0, none⟩) 1 [oneE t]) => kcallF (k := 2) HK.out ⟨by omega, by omega⟩ 0 0 0 h0 h0 h0 false (some ⟨g, 0, none⟩) 1 1 [oneE t] W he (by omega) (by omega) (by unfold maxLen; omega) (by rw [HM.out 2 (by omega) _ _ _ _ _ _ _ _ (oneE_ents HK.out)]; obtain ⟨n1, n2, n3, n4, n5, n6, n7, n8, n9, n10⟩ := HN.out; simp at n7 n8; simp [*]))
          go_upto_region 11 with fail
          have hY := Blk.new wo 26 [.int .i64 2, .int .i64 a, .int .i64 b, .int .i64 t, .int .i64 0, .int .i64 0, .int .i64 0, .int .i64 v, .bool false, .slice none 0 0]
          have x0 := hx.alloc (.cells #[.int .i64 2, .int .i64 a, .int .i64 b, .int .i64 t, .int .i64 0, .int .i64 0, .int .i64 0, .int .i64 v, .bool false, .slice none 0 0] 26)
          generalize hgY : wo.heap.size = gY at *
          generalize wo.alloc (.cells #[.int .i64 2, .int .i64 a, .int .i64 b, .int .i64 t, .int .i64 0, .int .i64 0, .int .i64 0, .int .i64 v, .bool false, .slice none 0 0] 26) = W0 at *
          have hgy := hY.lt
          clear hgY
          have d0 := hY.cell 0
          have d1 := hY.cell 1
          have d2 := hY.cell 2
          have d3 := hY.cell 3
          have d4 := hY.cell 4
          have d5 := hY.cell 5
          have d6 := hY.cell 6
          have d7 := hY.cell 7
          have d8 := hY.cell 8
          have d9 := hY.cell 9
          simp only [List.getElem?_cons_zero, List.getElem?_cons_succ] at d0 d1 d2 d3 d4 d5 d6 d7 d8 d9
          go_wp2_with fail
          refine (Cy.out _).mono ?_
          rintro e w2 ⟨rfl, x2⟩
          replace x0 := x0.trans x2
          replace hY := hY.ext x2
          have hgy2 : gY < w2.heap.size := hY.lt
          clear Cy x2 d0 d1 d2 d3 d4 d5 d6 d7 d8 d9 hgy
          have d0 := hY.cell 0
          have d1 := hY.cell 1
          have d2 := hY.cell 2
          have d3 := hY.cell 3
          have d4 := hY.cell 4
          have d5 := hY.cell 5
          have d6 := hY.cell 6
          have d7 := hY.cell 7
          have d8 := hY.cell 8
          have d9 := hY.cell 9
          simp only [List.getElem?_cons_zero, List.getElem?_cons_succ] at d0 d1 d2 d3 d4 d5 d6 d7 d8 d9
          go_upto_region 15 with fail
          have hP := Blk.new w2 26 [.int .i64 2, .int .i64 a, .int .i64 b, .int .i64 t, .int .i64 0, .int .i64 0, .int .i64 0, .int .i64 v, .bool false, .slice none 0 0]
          have hwP := x0.size
          replace x0 := x0.alloc (.cells #[.int .i64 2, .int .i64 a, .int .i64 b, .int .i64 t, .int .i64 0, .int .i64 0, .int .i64 0, .int .i64 v, .bool false, .slice none 0 0] 26)
          replace hY := hY.alloc (.cells #[.int .i64 2, .int .i64 a, .int .i64 b, .int .i64 t, .int .i64 0, .int .i64 0, .int .i64 0, .int .i64 v, .bool false, .slice none 0 0] 26)
          generalize hgP : w2.heap.size = gP at *
          generalize w2.alloc (.cells #[.int .i64 2, .int .i64 a, .int .i64 b, .int .i64 t, .int .i64 0, .int .i64 0, .int .i64 0, .int .i64 v, .bool false, .slice none 0 0] 26) = WP at *
          have hlP := hP.lt
          clear d0 d1 d2 d3 d4 d5 d6 d7 d8 d9 hgP
          have d0 := hY.cell 0
          have d1 := hY.cell 1
          have d2 := hY.cell 2
          have d3 := hY.cell 3
          have d4 := hY.cell 4
          have d5 := hY.cell 5
          have d6 := hY.cell 6
          have d7 := hY.cell 7
          have d8 := hY.cell 8
          have d9 := hY.cell 9
          simp only [List.getElem?_cons_zero, List.getElem?_cons_succ] at d0 d1 d2 d3 d4 d5 d6 d7 d8 d9
          go_upto_region 16 with fail
          have hQ := Blk.new WP 26 [.int .i64 2, .int .i64 a, .int .i64 b, .int .i64 t, .int .i64 0, .int .i64 0, .int .i64 0, .int .i64 v, .bool false, .slice none 0 0]
          have hwQ := x0.size
          replace x0 := x0.alloc (.cells #[.int .i64 2, .int .i64 a, .int .i64 b, .int .i64 t, .int .i64 0, .int .i64 0, .int .i64 0, .int .i64 v, .bool false, .slice none 0 0] 26)
          replace hY := hY.alloc (.cells #[.int .i64 2, .int .i64 a, .int .i64 b, .int .i64 t, .int .i64 0, .int .i64 0, .int .i64 0, .int .i64 v, .bool false, .slice none 0 0] 26)
          replace hP := hP.alloc (.cells #[.int .i64 2, .int .i64 a, .int .i64 b, .int .i64 t, .int .i64 0, .int .i64 0, .int .i64 0, .int .i64 v, .bool false, .slice none 0 0] 26)
          generalize hgQ : WP.heap.size = gQ at *
          generalize WP.alloc (.cells #[.int .i64 2, .int .i64 a, .int .i64 b, .int .i64 t, .int .i64 0, .int .i64 0, .int .i64 0, .int .i64 v, .bool false, .slice none 0 0] 26) = WQ at *
          have hlQ := hQ.lt
          clear d0 d1 d2 d3 d4 d5 d6 d7 d8 d9 hgQ
          have d0 := hY.cell 0
          have d1 := hY.cell 1
          have d2 := hY.cell 2
          have d3 := hY.cell 3
          have d4 := hY.cell 4
          have d5 := hY.cell 5
          have d6 := hY.cell 6
          have d7 := hY.cell 7
          have d8 := hY.cell 8
          have d9 := hY.cell 9
          simp only [List.getElem?_cons_zero, List.getElem?_cons_succ] at d0 d1 d2 d3 d4 d5 d6 d7 d8 d9
          go_upto_region 17 with fail
          have hR := Blk.new WQ 26 [.int .i64 2, .int .i64 a, .int .i64 b, .int .i64 t, .int .i64 0, .int .i64 0, .int .i64 0, .int .i64 v, .bool false, .slice none 0 0]
          have hwR := x0.size
          replace x0 := x0.alloc (.cells #[.int .i64 2, .int .i64 a, .int .i64 b, .int .i64 t, .int .i64 0, .int .i64 0, .int .i64 0, .int .i64 v, .bool false, .slice none 0 0] 26)
          replace hY := hY.alloc (.cells #[.int .i64 2, .int .i64 a, .int .i64 b, .int .i64 t, .int .i64 0, .int .i64 0, .int .i64 0, .int .i64 v, .bool false, .slice none 0 0] 26)
          replace hP := hP.alloc (.cells #[.int .i64 2, .int .i64 a, .int .i64 b, .int .i64 t, .int .i64 0, .int .i64 0, .int .i64 0, .int .i64 v, .bool false, .slice none 0 0] 26)
          replace hQ := hQ.alloc (.cells #[.int .i64 2, .int .i64 a, .int .i64 b, .int .i64 t, .int .i64 0, .int .i64 0, .int .i64 0, .int .i64 v, .bool false, .slice none 0 0] 26)
          generalize hgR : WQ.heap.size = gR at *
          generalize WQ.alloc (.cells #[.int .i64 2, .int .i64 a, .int .i64 b, .int .i64 t, .int .i64 0, .int .i64 0, .int .i64 0, .int .i64 v, .bool false, .slice none 0 0] 26) = WR at *
          have hlR := hR.lt
          clear d0 d1 d2 d3 d4 d5 d6 d7 d8 d9 hgR
          have d0 := hY.cell 0
          have d1 := hY.cell 1
          have d2 := hY.cell 2
          have d3 := hY.cell 3
          have d4 := hY.cell 4
          have d5 := hY.cell 5
          have d6 := hY.cell 6
          have d7 := hY.cell 7
          have d8 := hY.cell 8
          have d9 := hY.cell 9
          simp only [List.getElem?_cons_zero, List.getElem?_cons_succ] at d0 d1 d2 d3 d4 d5 d6 d7 d8 d9
          go_upto_region 18 with fail
          have hS := Blk.new WR 26 [.int .i64 2, .int .i64 a, .int .i64 b, .int .i64 t, .int .i64 0, .int .i64 0, .int .i64 0, .int .i64 v, .bool false, .slice none 0 0]
          have hwS := x0.size
          replace x0 := x0.alloc (.cells #[.int .i64 2, .int .i64 a, .int .i64 b, .int .i64 t, .int .i64 0, .int .i64 0, .int .i64 0, .int .i64 v, .bool false, .slice none 0 0] 26)
          replace hY := hY.alloc (.cells #[.int .i64 2, .int .i64 a, .int .i64 b, .int .i64 t, .int .i64 0, .int .i64 0, .int .i64 0, .int .i64 v, .bool false, .slice none 0 0] 26)
          replace hP := hP.alloc (.cells #[.int .i64 2, .int .i64 a, .int .i64 b, .int .i64 t, .int .i64 0, .int .i64 0, .int .i64 0, .int .i64 v, .bool false, .slice none 0 0] 26)
          replace hQ := hQ.alloc (.cells #[.int .i64 2, .int .i64 a, .int .i64 b, .int .i64 t, .int .i64 0, .int .i64 0, .int .i64 0, .int .i64 v, .bool false, .slice none 0 0] 26)
          replace hR := hR.alloc (.cells #[.int .i64 2, .int .i64 a, .int .i64 b, .int .i64 t, .int .i64 0, .int .i64 0, .int .i64 0, .int .i64 v, .bool false, .slice none 0 0] 26)
          generalize hgS : WR.heap.size = gS at *
          generalize WR.alloc (.cells #[.int .i64 2, .int .i64 a, .int .i64 b, .int .i64 t, .int .i64 0, .int .i64 0, .int .i64 0, .int .i64 v, .bool false, .slice none 0 0] 26) = WS at *
          have hlS := hS.lt
          clear d0 d1 d2 d3 d4 d5 d6 d7 d8 d9 hgS
          have cP4 := hP.cell 4
          simp only [List.getElem?_cons_zero, List.getElem?_cons_succ] at cP4
          have fP4 := hP.frozen 4
          have cQ5 := hQ.cell 5
          simp only [List.getElem?_cons_zero, List.getElem?_cons_succ] at cQ5
          have fQ5 := hQ.frozen 5
          have cR6 := hR.cell 6
          simp only [List.getElem?_cons_zero, List.getElem?_cons_succ] at cR6
          have fR6 := hR.frozen 6
          have cS8 := hS.cell 8
          simp only [List.getElem?_cons_zero, List.getElem?_cons_succ] at cS8
          have fS8 := hS.frozen 8
          go_upto_region 22 with fail
          clear cP4 fP4 cQ5 fQ5 cR6 fR6 cS8 fS8
          replace hY := hY.far (p := ⟨gP, 4, none⟩) (by show gY ≠ gP; omega) (.int .i64 n)
          replace hP := hP.set_ 4 (.int .i64 n)
          replace hQ := hQ.far (p := ⟨gP, 4, none⟩) (by show gQ ≠ gP; omega) (.int .i64 n)
          replace hR := hR.far (p := ⟨gP, 4, none⟩) (by show gR ≠ gP; omega) (.int .i64 n)
          replace hS := hS.far (p := ⟨gP, 4, none⟩) (by show gS ≠ gP; omega) (.int .i64 n)
          replace x0 := x0.setCell (p := ⟨gP, 4, none⟩) (by show w.heap.size ≤ gP; omega) (.int .i64 n)
          replace hY := hY.far (p := ⟨gQ, 5, none⟩) (by show gY ≠ gQ; omega) (.int .i64 n)
          replace hP := hP.far (p := ⟨gQ, 5, none⟩) (by show gP ≠ gQ; omega) (.int .i64 n)
          replace hQ := hQ.set_ 5 (.int .i64 n)
          replace hR := hR.far (p := ⟨gQ, 5, none⟩) (by show gR ≠ gQ; omega) (.int .i64 n)
          replace hS := hS.far (p := ⟨gQ, 5, none⟩) (by show gS ≠ gQ; omega) (.int .i64 n)
          replace x0 := x0.setCell (p := ⟨gQ, 5, none⟩) (by show w.heap.size ≤ gQ; omega) (.int .i64 n)
          replace hY := hY.far (p := ⟨gR, 6, none⟩) (by show gY ≠ gR; omega) (.int .i64 n)
          replace hP := hP.far (p := ⟨gR, 6, none⟩) (by show gP ≠ gR; omega) (.int .i64 n)
          replace hQ := hQ.far (p := ⟨gR, 6, none⟩) (by show gQ ≠ gR; omega) (.int .i64 n)
          replace hR := hR.set_ 6 (.int .i64 n)
          replace hS := hS.far (p := ⟨gR, 6, none⟩) (by show gS ≠ gR; omega) (.int .i64 n)
          replace x0 := x0.setCell (p := ⟨gR, 6, none⟩) (by show w.heap.size ≤ gR; omega) (.int .i64 n)
          replace hY := hY.far (p := ⟨gS, 8, none⟩) (by show gY ≠ gS; omega) (.bool true)
          replace hP := hP.far (p := ⟨gS, 8, none⟩) (by show gP ≠ gS; omega) (.bool true)
          replace hQ := hQ.far (p := ⟨gS, 8, none⟩) (by show gQ ≠ gS; omega) (.bool true)
          replace hR := hR.far (p := ⟨gS, 8, none⟩) (by show gR ≠ gS; omega) (.bool true)
          replace hS := hS.set_ 8 (.bool true)
          replace x0 := x0.setCell (p := ⟨gS, 8, none⟩) (by show w.heap.size ≤ gS; omega) (.bool true)
          simp only [List.set_cons_succ, List.set_cons_zero] at hP hQ hR hS
          generalize ((((WS.setCell ⟨gP, 4, none⟩ (.int .i64 n)).setCell ⟨gQ, 5, none⟩ (.int .i64 n)).setCell ⟨gR, 6, none⟩ (.int .i64 n)).setCell ⟨gS, 8, none⟩ (.bool true)) = W7 at *
          have d0 := hY.cell 0
          have d1 := hY.cell 1
          have d2 := hY.cell 2
          have d3 := hY.cell 3
          have d4 := hY.cell 4
          have d5 := hY.cell 5
          have d6 := hY.cell 6
          have d7 := hY.cell 7
          have d8 := hY.cell 8
          have d9 := hY.cell 9
          simp only [List.getElem?_cons_zero, List.getElem?_cons_succ] at d0 d1 d2 d3 d4 d5 d6 d7 d8 d9
          go_upto_region 23 with fail
          have hlS7 := hS.lt
          have hE := Blk.new W7 26 [.int .i64 2, .int .i64 a, .int .i64 b, .int .i64 t, .int .i64 0, .int .i64 0, .int .i64 0, .int .i64 v, .bool false, .slice none 0 0]
          have hwE := x0.size
          replace x0 := x0.alloc (.cells #[.int .i64 2, .int .i64 a, .int .i64 b, .int .i64 t, .int .i64 0, .int .i64 0, .int .i64 0, .int .i64 v, .bool false, .slice none 0 0] 26)
          replace hY := hY.alloc (.cells #[.int .i64 2, .int .i64 a, .int .i64 b, .int .i64 t, .int .i64 0, .int .i64 0, .int .i64 0, .int .i64 v, .bool false, .slice none 0 0] 26)
          replace hP := hP.alloc (.cells #[.int .i64 2, .int .i64 a, .int .i64 b, .int .i64 t, .int .i64 0, .int .i64 0, .int .i64 0, .int .i64 v, .bool false, .slice none 0 0] 26)
          replace hQ := hQ.alloc (.cells #[.int .i64 2, .int .i64 a, .int .i64 b, .int .i64 t, .int .i64 0, .int .i64 0, .int .i64 0, .int .i64 v, .bool false, .slice none 0 0] 26)
          replace hR := hR.alloc (.cells #[.int .i64 2, .int .i64 a, .int .i64 b, .int .i64 t, .int .i64 0, .int .i64 0, .int .i64 0, .int .i64 v, .bool false, .slice none 0 0] 26)
          replace hS := hS.alloc (.cells #[.int .i64 2, .int .i64 a, .int .i64 b, .int .i64 t, .int .i64 0, .int .i64 0, .int .i64 0, .int .i64 v, .bool false, .slice none 0 0] 26)
          generalize hgE : W7.heap.size = gE at *
          generalize W7.alloc (.cells #[.int .i64 2, .int .i64 a, .int .i64 b, .int .i64 t, .int .i64 0, .int .i64 0, .int .i64 0, .int .i64 v, .bool false, .slice none 0 0] 26) = W8 at *
          have hlE := hE.lt
          have hPE := hP.lt
          clear d0 d1 d2 d3 d4 d5 d6 d7 d8 d9 hgE
          have c9 := hE.cell 9
          simp only [List.getElem?_cons_zero, List.getElem?_cons_succ] at c9
          have f9 := hE.frozen 9
          go_upto_region 24 with fail
          clear c9 f9
          replace hP := (hP.far (p := ⟨gE, 9, none⟩) (by show gP ≠ gE; have := hlP; omega) (.slice (some ⟨W8.heap.size, 0, none⟩) 1 1)).alloc (.cells #[.int .i64 t, .slice none 0 0] 31)
          replace hQ := (hQ.far (p := ⟨gE, 9, none⟩) (by show gQ ≠ gE; have := hlQ; omega) (.slice (some ⟨W8.heap.size, 0, none⟩) 1 1)).alloc (.cells #[.int .i64 t, .slice none 0 0] 31)
          replace hR := (hR.far (p := ⟨gE, 9, none⟩) (by show gR ≠ gE; have := hlR; omega) (.slice (some ⟨W8.heap.size, 0, none⟩) 1 1)).alloc (.cells #[.int .i64 t, .slice none 0 0] 31)
          replace hS := (hS.far (p := ⟨gE, 9, none⟩) (by show gS ≠ gE; have := hlS; omega) (.slice (some ⟨W8.heap.size, 0, none⟩) 1 1)).alloc (.cells #[.int .i64 t, .slice none 0 0] 31)
          replace hE := hE.set_ 9 (.slice (some ⟨W8.heap.size, 0, none⟩) 1 1)
          simp only [List.set_cons_succ, List.set_cons_zero] at hE
          replace hE := hE.alloc (.cells #[.int .i64 t, .slice none 0 0] 31)
          have hes2 := oneE_es (W8.setCell ⟨gE, 9, none⟩ (.slice (some ⟨W8.heap.size, 0, none⟩) 1 1)) t it W8.heap.size (by simp)
          replace x0 := (x0.setCell (p := ⟨gE, 9, none⟩) (by show w.heap.size ≤ gE; omega) (.slice (some ⟨W8.heap.size, 0, none⟩) 1 1)).alloc (.cells #[.int .i64 t, .slice none 0 0] 31)
          generalize (W8.setCell ⟨gE, 9, none⟩ (.slice (some ⟨W8.heap.size, 0, none⟩) 1 1)).alloc (.cells #[.int .i64 t, .slice none 0 0] 31) = W9 at *
          generalize W8.heap.size = g5 at *
          have d0 := hP.cell 0
          have d1 := hP.cell 1
          have d2 := hP.cell 2
          have d3 := hP.cell 3
          have d4 := hP.cell 4
          have d5 := hP.cell 5
          have d6 := hP.cell 6
          have d7 := hP.cell 7
          have d8 := hP.cell 8
          have d9 := hP.cell 9
          simp only [List.getElem?_cons_zero, List.getElem?_cons_succ] at d0 d1 d2 d3 d4 d5 d6 d7 d8 d9
          go_wp2_with fail
          refine (Cp.out _).mono ?_
          rintro e u0 ⟨rfl, x2⟩
          replace x0 := x0.trans x2
          replace hQ := hQ.ext x2
          replace hR := hR.ext x2
          replace hS := hS.ext x2
          replace hE := hE.ext x2
          replace hes2 := hes2.ext x2
          clear Cp x2 d0 d1 d2 d3 d4 d5 d6 d7 d8 d9
          have d0 := hQ.cell 0
          have d1 := hQ.cell 1
          have d2 := hQ.cell 2
          have d3 := hQ.cell 3
          have d4 := hQ.cell 4
          have d5 := hQ.cell 5
          have d6 := hQ.cell 6
          have d7 := hQ.cell 7
          have d8 := hQ.cell 8
          have d9 := hQ.cell 9
          simp only [List.getElem?_cons_zero, List.getElem?_cons_succ] at d0 d1 d2 d3 d4 d5 d6 d7 d8 d9
          go_wp2_with fail
          refine (Cq.out _).mono ?_
          rintro e u1 ⟨rfl, x2⟩
          replace x0 := x0.trans x2
          replace hR := hR.ext x2
          replace hS := hS.ext x2
          replace hE := hE.ext x2
          replace hes2 := hes2.ext x2
          clear Cq x2 d0 d1 d2 d3 d4 d5 d6 d7 d8 d9
          have d0 := hR.cell 0
          have d1 := hR.cell 1
          have d2 := hR.cell 2
          have d3 := hR.cell 3
          have d4 := hR.cell 4
          have d5 := hR.cell 5
          have d6 := hR.cell 6
          have d7 := hR.cell 7
          have d8 := hR.cell 8
          have d9 := hR.cell 9
          simp only [List.getElem?_cons_zero, List.getElem?_cons_succ] at d0 d1 d2 d3 d4 d5 d6 d7 d8 d9
          go_wp2_with fail
          refine (Cr.out _).mono ?_
          rintro e u2 ⟨rfl, x2⟩
          replace x0 := x0.trans x2
          replace hS := hS.ext x2
          replace hE := hE.ext x2
          replace hes2 := hes2.ext x2
          clear Cr x2 d0 d1 d2 d3 d4 d5 d6 d7 d8 d9
          have d0 := hS.cell 0
          have d1 := hS.cell 1
          have d2 := hS.cell 2
          have d3 := hS.cell 3
          have d4 := hS.cell 4
          have d5 := hS.cell 5
          have d6 := hS.cell 6
          have d7 := hS.cell 7
          have d8 := hS.cell 8
          have d9 := hS.cell 9
          simp only [List.getElem?_cons_zero, List.getElem?_cons_succ] at d0 d1 d2 d3 d4 d5 d6 d7 d8 d9
          go_wp2_with fail
          refine (Cs.out _).mono ?_
          rintro e u3 ⟨rfl, x2⟩
          replace x0 := x0.trans x2
          replace hE := hE.ext x2
          replace hes2 := hes2.ext x2
          clear Cs x2 d0 d1 d2 d3 d4 d5 d6 d7 d8 d9
          have d0 := hE.cell 0
          have d1 := hE.cell 1
          have d2 := hE.cell 2
          have d3 := hE.cell 3
          have d4 := hE.cell 4
          have d5 := hE.cell 5
          have d6 := hE.cell 6
          have d7 := hE.cell 7
          have d8 := hE.cell 8
          have d9 := hE.cell 9
          simp only [List.getElem?_cons_zero, List.getElem?_cons_succ] at d0 d1 d2 d3 d4 d5 d6 d7 d8 d9
          go_wp2_with fail
          refine (Ce.out _ _ hes2).mono ?_
          rintro e u4 ⟨rfl, x2⟩
          replace x0 := x0.trans x2
          clear Ce x2 d0 d1 d2 d3 d4 d5 d6 d7 d8 d9
          go_wp2_with fail
          go_roundw
          case rel => exact ⟨2 + 1, rfl, by omega, by omega, x0⟩
          case measure => simp [intOf]
        · have Cy := Lib.hid (fun (W : World) => kcallT (k := 3) HK.out ⟨by omega, by omega⟩ 0 0 0 h0 h0 h0 false none 0 0 [] W (Es.nil_ W none) (by omega) (by omega) (by unfold maxLen; omega) (by rw [HM.out 3 (by omega) _ _ _ _ _ _ _ _ rfl]; obtain ⟨n1, n2, n3, n4, n5, n6, n7, n8, n9, n10⟩ := HN.out; simp at n9 n10; simp [*]))
          have Cp := Lib.hid (fun (W : World) => kcallT (k := 3) HK.out ⟨by omega, by omega⟩ n 0 0 in_ h0 h0 false none 0 0 [] W (Es.nil_ W none) (by omega) (by omega) (by unfold maxLen; omega) (by rw [HM.out 3 (by omega) _ _ _ _ _ _ _ _ rfl]; obtain ⟨n1, n2, n3, n4, n5, n6, n7, n8, n9, n10⟩ := HN.out; simp at n9 n10; simp [*]))
          have Cq := Lib.hid (fun (W : World) => kcallT (k := 3) HK.out ⟨by omega, by omega⟩ 0 n 0 h0 in_ h0 false none 0 0 [] W (Es.nil_ W none) (by omega) (by omega) (by unfold maxLen; omega) (by rw [HM.out 3 (by omega) _ _ _ _ _ _ _ _ rfl]; obtain ⟨n1, n2, n3, n4, n5, n6, n7, n8, n9, n10⟩ := HN.out; simp at n9 n10; simp [*]))
          have Cr := Lib.hid (fun (W : World) => kcallT (k := 3) HK.out ⟨by omega, by omega⟩ 0 0 n h0 h0 in_ false none 0 0 [] W (Es.nil_ W none) (by omega) (by omega) (by unfold maxLen; omega) (by rw [HM.out 3 (by omega) _ _ _ _ _ _ _ _ rfl]; obtain ⟨n1, n2, n3, n4, n5, n6, n7, n8, n9, n10⟩ := HN.out; simp at n9 n10; simp [*]))
          have Cs := Lib.hid (fun (W : World) => kcallF (k := 3) HK.out ⟨by omega, by omega⟩ 0 0 0 h0 h0 h0 true none 0 0 [] W (Es.nil_ W none) (by omega) (by omega) (by unfold maxLen; omega) (by rw [HM.out 3 (by omega) _ _ _ _ _ _ _ _ rfl]; obtain ⟨n1, n2, n3, n4, n5, n6, n7, n8, n9, n10⟩ := HN.out; simp at n9 n10; simp [*]))
          have Ce := Lib.hid (fun (W : World) (g : Nat) (he : Es W (some ⟨g, 0, none⟩) 1 [oneE t]) => kcallT (k := 3) HK.out ⟨by omega, by omega⟩ 0 0 0 h0 h0 h0 false (some ⟨g, 0, none⟩) 1 1 [oneE t] W he (by omega) (by omega) (by unfold maxLen; omega) (by rw [HM.out 3 (by omega) _ _ _ _ _ _ _ _ (oneE_ents HK.out)]; obtain ⟨n1, n2, n3, n4, n5, n6, n7, n8, n9, n10⟩ := HN.out; simp at n7 n8; simp [*]))
          go_upto_region 11 with fail
          have hY := Blk.new wo 26 [.int .i64 3, .int .i64 a, .int .i64 b, .int .i64 t, .int .i64 0, .int .i64 0, .int .i64 0, .int .i64 v, .bool false, .slice none 0 0]
          have x0 := hx.alloc (.cells #[.int .i64 3, .int .i64 a, .int .i64 b, .int .i64 t, .int .i64 0, .int .i64 0, .int .i64 0, .int .i64 v, .bool false, .slice none 0 0] 26)
          generalize hgY : wo.heap.size = gY at *
          generalize wo.alloc (.cells #[.int .i64 3, .int .i64 a, .int .i64 b, .int .i64 t, .int .i64 0, .int .i64 0, .int .i64 0, .int .i64 v, .bool false, .slice none 0 0] 26) = W0 at *
          have hgy := hY.lt
          clear hgY
          have d0 := hY.cell 0
          have d1 := hY.cell 1
          have d2 := hY.cell 2
          have d3 := hY.cell 3
          have d4 := hY.cell 4
          have d5 := hY.cell 5
          have d6 := hY.cell 6
          have d7 := hY.cell 7
          have d8 := hY.cell 8
          have d9 := hY.cell 9
          simp only [List.getElem?_cons_zero, List.getElem?_cons_succ] at d0 d1 d2 d3 d4 d5 d6 d7 d8 d9
          go_wp2_with fail
          refine (Cy.out _).mono ?_
          rintro e w2 ⟨rfl, x2⟩
          replace x0 := x0.trans x2
          replace hY := hY.ext x2
          have hgy2 : gY < w2.heap.size := hY.lt
          clear Cy x2 d0 d1 d2 d3 d4 d5 d6 d7 d8 d9 hgy
          have d0 := hY.cell 0
          have d1 := hY.cell 1
          have d2 := hY.cell 2
          have d3 := hY.cell 3
          have d4 := hY.cell 4
          have d5 := hY.cell 5
          have d6 := hY.cell 6
          have d7 := hY.cell 7
          have d8 := hY.cell 8
          have d9 := hY.cell 9
          simp only [List.getElem?_cons_zero, List.getElem?_cons_succ] at d0 d1 d2 d3 d4 d5 d6 d7 d8 d9
          go_upto_region 15 with fail
          have hP := Blk.new w2 26 [.int .i64 3, .int .i64 a, .int .i64 b, .int .i64 t, .int .i64 0, .int .i64 0, .int .i64 0, .int .i64 v, .bool false, .slice none 0 0]
          have hwP := x0.size
          replace x0 := x0.alloc (.cells #[.int .i64 3, .int .i64 a, .int .i64 b, .int .i64 t, .int .i64 0, .int .i64 0, .int .i64 0, .int .i64 v, .bool false, .slice none 0 0] 26)
          replace hY := hY.alloc (.cells #[.int .i64 3, .int .i64 a, .int .i64 b, .int .i64 t, .int .i64 0, .int .i64 0, .int .i64 0, .int .i64 v, .bool false, .slice none 0 0] 26)
          generalize hgP : w2.heap.size = gP at *
          generalize w2.alloc (.cells #[.int .i64 3, .int .i64 a, .int .i64 b, .int .i64 t, .int .i64 0, .int .i64 0, .int .i64 0, .int .i64 v, .bool false, .slice none 0 0] 26) = WP at *
          have hlP := hP.lt
          clear d0 d1 d2 d3 d4 d5 d6 d7 d8 d9 hgP
          have d0 := hY.cell 0
          have d1 := hY.cell 1
          have d2 := hY.cell 2
          have d3 := hY.cell 3
          have d4 := hY.cell 4
          have d5 := hY.cell 5
          have d6 := hY.cell 6
          have d7 := hY.cell 7
          have d8 := hY.cell 8
          have d9 := hY.cell 9
          simp only [List.getElem?_cons_zero, List.getElem?_cons_succ] at d0 d1 d2 d3 d4 d5 d6 d7 d8 d9
          go_upto_region 16 with fail
          have hQ := Blk.new WP 26 [.int .i64 3, .int .i64 a, .int .i64 b, .int .i64 t, .int .i64 0, .int .i64 0, .int .i64 0, .int .i64 v, .bool false, .slice none 0 0]
          have hwQ := x0.size
          replace x0 := x0.alloc (.cells #[.int .i64 3, .int .i64 a, .int .i64 b, .int .i64 t, .int .i64 0, .int .i64 0, .int .i64 0, .int .i64 v, .bool false, .slice none 0 0] 26)
          replace hY := hY.alloc (.cells #[.int .i64 3, .int .i64 a, .int .i64 b, .int .i64 t, .int .i64 0, .int .i64 0, .int .i64 0, .int .i64 v, .bool false, .slice none 0 0] 26)
          replace hP := hP.alloc (.cells #[.int .i64 3, .int .i64 a, .int .i64 b, .int .i64 t, .int .i64 0, .int .i64 0, .int .i64 0, .int .i64 v, .bool false, .slice none 0 0] 26)
          generalize hgQ : WP.heap.size = gQ at *
          generalize WP.alloc (.cells #[.int .i64 3, .int .i64 a, .int .i64 b, .int .i64 t, .int .i64 0, .int .i64 0, .int .i64 0, .int .i64 v, .bool false, .slice none 0 0] 26) = WQ at *
          have hlQ := hQ.lt
          clear d0 d1 d2 d3 d4 d5 d6 d7 d8 d9 hgQ
          have d0 := hY.cell 0
          have d1 := hY.cell 1
          have d2 := hY.cell 2
          have d3 := hY.cell 3
          have d4 := hY.cell 4
          have d5 := hY.cell 5
          have d6 := hY.cell 6
          have d7 := hY.cell 7
          have d8 := hY.cell 8
          have d9 := hY.cell 9
          simp only [List.getElem?_cons_zero, List.getElem?_cons_succ] at d0 d1 d2 d3 d4 d5 d6 d7 d8 d9
          go_upto_region 17 with fail
          have hR := Blk.new WQ 26 [.int .i64 3, .int .i64 a, .int .i64 b, .int .i64 t, .int .i64 0, .int .i64 0, .int .i64 0, .int .i64 v, .bool false, .slice none 0 0]
          have hwR := x0.size
          replace x0 := x0.alloc (.cells #[.int .i64 3, .int .i64 a, .int .i64 b, .int .i64 t, .int .i64 0, .int .i64 0, .int .i64 0, .int .i64 v, .bool false, .slice none 0 0] 26)
          replace hY := hY.alloc (.cells #[.int .i64 3, .int .i64 a, .int .i64 b, .int .i64 t, .int .i64 0, .int .i64 0, .int .i64 0, .int .i64 v, .bool false, .slice none 0 0] 26)
          replace hP := hP.alloc (.cells #[.int .i64 3, .int .i64 a, .int .i64 b, .int .i64 t, .int .i64 0, .int .i64 0, .int .i64 0, .int .i64 v, .bool false, .slice none 0 0] 26)
          replace hQ := hQ.alloc (.cells #[.int .i64 3, .int .i64 a, .int .i64 b, .int .i64 t, .int .i64 0, .int .i64 0, .int .i64 0, .int .i64 v, .bool false, .slice none 0 0] 26)
          generalize hgR : WQ.heap.size = gR at *
          generalize WQ.alloc (.cells #[.int .i64 3, .int .i64 a, .int .i64 b, .int .i64 t, .int .i64 0, .int .i64 0, .int .i64 0, .int .i64 v, .bool false, .slice none 0 0] 26) = WR at *
          have hlR := hR.lt
          clear d0 d1 d2 d3 d4 d5 d6 d7 d8 d9 hgR
          have d0 := hY.cell 0
          have d1 := hY.cell 1
          have d2 := hY.cell 2
          have d3 := hY.cell 3
          have d4 := hY.cell 4
          have d5 := hY.cell 5
          have d6 := hY.cell 6
          have d7 := hY.cell 7
          have d8 := hY.cell 8
          have d9 := hY.cell 9
          simp only [List.getElem?_cons_zero, List.getElem?_cons_succ] at d0 d1 d2 d3 d4 d5 d6 d7 d8 d9
          go_upto_region 18 with fail
          have hS := Blk.new WR 26 [.int .i64 3, .int .i64 a, .int .i64 b, .int .i64 t, .int .i64 0, .int .i64 0, .int .i64 0, .int .i64 v, .bool false, .slice none 0 0]
          have hwS := x0.size
          replace x0 := x0.alloc (.cells #[.int .i64 3, .int .i64 a, .int .i64 b, .int .i64 t, .int .i64 0, .int .i64 0, .int .i64 0, .int .i64 v, .bool false, .slice none 0 0] 26)
          replace hY := hY.alloc (.cells #[.int .i64 3, .int .i64 a, .int .i64 b, .int .i64 t, .int .i64 0, .int .i64 0, .int .i64 0, .int .i64 v, .bool false, .slice none 0 0] 26)
          replace hP := hP.alloc (.cells #[.int .i64 3, .int .i64 a, .int .i64 b, .int .i64 t, .int .i64 0, .int .i64 0, .int .i64 0, .int .i64 v, .bool false, .slice none 0 0] 26)
          replace hQ := hQ.alloc (.cells #[.int .i64 3, .int .i64 a, .int .i64 b, .int .i64 t, .int .i64 0, .int .i64 0, .int .i64 0, .int .i64 v, .bool false, .slice none 0 0] 26)
          replace hR := hR.alloc (.cells #[.int .i64 3, .int .i64 a, .int .i64 b, .int .i64 t, .int .i64 0, .int .i64 0, .int .i64 0, .int .i64 v, .bool false, .slice none 0 0] 26)
          generalize hgS : WR.heap.size = gS at *
          generalize WR.alloc (.cells #[.int .i64 3, .int .i64 a, .int .i64 b, .int .i64 t, .int .i64 0, .int .i64 0, .int .i64 0, .int .i64 v, .bool false, .slice none 0 0] 26) = WS at *
          have hlS := hS.lt
          clear d0 d1 d2 d3 d4 d5 d6 d7 d8 d9 hgS
          have cP4 := hP.cell 4
          simp only [List.getElem?_cons_zero, List.getElem?_cons_succ] at cP4
          have fP4 := hP.frozen 4
          have cQ5 := hQ.cell 5
          simp only [List.getElem?_cons_zero, List.getElem?_cons_succ] at cQ5
          have fQ5 := hQ.frozen 5
          have cR6 := hR.cell 6
          simp only [List.getElem?_cons_zero, List.getElem?_cons_succ] at cR6
          have fR6 := hR.frozen 6
          have cS8 := hS.cell 8
          simp only [List.getElem?_cons_zero, List.getElem?_cons_succ] at cS8
          have fS8 := hS.frozen 8
          go_upto_region 22 with fail
          clear cP4 fP4 cQ5 fQ5 cR6 fR6 cS8 fS8
          replace hY := hY.far (p := ⟨gP, 4, none⟩) (by show gY ≠ gP; omega) (.int .i64 n)
          replace hP := hP.set_ 4 (.int .i64 n)
          replace hQ := hQ.far (p := ⟨gP, 4, none⟩) (by show gQ ≠ gP; omega) (.int .i64 n)
          replace hR := hR.far (p := ⟨gP, 4, none⟩) (by show gR ≠ gP; omega) (.int .i64 n)
          replace hS := hS.far (p := ⟨gP, 4, none⟩) (by show gS ≠ gP; omega) (.int .i64 n)
          replace x0 := x0.setCell (p := ⟨gP, 4, none⟩) (by show w.heap.size ≤ gP; omega) (.int .i64 n)
          replace hY := hY.far (p := ⟨gQ, 5, none⟩) (by show gY ≠ gQ; omega) (.int .i64 n)
          replace hP := hP.far (p := ⟨gQ, 5, none⟩) (by show gP ≠ gQ; omega) (.int .i64 n)
          replace hQ := hQ.set_ 5 (.int .i64 n)
          replace hR := hR.far (p := ⟨gQ, 5, none⟩) (by show gR ≠ gQ; omega) (.int .i64 n)
          replace hS := hS.far (p := ⟨gQ, 5, none⟩) (by show gS ≠ gQ; omega) (.int .i64 n)
          replace x0 := x0.setCell (p := ⟨gQ, 5, none⟩) (by show w.heap.size ≤ gQ; omega) (.int .i64 n)
          replace hY := hY.far (p := ⟨gR, 6, none⟩) (by show gY ≠ gR; omega) (.int .i64 n)
          replace hP := hP.far (p := ⟨gR, 6, none⟩) (by show gP ≠ gR; omega) (.int .i64 n)
          replace hQ := hQ.far (p := ⟨gR, 6, none⟩) (by show gQ ≠ gR; omega) (.int .i64 n)
          replace hR := hR.set_ 6 (.int .i64 n)
          replace hS := hS.far (p := ⟨gR, 6, none⟩) (by show gS ≠ gR; omega) (.int .i64 n)
          replace x0 := x0.setCell (p := ⟨gR, 6, none⟩) (by show w.heap.size ≤ gR; omega) (.int .i64 n)
          replace hY := hY.far (p := ⟨gS, 8, none⟩) (by show gY ≠ gS; omega) (.bool true)
          replace hP := hP.far (p := ⟨gS, 8, none⟩) (by show gP ≠ gS; omega) (.bool true)
          replace hQ := hQ.far (p := ⟨gS, 8, none⟩) (by show gQ ≠ gS; omega) (.bool true)
          replace hR := hR.far (p := ⟨gS, 8, none⟩) (by show gR ≠ gS; omega) (.bool true)
          replace hS := hS.set_ 8 (.bool true)
          replace x0 := x0.setCell (p := ⟨gS, 8, none⟩) (by show w.heap.size ≤ gS; omega) (.bool true)
          simp only [List.set_cons_succ, List.set_cons_zero] at hP hQ hR hS
          generalize ((((WS.setCell ⟨gP, 4, none⟩ (.int .i64 n)).setCell ⟨gQ, 5, none⟩ (.int .i64 n)).setCell ⟨gR, 6, none⟩ (.int .i64 n)).setCell ⟨gS, 8, none⟩ (.bool true)) = W7 at *
          have d0 := hY.cell 0
          have d1 := hY.cell 1
          have d2 := hY.cell 2
          have d3 := hY.cell 3
          have d4 := hY.cell 4
          have d5 := hY.cell 5
          have d6 := hY.cell 6
          have d7 := hY.cell 7
          have d8 := hY.cell 8
          have d9 := hY.cell 9
          simp only [List.getElem?_cons_zero, List.getElem?_cons_succ] at d0 d1 d2 d3 d4 d5 d6 d7 d8 d9
          go_upto_region 23 with fail
          have hlS7 := hS.lt
          have hE := Blk.new W7 26 [.int .i64 3, .int .i64 a, .int .i64 b, .int .i64 t, .int .i64 0, .int .i64 0, .int .i64 0, .int .i64 v, .bool false, .slice none 0 0]
          have hwE := x0.size
          replace x0 := x0.alloc (.cells #[.int .i64 3, .int .i64 a, .int .i64 b, .int .i64 t, .int .i64 0, .int .i64 0, .int .i64 0, .int .i64 v, .bool false, .slice none 0 0] 26)
          replace hY := hY.alloc (.cells #[.int .i64 3, .int .i64 a, .int .i64 b, .int .i64 t, .int .i64 0, .int .i64 0, .int .i64 0, .int .i64 v, .bool false, .slice none 0 0] 26)
          replace hP := hP.alloc (.cells #[.int .i64 3, .int .i64 a, .int .i64 b, .int .i64 t, .int .i64 0, .int .i64 0, .int .i64 0, .int .i64 v, .bool false, .slice none 0 0] 26)
          replace hQ := hQ.alloc (.cells #[.int .i64 3, .int .i64 a, .int .i64 b, .int .i64 t, .int .i64 0, .int .i64 0, .int .i64 0, .int .i64 v, .bool false, .slice none 0 0] 26)
          replace hR := hR.alloc (.cells #[.int .i64 3, .int .i64 a, .int .i64 b, .int .i64 t, .int .i64 0, .int .i64 0, .int .i64 0, .int .i64 v, .bool false, .slice none 0 0] 26)
          replace hS := hS.alloc (.cells #[.int .i64 3, .int .i64 a, .int .i64 b, .int .i64 t, .int .i64 0, .int .i64 0, .int .i64 0, .int .i64 v, .bool false, .slice none 0 0] 26)
          generalize hgE : W7.heap.size = gE at *
          generalize W7.alloc (.cells #[.int .i64 3, .int .i64 a, .int .i64 b, .int .i64 t, .int .i64 0, .int .i64 0, .int .i64 0, .int .i64 v, .bool false, .slice none 0 0] 26) = W8 at *
          have hlE := hE.lt
          have hPE := hP.lt
          clear d0 d1 d2 d3 d4 d5 d6 d7 d8 d9 hgE
          have c9 := hE.cell 9
          simp only [List.getElem?_cons_zero, List.getElem?_cons_succ] at c9
          have f9 := hE.frozen 9
          go_upto_region 24 with fail
          clear c9 f9
          replace hP := (hP.far (p := ⟨gE, 9, none⟩) (by show gP ≠ gE; have := hlP; omega) (.slice (some ⟨W8.heap.size, 0, none⟩) 1 1)).alloc (.cells #[.int .i64 t, .slice none 0 0] 31)
          replace hQ := (hQ.far (p := ⟨gE, 9, none⟩) (by show gQ ≠ gE; have := hlQ; omega) (.slice (some ⟨W8.heap.size, 0, none⟩) 1 1)).alloc (.cells #[.int .i64 t, .slice none 0 0] 31)
          replace hR := (hR.far (p := ⟨gE, 9, none⟩) (by show gR ≠ gE; have := hlR; omega) (.slice (some ⟨W8.heap.size, 0, none⟩) 1 1)).alloc (.cells #[.int .i64 t, .slice none 0 0] 31)
          replace hS := (hS.far (p := ⟨gE, 9, none⟩) (by show gS ≠ gE; have := hlS; omega) (.slice (some ⟨W8.heap.size, 0, none⟩) 1 1)).alloc (.cells #[.int .i64 t, .slice none 0 0] 31)
          replace hE := hE.set_ 9 (.slice (some ⟨W8.heap.size, 0, none⟩) 1 1)
          simp only [List.set_cons_succ, List.set_cons_zero] at hE
          replace hE := hE.alloc (.cells #[.int .i64 t, .slice none 0 0] 31)
          have hes2 := oneE_es (W8.setCell ⟨gE, 9, none⟩ (.slice (some ⟨W8.heap.size, 0, none⟩) 1 1)) t it W8.heap.size (by simp)
          replace x0 := (x0.setCell (p := ⟨gE, 9, none⟩) (by show w.heap.size ≤ gE; omega) (.slice (some ⟨W8.heap.size, 0, none⟩) 1 1)).alloc (.cells #[.int .i64 t, .slice none 0 0] 31)
          generalize (W8.setCell ⟨gE, 9, none⟩ (.slice (some ⟨W8.heap.size, 0, none⟩) 1 1)).alloc (.cells #[.int .i64 t, .slice none 0 0] 31) = W9 at *
          generalize W8.heap.size = g5 at *
          have d0 := hP.cell 0
          have d1 := hP.cell 1
          have d2 := hP.cell 2
          have d3 := hP.cell 3
          have d4 := hP.cell 4
          have d5 := hP.cell 5
          have d6 := hP.cell 6
          have d7 := hP.cell 7
          have d8 := hP.cell 8
          have d9 := hP.cell 9
          simp only [List.getElem?_cons_zero, List.getElem?_cons_succ] at d0 d1 d2 d3 d4 d5 d6 d7 d8 d9
          go_wp2_with fail
          refine (Cp.out _).mono ?_
          rintro e u0 ⟨rfl, x2⟩
          replace x0 := x0.trans x2
          replace hQ := hQ.ext x2
          replace hR := hR.ext x2
          replace hS := hS.ext x2
          replace hE := hE.ext x2
          replace hes2 := hes2.ext x2
          clear Cp x2 d0 d1 d2 d3 d4 d5 d6 d7 d8 d9
          have d0 := hQ.cell 0
          have d1 := hQ.cell 1
          have d2 := hQ.cell 2
          have d3 := hQ.cell 3
          have d4 := hQ.cell 4
          have d5 := hQ.cell 5
          have d6 := hQ.cell 6
          have d7 := hQ.cell 7
          have d8 := hQ.cell 8
          have d9 := hQ.cell 9
          simp only [List.getElem?_cons_zero, List.getElem?_cons_succ] at d0 d1 d2 d3 d4 d5 d6 d7 d8 d9
          go_wp2_with fail
          refine (Cq.out _).mono ?_
          rintro e u1 ⟨rfl, x2⟩
          replace x0 := x0.trans x2
          replace hR := hR.ext x2
          replace hS := hS.ext x2
          replace hE := hE.ext x2
          replace hes2 := hes2.ext x2
          clear Cq x2 d0 d1 d2 d3 d4 d5 d6 d7 d8 d9
          have d0 := hR.cell 0
          have d1 := hR.cell 1
          have d2 := hR.cell 2
          have d3 := hR.cell 3
          have d4 := hR.cell 4
          have d5 := hR.cell 5
          have d6 := hR.cell 6
          have d7 := hR.cell 7
          have d8 := hR.cell 8
          have d9 := hR.cell 9
          simp only [List.getElem?_cons_zero, List.getElem?_cons_succ] at d0 d1 d2 d3 d4 d5 d6 d7 d8 d9
          go_wp2_with fail
          refine (Cr.out _).mono ?_
          rintro e u2 ⟨rfl, x2⟩
          replace x0 := x0.trans x2
          replace hS := hS.ext x2
          replace hE := hE.ext x2
          replace hes2 := hes2.ext x2
          clear Cr x2 d0 d1 d2 d3 d4 d5 d6 d7 d8 d9
          have d0 := hS.cell 0
          have d1 := hS.cell 1
          have d2 := hS.cell 2
          have d3 := hS.cell 3
          have d4 := hS.cell 4
          have d5 := hS.cell 5
          have d6 := hS.cell 6
          have d7 := hS.cell 7
          have d8 := hS.cell 8
          have d9 := hS.cell 9
          simp only [List.getElem?_cons_zero, List.getElem?_cons_succ] at d0 d1 d2 d3 d4 d5 d6 d7 d8 d9
          go_wp2_with fail
          refine (Cs.out _).mono ?_
          rintro e u3 ⟨rfl, x2⟩
          replace x0 := x0.trans x2
          replace hE := hE.ext x2
          replace hes2 := hes2.ext x2
          clear Cs x2 d0 d1 d2 d3 d4 d5 d6 d7 d8 d9
          have d0 := hE.cell 0
          have d1 := hE.cell 1
          have d2 := hE.cell 2
          have d3 := hE.cell 3
          have d4 := hE.cell 4
          have d5 := hE.cell 5
          have d6 := hE.cell 6
          have d7 := hE.cell 7
          have d8 := hE.cell 8
          have d9 := hE.cell 9
          simp only [List.getElem?_cons_zero, List.getElem?_cons_succ] at d0 d1 d2 d3 d4 d5 d6 d7 d8 d9
          go_wp2_with fail
          refine (Ce.out _ _ hes2).mono ?_
          rintro e u4 ⟨rfl, x2⟩
          replace x0 := x0.trans x2
          clear Ce x2 d0 d1 d2 d3 d4 d5 d6 d7 d8 d9
          go_wp2_with fail
          go_roundw
          case rel => exact ⟨3 + 1, rfl, by omega, by omega, x0⟩
          case measure => simp [intOf]
        · have Cy := Lib.hid (fun (W : World) => kcallT (k := 4) HK.out ⟨by omega, by omega⟩ 0 0 0 h0 h0 h0 false none 0 0 [] W (Es.nil_ W none) (by omega) (by omega) (by unfold maxLen; omega) (by rw [HM.out 4 (by omega) _ _ _ _ _ _ _ _ rfl]; obtain ⟨n1, n2, n3, n4, n5, n6, n7, n8, n9, n10⟩ := HN.out; simp at n9 n10; simp [*]))
          have Cp := Lib.hid (fun (W : World) => kcallT (k := 4) HK.out ⟨by omega, by omega⟩ n 0 0 in_ h0 h0 false none 0 0 [] W (Es.nil_ W none) (by omega) (by omega) (by unfold maxLen; omega) (by rw [HM.out 4 (by omega) _ _ _ _ _ _ _ _ rfl]; obtain ⟨n1, n2, n3, n4, n5, n6, n7, n8, n9, n10⟩ := HN.out; simp at n9 n10; simp [*]))
          have Cq := Lib.hid (fun (W : World) => kcallF (k := 4) HK.out ⟨by omega, by omega⟩ 0 n 0 h0 in_ h0 false none 0 0 [] W (Es.nil_ W none) (by omega) (by omega) (by unfold maxLen; omega) (by rw [HM.out 4 (by omega) _ _ _ _ _ _ _ _ rfl]; obtain ⟨n1, n2, n3, n4, n5, n6, n7, n8, n9, n10⟩ := HN.out; simp at n9 n10; simp [*]))
          have Cr := Lib.hid (fun (W : World) => kcallF (k := 4) HK.out ⟨by omega, by omega⟩ 0 0 n h0 h0 in_ false none 0 0 [] W (Es.nil_ W none) (by omega) (by omega) (by unfold maxLen; omega) (by rw [HM.out 4 (by omega) _ _ _ _ _ _ _ _ rfl]; obtain ⟨n1, n2, n3, n4, n5, n6, n7, n8, n9, n10⟩ := HN.out; simp at n9 n10; simp [*]))
          have Cs := Lib.hid (fun (W : World) => kcallT (k := 4) HK.out ⟨by omega, by omega⟩ 0 0 0 h0 h0 h0 true none 0 0 [] W (Es.nil_ W none) (by omega) (by omega) (by unfold maxLen; omega) (by rw [HM.out 4 (by omega) _ _ _ _ _ _ _ _ rfl]; obtain ⟨n1, n2, n3, n4, n5, n6, n7, n8, n9, n10⟩ := HN.out; simp at n9 n10; simp [*]))
          have Ce := Lib.hid (fun (W : World) (g : Nat) (he : Es W (some ⟨g, 0, none⟩) 1 [oneE t]) => kcallF (k := 4) HK.out ⟨by omega, by omega⟩ 0 0 0 h0 h0 h0 false (some ⟨g, 0, none⟩) 1 1 [oneE t] W he (by omega) (by omega) (by unfold maxLen; omega) (by rw [HM.out 4 (by omega) _ _ _ _ _ _ _ _ (oneE_ents HK.out)]; obtain ⟨n1, n2, n3, n4, n5, n6, n7, n8, n9, n10⟩ := HN.out; simp at n7 n8; simp [*]))
          go_upto_region 11 with fail
          have hY := Blk.new wo 26 [.int .i64 4, .int .i64 a, .int .i64 b, .int .i64 t, .int .i64 0, .int .i64 0, .int .i64 0, .int .i64 v, .bool false, .slice none 0 0]
          have x0 := hx.alloc (.cells #[.int .i64 4, .int .i64 a, .int .i64 b, .int .i64 t, .int .i64 0, .int .i64 0, .int .i64 0, .int .i64 v, .bool false, .slice none 0 0] 26)
          generalize hgY : wo.heap.size = gY at *
          generalize wo.alloc (.cells #[.int .i64 4, .int .i64 a, .int .i64 b, .int .i64 t, .int .i64 0, .int .i64 0, .int .i64 0, .int .i64 v, .bool false, .slice none 0 0] 26) = W0 at *
          have hgy := hY.lt
          clear hgY
          have d0 := hY.cell 0
          have d1 := hY.cell 1
          have d2 := hY.cell 2
          have d3 := hY.cell 3
          have d4 := hY.cell 4
          have d5 := hY.cell 5
          have d6 := hY.cell 6
          have d7 := hY.cell 7
          have d8 := hY.cell 8
          have d9 := hY.cell 9
          simp only [List.getElem?_cons_zero, List.getElem?_cons_succ] at d0 d1 d2 d3 d4 d5 d6 d7 d8 d9
          go_wp2_with fail
          refine (Cy.out _).mono ?_
          rintro e w2 ⟨rfl, x2⟩
          replace x0 := x0.trans x2
          replace hY := hY.ext x2
          have hgy2 : gY < w2.heap.size := hY.lt
          clear Cy x2 d0 d1 d2 d3 d4 d5 d6 d7 d8 d9 hgy
          have d0 := hY.cell 0
          have d1 := hY.cell 1
          have d2 := hY.cell 2
          have d3 := hY.cell 3
          have d4 := hY.cell 4
          have d5 := hY.cell 5
          have d6 := hY.cell 6
          have d7 := hY.cell 7
          have d8 := hY.cell 8
          have d9 := hY.cell 9
          simp only [List.getElem?_cons_zero, List.getElem?_cons_succ] at d0 d1 d2 d3 d4 d5 d6 d7 d8 d9
          go_upto_region 15 with fail
          have hP := Blk.new w2 26 [.int .i64 4, .int .i64 a, .int .i64 b, .int .i64 t, .int .i64 0, .int .i64 0, .int .i64 0, .int .i64 v, .bool false, .slice none 0 0]
          have hwP := x0.size
          replace x0 := x0.alloc (.cells #[.int .i64 4, .int .i64 a, .int .i64 b, .int .i64 t, .int .i64 0, .int .i64 0, .int .i64 0, .int .i64 v, .bool false, .slice none 0 0] 26)
          replace hY := hY.alloc (.cells #[.int .i64 4, .int .i64 a, .int .i64 b, .int .i64 t, .int .i64 0, .int .i64 0, .int .i64 0, .int .i64 v, .bool false, .slice none 0 0] 26)
          generalize hgP : w2.heap.size = gP at *
          generalize w2.alloc (.cells #[.int .i64 4, .int .i64 a, .int .i64 b, .int .i64 t, .int .i64 0, .int .i64 0, .int .i64 0, .int .i64 v, .bool false, .slice none 0 0] 26) = WP at *
          have hlP := hP.lt
          clear d0 d1 d2 d3 d4 d5 d6 d7 d8 d9 hgP
          have d0 := hY.cell 0
          have d1 := hY.cell 1
          have d2 := hY.cell 2
          have d3 := hY.cell 3
          have d4 := hY.cell 4
          have d5 := hY.cell 5
          have d6 := hY.cell 6
          have d7 := hY.cell 7
          have d8 := hY.cell 8
          have d9 := hY.cell 9
          simp only [List.getElem?_cons_zero, List.getElem?_cons_succ] at d0 d1 d2 d3 d4 d5 d6 d7 d8 d9
          go_upto_region 16 with fail
          have hQ := Blk.new WP 26 [.int .i64 4, .int .i64 a, .int .i64 b, .int .i64 t, .int .i64 0, .int .i64 0, .int .i64 0, .int .i64 v, .bool false, .slice none 0 0]
          have hwQ := x0.size
          replace x0 := x0.alloc (.cells #[.int .i64 4, .int .i64 a, .int .i64 b, .int .i64 t, .int .i64 0, .int .i64 0, .int .i64 0, .int .i64 v, .bool false, .slice none 0 0] 26)
          replace hY := hY.alloc (.cells #[.int .i64 4, .int .i64 a, .int .i64 b, .int .i64 t, .int .i64 0, .int .i64 0, .int .i64 0, .int .i64 v, .bool false, .slice none 0 0] 26)
          replace hP := hP.alloc (.cells #[.int .i64 4, .int .i64 a, .int .i64 b, .int .i64 t, .int .i64 0, .int .i64 0, .int .i64 0, .int .i64 v, .bool false, .slice none 0 0] 26)
          generalize hgQ : WP.heap.size = gQ at *
          generalize WP.alloc (.cells #[.int .i64 4, .int .i64 a, .int .i64 b, .int .i64 t, .int .i64 0, .int .i64 0, .int .i64 0, .int .i64 v, .bool false, .slice none 0 0] 26) = WQ at *
          have hlQ := hQ.lt
          clear d0 d1 d2 d3 d4 d5 d6 d7 d8 d9 hgQ
          have d0 := hY.cell 0
          have d1 := hY.cell 1
          have d2 := hY.cell 2
          have d3 := hY.cell 3
          have d4 := hY.cell 4
          have d5 := hY.cell 5
          have d6 := hY.cell 6
          have d7 := hY.cell 7
          have d8 := hY.cell 8
          have d9 := hY.cell 9
          simp only [List.getElem?_cons_zero, List.getElem?_cons_succ] at d0 d1 d2 d3 d4 d5 d6 d7 d8 d9
          go_upto_region 17 with fail
          have hR := Blk.new WQ 26 [.int .i64 4, .int .i64 a, .int .i64 b, .int .i64 t, .int .i64 0, .int .i64 0, .int .i64 0, .int .i64 v, .bool false, .slice none 0 0]
          have hwR := x0.size
          replace x0 := x0.alloc (.cells #[.int .i64 4, .int .i64 a, .int .i64 b, .int .i64 t, .int .i64 0, .int .i64 0, .int .i64 0, .int .i64 v, .bool false, .slice none 0 0] 26)
          replace hY := hY.alloc (.cells #[.int .i64 4, .int .i64 a, .int .i64 b, .int .i64 t, .int .i64 0, .int .i64 0, .int .i64 0, .int .i64 v, .bool false, .slice none 0 0] 26)
          replace hP := hP.alloc (.cells #[.int .i64 4, .int .i64 a, .int .i64 b, .int .i64 t, .int .i64 0, .int .i64 0, .int .i64 0, .int .i64 v, .bool false, .slice none 0 0] 26)
          replace hQ := hQ.alloc (.cells #[.int .i64 4, .int .i64 a, .int .i64 b, .int .i64 t, .int .i64 0, .int .i64 0, .int .i64 0, .int .i64 v, .bool false, .slice none 0 0] 26)
          generalize hgR : WQ.heap.size = gR at *
          generalize WQ.alloc (.cells #[.int .i64 4, .int .i64 a, .int .i64 b, .int .i64 t, .int .i64 0, .int .i64 0, .int .i64 0, .int .i64 v, .bool false, .slice none 0 0] 26) = WR at *
          have hlR := hR.lt
          clear d0 d1 d2 d3 d4 d5 d6 d7 d8 d9 hgR
          have d0 := hY.cell 0
          have d1 := hY.cell 1
          have d2 := hY.cell 2
          have d3 := hY.cell 3
          have d4 := hY.cell 4
          have d5 := hY.cell 5
          have d6 := hY.cell 6
          have d7 := hY.cell 7
          have d8 := hY.cell 8
          have d9 := hY.cell 9
          simp only [List.getElem?_cons_zero, List.getElem?_cons_succ] at d0 d1 d2 d3 d4 d5 d6 d7 d8 d9
          go_upto_region 18 with fail
          have hS := Blk.new WR 26 [.int .i64 4, .int .i64 a, .int .i64 b, .int .i64 t, .int .i64 0, .int .i64 0, .int .i64 0, .int .i64 v, .bool false, .slice none 0 0]
          have hwS := x0.size
          replace x0 := x0.alloc (.cells #[.int .i64 4, .int .i64 a, .int .i64 b, .int .i64 t, .int .i64 0, .int .i64 0, .int .i64 0, .int .i64 v, .bool false, .slice none 0 0] 26)
          replace hY := hY.alloc (.cells #[.int .i64 4, .int .i64 a, .int .i64 b, .int .i64 t, .int .i64 0, .int .i64 0, .int .i64 0, .int .i64 v, .bool false, .slice none 0 0] 26)
          replace hP := hP.alloc (.cells #[.int .i64 4, .int .i64 a, .int .i64 b, .int .i64 t, .int .i64 0, .int .i64 0, .int .i64 0, .int .i64 v, .bool false, .slice none 0 0] 26)
          replace hQ := hQ.alloc (.cells #[.int .i64 4, .int .i64 a, .int .i64 b, .int .i64 t, .int .i64 0, .int .i64 0, .int .i64 0, .int .i64 v, .bool false, .slice none 0 0] 26)
          replace hR := hR.alloc (.cells #[.int .i64 4, .int .i64 a, .int .i64 b, .int .i64 t, .int .i64 0, .int .i64 0, .int .i64 0, .int .i64 v, .bool false, .slice none 0 0] 26)
          generalize hgS : WR.heap.size = gS at *
          generalize WR.alloc (.cells #[.int .i64 4, .int .i64 a, .int .i64 b, .int .i64 t, .int .i64 0, .int .i64 0, .int .i64 0, .int .i64 v, .bool false, .slice none 0 0] 26) = WS at *
          have hlS := hS.lt
          clear d0 d1 d2 d3 d4 d5 d6 d7 d8 d9 hgS
          have cP4 := hP.cell 4
          simp only [List.getElem?_cons_zero, List.getElem?_cons_succ] at cP4
          have fP4 := hP.frozen 4
          have cQ5 := hQ.cell 5
          simp only [List.getElem?_cons_zero, List.getElem?_cons_succ] at cQ5
          have fQ5 := hQ.frozen 5
          have cR6 := hR.cell 6
          simp only [List.getElem?_cons_zero, List.getElem?_cons_succ] at cR6
          have fR6 := hR.frozen 6
          have cS8 := hS.cell 8
          simp only [List.getElem?_cons_zero, List.getElem?_cons_succ] at cS8
          have fS8 := hS.frozen 8
          go_upto_region 22 with fail
          clear cP4 fP4 cQ5 fQ5 cR6 fR6 cS8 fS8
          replace hY := hY.far (p := ⟨gP, 4, none⟩) (by show gY ≠ gP; omega) (.int .i64 n)
          replace hP := hP.set_ 4 (.int .i64 n)
          replace hQ := hQ.far (p := ⟨gP, 4, none⟩) (by show gQ ≠ gP; omega) (.int .i64 n)
          replace hR := hR.far (p := ⟨gP, 4, none⟩) (by show gR ≠ gP; omega) (.int .i64 n)
          replace hS := hS.far (p := ⟨gP, 4, none⟩) (by show gS ≠ gP; omega) (.int .i64 n)
          replace x0 := x0.setCell (p := ⟨gP, 4, none⟩) (by show w.heap.size ≤ gP; omega) (.int .i64 n)
          replace hY := hY.far (p := ⟨gQ, 5, none⟩) (by show gY ≠ gQ; omega) (.int .i64 n)
          replace hP := hP.far (p := ⟨gQ, 5, none⟩) (by show gP ≠ gQ; omega) (.int .i64 n)
          replace hQ := hQ.set_ 5 (.int .i64 n)
          replace hR := hR.far (p := ⟨gQ, 5, none⟩) (by show gR ≠ gQ; omega) (.int .i64 n)
          replace hS := hS.far (p := ⟨gQ, 5, none⟩) (by show gS ≠ gQ; omega) (.int .i64 n)
          replace x0 := x0.setCell (p := ⟨gQ, 5, none⟩) (by show w.heap.size ≤ gQ; omega) (.int .i64 n)
          replace hY := hY.far (p := ⟨gR, 6, none⟩) (by show gY ≠ gR; omega) (.int .i64 n)
          replace hP := hP.far (p := ⟨gR, 6, none⟩) (by show gP ≠ gR; omega) (.int .i64 n)
          replace hQ := hQ.far (p := ⟨gR, 6, none⟩) (by show gQ ≠ gR; omega) (.int .i64 n)
          replace hR := hR.set_ 6 (.int .i64 n)
          replace hS := hS.far (p := ⟨gR, 6, none⟩) (by show gS ≠ gR; omega) (.int .i64 n)
          replace x0 := x0.setCell (p := ⟨gR, 6, none⟩) (by show w.heap.size ≤ gR; omega) (.int .i64 n)
          replace hY := hY.far (p := ⟨gS, 8, none⟩) (by show gY ≠ gS; omega) (.bool true)
          replace hP := hP.far (p := ⟨gS, 8, none⟩) (by show gP ≠ gS; omega) (.bool true)
          replace hQ := hQ.far (p := ⟨gS, 8, none⟩) (by show gQ ≠ gS; omega) (.bool true)
          replace hR := hR.far (p := ⟨gS, 8, none⟩) (by show gR ≠ gS; omega) (.bool true)
          replace hS := hS.set_ 8 (.bool true)
          replace x0 := x0.setCell (p := ⟨gS, 8, none⟩) (by show w.heap.size ≤ gS; omega) (.bool true)
          simp only [List.set_cons_succ, List.set_cons_zero] at hP hQ hR hS
          generalize ((((WS.setCell ⟨gP, 4, none⟩ (.int .i64 n)).setCell ⟨gQ, 5, none⟩ (.int .i64 n)).setCell ⟨gR, 6, none⟩ (.int .i64 n)).setCell ⟨gS, 8, none⟩ (.bool true)) = W7 at *
          have d0 := hY.cell 0
          have d1 := hY.cell 1
          have d2 := hY.cell 2
          have d3 := hY.cell 3
          have d4 := hY.cell 4
          have d5 := hY.cell 5
          have d6 := hY.cell 6
          have d7 := hY.cell 7
          have d8 := hY.cell 8
          have d9 := hY.cell 9
          simp only [List.getElem?_cons_zero, List.getElem?_cons_succ] at d0 d1 d2 d3 d4 d5 d6 d7 d8 d9
          go_upto_region 23 with fail
          have hlS7 := hS.lt
          have hE := Blk.new W7 26 [.int .i64 4, .int .i64 a, .int .i64 b, .int .i64 t, .int .i64 0, .int .i64 0, .int .i64 0, .int .i64 v, .bool false, .slice none 0 0]
          have hwE := x0.size
          replace x0 := x0.alloc (.cells #[.int .i64 4, .int .i64 a, .int .i64 b, .int .i64 t, .int .i64 0, .int .i64 0, .int .i64 0, .int .i64 v, .bool false, .slice none 0 0] 26)
          replace hY := hY.alloc (.cells #[.int .i64 4, .int .i64 a, .int .i64 b, .int .i64 t, .int .i64 0, .int .i64 0, .int .i64 0, .int .i64 v, .bool false, .slice none 0 0] 26)
          replace hP := hP.alloc (.cells #[.int .i64 4, .int .i64 a, .int .i64 b, .int .i64 t, .int .i64 0, .int .i64 0, .int .i64 0, .int .i64 v, .bool false, .slice none 0 0] 26)
          replace hQ := hQ.alloc (.cells #[.int .i64 4, .int .i64 a, .int .i64 b, .int .i64 t, .int .i64 0, .int .i64 0, .int .i64 0, .int .i64 v, .bool false, .slice none 0 0] 26)
          replace hR := hR.alloc (.cells #[.int .i64 4, .int .i64 a, .int .i64 b, .int .i64 t, .int .i64 0, .int .i64 0, .int .i64 0, .int .i64 v, .bool false, .slice none 0 0] 26)
          replace hS := hS.alloc (.cells #[.int .i64 4, .int .i64 a, .int .i64 b, .int .i64 t, .int .i64 0, .int .i64 0, .int .i64 0, .int .i64 v, .bool false, .slice none 0 0] 26)
          generalize hgE : W7.heap.size = gE at *
          generalize W7.alloc (.cells #[.int .i64 4, .int .i64 a, .int .i64 b, .int .i64 t, .int .i64 0, .int .i64 0, .int .i64 0, .int .i64 v, .bool false, .slice none 0 0] 26) = W8 at *
          have hlE := hE.lt
          have hPE := hP.lt
          clear d0 d1 d2 d3 d4 d5 d6 d7 d8 d9 hgE
          have c9 := hE.cell 9
          simp only [List.getElem?_cons_zero, List.getElem?_cons_succ] at c9
          have f9 := hE.frozen 9
          go_upto_region 24 with fail
          clear c9 f9
          replace hP := (hP.far (p := ⟨gE, 9, none⟩) (by show gP ≠ gE; have := hlP; omega) (.slice (some ⟨W8.heap.size, 0, none⟩) 1 1)).alloc (.cells #[.int .i64 t, .slice none 0 0] 31)
          replace hQ := (hQ.far (p := ⟨gE, 9, none⟩) (by show gQ ≠ gE; have := hlQ; omega) (.slice (some ⟨W8.heap.size, 0, none⟩) 1 1)).alloc (.cells #[.int .i64 t, .slice none 0 0] 31)
          replace hR := (hR.far (p := ⟨gE, 9, none⟩) (by show gR ≠ gE; have := hlR; omega) (.slice (some ⟨W8.heap.size, 0, none⟩) 1 1)).alloc (.cells #[.int .i64 t, .slice none 0 0] 31)
          replace hS := (hS.far (p := ⟨gE, 9, none⟩) (by show gS ≠ gE; have := hlS; omega) (.slice (some ⟨W8.heap.size, 0, none⟩) 1 1)).alloc (.cells #[.int .i64 t, .slice none 0 0] 31)
          replace hE := hE.set_ 9 (.slice (some ⟨W8.heap.size, 0, none⟩) 1 1)
          simp only [List.set_cons_succ, List.set_cons_zero] at hE
          replace hE := hE.alloc (.cells #[.int .i64 t, .slice none 0 0] 31)
          have hes2 := oneE_es (W8.setCell ⟨gE, 9, none⟩ (.slice (some ⟨W8.heap.size, 0, none⟩) 1 1)) t it W8.heap.size (by simp)
          replace x0 := (x0.setCell (p := ⟨gE, 9, none⟩) (by show w.heap.size ≤ gE; omega) (.slice (some ⟨W8.heap.size, 0, none⟩) 1 1)).alloc (.cells #[.int .i64 t, .slice none 0 0] 31)
          generalize (W8.setCell ⟨gE, 9, none⟩ (.slice (some ⟨W8.heap.size, 0, none⟩) 1 1)).alloc (.cells #[.int .i64 t, .slice none 0 0] 31) = W9 at *
          generalize W8.heap.size = g5 at *
          have d0 := hP.cell 0
          have d1 := hP.cell 1
          have d2 := hP.cell 2
          have d3 := hP.cell 3
          have d4 := hP.cell 4
          have d5 := hP.cell 5
          have d6 := hP.cell 6
          have d7 := hP.cell 7
          have d8 := hP.cell 8
          have d9 := hP.cell 9
          simp only [List.getElem?_cons_zero, List.getElem?_cons_succ] at d0 d1 d2 d3 d4 d5 d6 d7 d8 d9
          go_wp2_with fail
          refine (Cp.out _).mono ?_
          rintro e u0 ⟨rfl, x2⟩
          replace x0 := x0.trans x2
          replace hQ := hQ.ext x2
          replace hR := hR.ext x2
          replace hS := hS.ext x2
          replace hE := hE.ext x2
          replace hes2 := hes2.ext x2
          clear Cp x2 d0 d1 d2 d3 d4 d5 d6 d7 d8 d9
          have d0 := hQ.cell 0
          have d1 := hQ.cell 1
          have d2 := hQ.cell 2
          have d3 := hQ.cell 3
          have d4 := hQ.cell 4
          have d5 := hQ.cell 5
          have d6 := hQ.cell 6
          have d7 := hQ.cell 7
          have d8 := hQ.cell 8
          have d9 := hQ.cell 9
          simp only [List.getElem?_cons_zero, List.getElem?_cons_succ] at d0 d1 d2 d3 d4 d5 d6 d7 d8 d9
          go_wp2_with fail
          refine (Cq.out _).mono ?_
          rintro e u1 ⟨rfl, x2⟩
          replace x0 := x0.trans x2
          replace hR := hR.ext x2
          replace hS := hS.ext x2
          replace hE := hE.ext x2
          replace hes2 := hes2.ext x2
          clear Cq x2 d0 d1 d2 d3 d4 d5 d6 d7 d8 d9
          have d0 := hR.cell 0
          have d1 := hR.cell 1
          have d2 := hR.cell 2
          have d3 := hR.cell 3
          have d4 := hR.cell 4
          have d5 := hR.cell 5
          have d6 := hR.cell 6
          have d7 := hR.cell 7
          have d8 := hR.cell 8
          have d9 := hR.cell 9
          simp only [List.getElem?_cons_zero, List.getElem?_cons_succ] at d0 d1 d2 d3 d4 d5 d6 d7 d8 d9
          go_wp2_with fail
          refine (Cr.out _).mono ?_
          rintro e u2 ⟨rfl, x2⟩
          replace x0 := x0.trans x2
          replace hS := hS.ext x2
          replace hE := hE.ext x2
          replace hes2 := hes2.ext x2
          clear Cr x2 d0 d1 d2 d3 d4 d5 d6 d7 d8 d9
          have d0 := hS.cell 0
          have d1 := hS.cell 1
          have d2 := hS.cell 2
          have d3 := hS.cell 3
          have d4 := hS.cell 4
          have d5 := hS.cell 5
          have d6 := hS.cell 6
          have d7 := hS.cell 7
          have d8 := hS.cell 8
          have d9 := hS.cell 9
          simp only [List.getElem?_cons_zero, List.getElem?_cons_succ] at d0 d1 d2 d3 d4 d5 d6 d7 d8 d9
          go_wp2_with fail
          refine (Cs.out _).mono ?_
          rintro e u3 ⟨rfl, x2⟩
          replace x0 := x0.trans x2
          replace hE := hE.ext x2
          replace hes2 := hes2.ext x2
          clear Cs x2 d0 d1 d2 d3 d4 d5 d6 d7 d8 d9
          have d0 := hE.cell 0
          have d1 := hE.cell 1
          have d2 := hE.cell 2
          have d3 := hE.cell 3
          have d4 := hE.cell 4
          have d5 := hE.cell 5
          have d6 := hE.cell 6
          have d7 := hE.cell 7
          have d8 := hE.cell 8
          have d9 := hE.cell 9
          simp only [List.getElem?_cons_zero, List.getElem?_cons_succ] at d0 d1 d2 d3 d4 d5 d6 d7 d8 d9
          go_wp2_with fail
          refine (Ce.out _ _ hes2).mono ?_
          rintro e u4 ⟨rfl, x2⟩
          replace x0 := x0.trans x2
          clear Ce x2 d0 d1 d2 d3 d4 d5 d6 d7 d8 d9
          go_wp2_with fail
          go_roundw
          case rel => exact ⟨4 + 1, rfl, by omega, by omega, x0⟩
          case measure => simp [intOf]
    · have hk5' : k = 5 := by omega
      subst hk5'
      go_wp2_with fail
      go_ret
      exact ⟨rfl, hx⟩
theorem law_LetterKindsI (a b : Int) (x0 x1 x2 : Nat) (w : World) (ha0 : 0 ≤ a ∧ a ≤ 255) (hb0 : 0 ≤ b ∧ b ≤ 255) (h0 : x0 < 256) (h1 : x1 < 256) (h2 : x2 < 256) :
    Calls Try.prog 3 #[.int .u8 a, .int .u8 b, .agg #[.int .u8 x0, .int .u8 x1, .int .u8 x2]] w fun e w' => e = .returned (.bool true) ∧ Ext w w' := by
  obtain ⟨n, rfl⟩ := Int.eq_ofNat_of_zero_le ha0.1
  obtain ⟨m, rfl⟩ := Int.eq_ofNat_of_zero_le hb0.1
  exact law_LetterKinds n m x0 x1 x2 w (by omega) (by omega) h0 h1 h2
end Go.Proofs.Ytcoaofaofmbfbaa
