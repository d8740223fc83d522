/- The walk of the law SpreadMakes. (Printed by wip/tools/spmakes.py.) -/
import Derived.Test.YtcdnjhcddbkciaaSpB
import Derived.Test.YtcdnjhcddbkciaaSpC
import Derived.Test.YtcdnjhcddbkciaaSpD
import Derived.Test.YtcdnjhcddbkciaaElF
import Derived.Test.YtcdnjhcddbkciaaMask
import Derived.Test.YtcdnjhcddbkciaaCut
import Derived.Test.YtcdnjhcddbkciaaSpE
import Derived.Test.YtcdnjhcddbkciaaSpF
import Derived.Test.YtcdnjhcddbkciaaElO
import Derived.Deep.RegionHeld3
namespace Go.Proofs.Ytcdnjhcddbkciaa
open Go.RowKit

/-- the first entries are ones that a letter may have -/
def GoodE (t : List EV) (j : Nat) : Prop := ∀ i, i < j → ∀ (h : i < t.length), 1 ≤ t[i].term ∧ t[i].term ≤ 1048576 ∧ t[i].len ≤ 200
theorem GoodE.succ {t : List EV} {j : Nat} (h : GoodE t j) (hj : j < t.length) (q1 : 1 ≤ t[j].term) (q2 : t[j].term ≤ 1048576) (q3 : t[j].len ≤ 200) : GoodE t (j + 1) := fun i hi hl => by
  rcases Nat.lt_or_ge i j with k | k
  · exact h i k hl
  · have : i = j := by omega
    subst this
    exact ⟨q1, q2, q3⟩
theorem GoodE.mem {t : List EV} (h : GoodE t t.length) : ∀ f ∈ t, 1 ≤ f.term ∧ f.term ≤ 1048576 ∧ f.len ≤ 200 := fun f hf => by
  obtain ⟨i, hi, rfl⟩ := List.getElem_of_mem hf
  exact h i hi hi
theorem behB_4 (t : List EV) (a : Nat) (h : a ≤ t.length) : behB t a 4 = (t.drop a).take (min 4 (t.length - a)) := by
  unfold behB
  rw [if_neg (by omega)]
  have e : (4 : Int).toNat = 4 := rfl
  have e2 : (a : Int).toNat = a := rfl
  rw [e, e2, List.take_eq_take_min, List.length_drop]
theorem makeY_good (floor vote : Int) (A1 : Option Addr) (m c1 : Nat) (t : List EV) (T0 k3 a b3 : Nat) (hT : T0 ≤ 1048575) (hk : k3 ≤ 3) (hb : b3 ≤ 2) (ha : a ≤ t.length) (hm : t.length ≤ 60) (hg : GoodE t t.length) :
    mayB (makeY ⟨floor, 1 + (T0 : Int), vote, A1, m, c1, t⟩ 0 (1 + (k3 : Int)) a 0 (1 + (b3 : Int)) none 0) = true := by
  have hte : 0 ≤ termB t a ∧ termB t a ≤ 1048576 := by
    rcases Nat.eq_zero_or_pos a with rfl | h0
    · rw [show ((0 : Nat) : Int) = 0 from rfl, termB_zero]; omega
    · obtain ⟨i, rfl⟩ : ∃ i, a = i + 1 := ⟨a - 1, by omega⟩
      have := hg i (by omega) (by omega)
      rw [show ((i + 1 : Nat) : Int) = (i : Int) + 1 by omega, termB_at t i (by omega)]
      omega
  have hl : (behB t a 4).length ≤ 4 := by rw [behB_4 t a ha, List.length_take]; omega
  have he : entsB (behB t a 4) = true := by
    have hmem := behB_mem2 t a 4
    generalize behB t a 4 = bl at *
    unfold entsB
    rw [List.all_eq_true]
    intro f hf
    obtain ⟨q1, q2, q3⟩ := hg.mem f (hmem f hf)
    simp [inB]
    omega
  unfold mayB makeY
  dsimp only
  rw [he]
  generalize (behB t a 4).length = n at *
  generalize termB t a = te at *
  simp [inB]
  omega

set_option maxRecDepth 100000 in
set_option maxHeartbeats 6400000 in
theorem law_SpreadMakes (s : SV) (b p q : Nat) (T0 k3 : Nat) (w : World) (hs : s.Ok w) (hp : p < 256) (hq : q < 256) (HT : Hid (bits .and .i64 s.term 1048575 = T0)) (hT0 : T0 ≤ 1048575) (HK3 : Hid (bits .and .u8 (b : Int) 3 = k3)) (hk3 : k3 ≤ 3) :
    Calls Try.prog 17 #[s.val, .int .u8 b, .agg #[.int .u8 p, .int .u8 q]] w fun e w' => e = .returned (.bool true) ∧ Ext w w' := by
  obtain ⟨floor, term, vote, A, n, c, l⟩ := s
  unfold SV.val
  dsimp only at *
  have hS := Lib.hid (fun w' (h : Ext w w') => law19_stable floor term vote A n c l w' (hs.es.ext h) hs.le hs.cap)
  have HK0 := Lib.hid (cutL_ok (m := 70) (k := 250) hs.es.ok)
  obtain ⟨hu0, hu2⟩ : I64 floor ∧ I64 vote := ⟨hs.u0, hs.u2⟩
  have hln := hs.es.len
  have hb0 : Blk ((w.alloc (.cells #[.int .i64 floor, .int .i64 term, .int .i64 vote, .slice A n c] 45)).alloc (.cells #[.int .u8 p, .int .u8 q] 75)) w.heap.size 45 [.int .i64 floor, .int .i64 term, .int .i64 vote, .slice A n c] := ((Blk.new w 45 [.int .i64 floor, .int .i64 term, .int .i64 vote, .slice A n c]).alloc _)
  have ha0 : Blk ((w.alloc (.cells #[.int .i64 floor, .int .i64 term, .int .i64 vote, .slice A n c] 45)).alloc (.cells #[.int .u8 p, .int .u8 q] 75)) (w.heap.size + 1) 75 [.int .u8 p, .int .u8 q] := by
    have h0 := Blk.new (w.alloc (.cells #[.int .i64 floor, .int .i64 term, .int .i64 vote, .slice A n c] 45)) 75 [.int .u8 p, .int .u8 q]
    rw [show (w.alloc (.cells #[.int .i64 floor, .int .i64 term, .int .i64 vote, .slice A n c] 45)).heap.size = w.heap.size + 1 by simp] at h0
    exact h0
  have xc : Ext w ((w.alloc (.cells #[.int .i64 floor, .int .i64 term, .int .i64 vote, .slice A n c] 45)).alloc (.cells #[.int .u8 p, .int .u8 q] 75)) := ((Ext.refl w).alloc _).alloc _
  clear hs
  go_enter Try.func17, Try.ntmps17
  go_wp2_with fail
  refine (law19_shown _).mono ?_
  rintro e w1 ⟨rfl, x1⟩
  have hb1 := hb0.ext x1
  have ha1 := ha0.ext x1
  have s0 := hb1.cell 0
  have s1 := hb1.cell 1
  have s2 := hb1.cell 2
  have s3 := hb1.cell 3
  simp only [List.getElem?_cons_zero, List.getElem?_cons_succ] at s0 s1 s2 s3
  have xw1 := xc.trans x1
  go_wp2_with fail
  refine (hS.out _ xw1).mono ?_
  rintro e w2 ⟨v2, rfl, hown2, x2⟩
  obtain ⟨A1, c1, rfl, hmc0, hcm⟩ := own_form2 hown2
  clear s0 s1 s2 s3 hS
  have hb2 := hb1.ext x2
  have ha2 := ha1.ext x2
  have s0 := hb2.cell 0
  have s1 := hb2.cell 1
  have s2 := hb2.cell 2
  have s3 := hb2.cell 3
  simp only [List.getElem?_cons_zero, List.getElem?_cons_succ] at s0 s1 s2 s3
  have f0 := hb2.frozen 0
  have f1 := hb2.frozen 1
  have f2 := hb2.frozen 2
  have f3 := hb2.frozen 3
  have xw2 := xw1.trans x2
  have hlt1 := hb1.lt
  have hO2 := own_base (base' := w.heap.size + 1) hown2 (by omega)
  go_upto_region 3 with fail
  have hb3 := hb2.set4 (.slice A1 (min 70 n) c1)
  have hO3 := own_set4 hO2 (g := w.heap.size) (by omega) (.int .i64 floor) (.int .i64 term) (.int .i64 vote) (.slice A1 (min 70 n) c1)
  have xw3 := Ext.set4 xw2 (g := w.heap.size) (Nat.le_refl _) (.int .i64 floor) (.int .i64 term) (.int .i64 vote) (.slice A1 (min 70 n) c1)
  have ha3 := ha2.far4 (show w.heap.size + 1 ≠ w.heap.size by omega) (.int .i64 floor) (.int .i64 term) (.int .i64 vote) (.slice A1 (min 70 n) c1)
  clear s0 s1 s2 s3 f0 f1 f2 f3 hown2 hO2 xw2 hb0 hb1 hb2 hlt1 x1 x2 xw1 xc ha0 ha1 ha2
  generalize (((w2.setCell ⟨w.heap.size, 0, none⟩ (.int .i64 floor)).setCell ⟨w.heap.size, 1, none⟩ (.int .i64 term)).setCell ⟨w.heap.size, 2, none⟩ (.int .i64 vote)).setCell ⟨w.heap.size, 3, none⟩ (.slice A1 (min 70 n) c1) = W3 at *
  have hm70 : (cutL 70 250 l).length = min 70 n := by rw [cutL_len, hln]
  clear hln
  generalize cutL 70 250 l = t0 at *
  generalize min 70 n = m0 at *
  have s0 := hb3.cell 0
  have s1 := hb3.cell 1
  have s2 := hb3.cell 2
  have s3 := hb3.cell 3
  simp only [List.getElem?_cons_zero, List.getElem?_cons_succ] at s0 s1 s2 s3
  have f0 := hb3.frozen 0
  have f1 := hb3.frozen 1
  have f2 := hb3.frozen 2
  have f3 := hb3.frozen 3
  have hT := HT.out
  have ht1 : IntKind.i64.wrap (1 + (T0 : Int)) = 1 + (T0 : Int) := IntWalk.i64_in _ (by omega)
  go_upto_if 31 with fail
  have hb4 := hb3.set_ 1 (.int .i64 (1 + (T0 : Int)))
  simp only [List.set_cons_succ, List.set_cons_zero] at hb4
  have hO4 := own_set hO3 (p := ⟨w.heap.size, 1, none⟩) (show w.heap.size < w.heap.size + 1 by omega) (.int .i64 (1 + (T0 : Int)))
  have xw4 := xw3.setCell (p := ⟨w.heap.size, 1, none⟩) (Nat.le_refl _) (.int .i64 (1 + (T0 : Int)))
  have ha4 := ha3.far (p := ⟨w.heap.size, 1, none⟩) (show w.heap.size + 1 ≠ w.heap.size by omega) (.int .i64 (1 + (T0 : Int)))
  clear s0 s1 s2 s3 f0 f1 f2 f3 hO3 xw3 hb3 hT ht1 ha3
  generalize W3.setCell ⟨w.heap.size, 1, none⟩ (.int .i64 (1 + (T0 : Int))) = W4 at *
  go_cut [] (fun wx => Blk wx w.heap.size 45 [.int .i64 floor, .int .i64 (1 + (T0 : Int)), .int .i64 vote, .slice A1 (min 60 m0) c1] ∧ wx.ownsRow (w.heap.size + 1) 36 2 (.slice A1 (min 60 m0) c1) (min 60 m0) (logOf (t0.take (min 60 m0))) ∧ Ext w wx ∧ Blk wx (w.heap.size + 1) 75 [.int .u8 p, .int .u8 q])
  case first =>
    have q0 := hb4.cell 3
    have q1 := hb4.frozen 3
    simp only [List.getElem?_cons_zero, List.getElem?_cons_succ] at q0
    have hcut := own_to (own_cut hO4 (show min 60 m0 ≤ m0 by omega)) (ys := logOf (t0.take (min 60 m0))) (Nat.le_refl _) rfl (by rw [logOf_take])
    by_cases hn : 60 < m0
    · have d1 := dec_t (show (60 : Int) < m0 by omega)
      have d2 := dec_t hn
      have hc : (60 : Int) ≤ c1 := by omega
      have hmm : min 60 m0 = 60 := by omega
      have HMM := Lib.hid hmm
      have r1 := hb4.set_ 3 (.slice A1 60 c1)
      simp only [List.set_cons_succ, List.set_cons_zero] at r1
      have r2 := own_set hcut (p := ⟨w.heap.size, 3, none⟩) (show w.heap.size < w.heap.size + 1 by omega) (.slice A1 60 c1)
      have r3 := xw4.setCell (p := ⟨w.heap.size, 3, none⟩) (Nat.le_refl _) (.slice A1 60 c1)
      have ra := ha4.far (p := ⟨w.heap.size, 3, none⟩) (show w.heap.size + 1 ≠ w.heap.size by omega) (.slice A1 60 c1)
      clear hmm hcut
      go_wp2_with fail
      go_meet
      rw [HMM.out] at r2 ⊢
      exact ⟨r1, r2, r3, ra⟩
    · have d1 := dec_f (show ¬ (60 : Int) < m0 by omega)
      have d2 := dec_f hn
      have hmm : min 60 m0 = m0 := by omega
      have HMM := Lib.hid hmm
      clear hmm
      go_wp2_with fail
      go_meet
      rw [HMM.out] at hcut ⊢
      exact ⟨hb4, hcut, xw4, ha4⟩
  case rest =>
    obtain ⟨hB, hO, xW, ha⟩ := hcut
    have HK : Hid (∀ f ∈ t0.take (min 60 m0), f.Ok w) := Lib.hid (fun f hf => HK0.out f (List.mem_of_mem_take hf))
    have hm : min 60 m0 ≤ 60 := by omega
    have hmc : min 60 m0 ≤ c1 := by omega
    have hlt : (t0.take (min 60 m0)).length = min 60 m0 := by rw [List.length_take, hm70]; omega
    clear hb4 hO4 xw4 HK0 hm70 hmc0 ha4
    generalize t0.take (min 60 m0) = t at *
    generalize min 60 m0 = m at *
    have es := Es.of_own hO (fun f hf => (HK.out f hf).ext xW)
    have hk : p % (m + 1) ≤ m := by have := Nat.mod_lt p (show 0 < m + 1 by omega); omega
    have hmod : Int.tmod (p : Int) ((m : Int) + 1) = ((p % (m + 1) : Nat) : Int) := by rw [Int.tmod_eq_emod_of_nonneg (by omega), Int.natCast_emod]; rfl
    have hwp : IntKind.i64.wrap (p : Int) = (p : Int) := IntWalk.i64_in _ (by omega)
    have hwq : IntKind.i64.wrap (q : Int) = (q : Int) := IntWalk.i64_in _ (by omega)
    have hwm : IntKind.i64.wrap ((m : Int) + 1) = (m : Int) + 1 := IntWalk.i64_in _ (by omega)
    generalize p % (m + 1) = a at *
    have hwa : IntKind.i64.wrap (1 + (a : Int)) = 1 + (a : Int) := IntWalk.i64_in _ (by omega)
    have hb3 : q % 3 ≤ 2 := by omega
    have hmod3 : Int.tmod (q : Int) 3 = ((q % 3 : Nat) : Int) := by rw [Int.tmod_eq_emod_of_nonneg (by omega)]; omega
    generalize q % 3 = b3 at *
    have hwb : IntKind.i64.wrap (1 + (b3 : Int)) = 1 + (b3 : Int) := IntWalk.i64_in _ (by omega)
    have hwk0 : IntKind.i64.wrap (k3 : Int) = (k3 : Int) := IntWalk.i64_in _ (by omega)
    have hwk : IntKind.i64.wrap (1 + (k3 : Int)) = 1 + (k3 : Int) := IntWalk.i64_in _ (by omega)
    have hkk := HK3.out
    have s0 := hB.cell 0
    have s1 := hB.cell 1
    have s2 := hB.cell 2
    have s3 := hB.cell 3
    have a0 := ha.cell 0
    have a1 := ha.cell 1
    simp only [List.getElem?_cons_zero, List.getElem?_cons_succ] at s0 s1 s2 s3 a0 a1
    go_upto_region 9 with fail
    clear hmod hwp hwq hwm hwa hmod3 hwb hwk0 hwk hkk a0 a1 HK3
    have hte := termB_i64 (l := t) (fun f hf => (es.ok f hf).u) a
    have HKT : Hid (∀ V, Ext wc V → (⟨floor, 1 + (T0 : Int), vote, A1, m, c1, t⟩ : SV).Ok V) := Lib.hid (fun V y => ⟨es.ext y, hmc, hcm, hu0, ⟨by dsimp only; omega, by dsimp only; omega⟩, hu2⟩)
    have PMk := Lib.hid (spread_Make (⟨floor, 1 + (T0 : Int), vote, A1, m, c1, t⟩ : SV) 0 (1 + (k3 : Int)) a 0 (1 + (b3 : Int)) wc (HKT.out wc (Ext.refl _)) (by dsimp only; omega) hk (⟨by omega, by omega⟩ : I64 0) (⟨by omega, by omega⟩ : I64 (1 + (k3 : Int))) (⟨by omega, by omega⟩ : I64 0) (⟨by omega, by omega⟩ : I64 (1 + (b3 : Int))) hte)
    have hbe := behB_4 t a (by omega)
    rw [hlt] at hbe
    have hbl : (behB t a 4).length = min 4 (m - a) := by rw [hbe, List.length_take, List.length_drop, hlt]; omega
    dsimp only at PMk
    have HMK : Hid (∀ A2 c2, (makeY (⟨floor, 1 + (T0 : Int), vote, A1, m, c1, t⟩ : SV) 0 (1 + (k3 : Int)) a 0 (1 + (b3 : Int)) A2 c2).val = .agg #[.int .i64 3, .int .i64 0, .int .i64 (1 + (k3 : Int)), .int .i64 (1 + (T0 : Int)), .int .i64 a, .int .i64 (termB t a), .int .i64 0, .int .i64 (1 + (b3 : Int)), .bool false, .slice A2 (min 4 (m - a)) c2]) := Lib.hid (fun A2 c2 => by
      unfold makeY LV.val
      dsimp only
      rw [hbl])
    unfold SV.val at PMk
    dsimp only at PMk
    have HS4 : Hid (∀ V, Ext wc V → Blk V w.heap.size 45 [.int .i64 floor, .int .i64 (1 + (T0 : Int)), .int .i64 vote, .slice A1 m c1]) := Lib.hid (fun V y => hB.ext y)
    clear hB hO HK ha
    go_wp2_with fail
    refine PMk.out.mono ?_
    clear PMk s0 s1 s2 s3
    rintro e w5 ⟨⟨hmay, A2, c2, rfl, hown⟩ | ⟨hmay, rfl⟩, y5⟩
    · rw [HMK.out]
      rw [hbl, hbe] at hown
      have hmayY : mayB (makeY (⟨floor, 1 + (T0 : Int), vote, A1, m, c1, t⟩ : SV) 0 (1 + (k3 : Int)) a 0 (1 + (b3 : Int)) A2 c2) = true := hmay
      have hmayX : mayB ⟨3, 0, 1 + (k3 : Int), 1 + (T0 : Int), a, termB t a, 0, 1 + (b3 : Int), false, A2, min 4 (m - a), c2, (t.drop a).take (min 4 (m - a))⟩ = true := by
        have h9 := hmayY
        unfold makeY at h9
        dsimp only at h9
        rw [hbl, hbe] at h9
        exact h9
      have HMY := Lib.hid hmayX
      clear hmayX
      generalize hnn : min 4 (m - a) = nn at *
      clear hmay hmayY hbe hbl
      go_upto_region 10 with fail
      have hX := Blk.new w5 47 [.int .i64 3, .int .i64 0, .int .i64 (1 + (k3 : Int)), .int .i64 (1 + (T0 : Int)), .int .i64 a, .int .i64 (termB t a), .int .i64 0, .int .i64 (1 + (b3 : Int)), .bool false, .slice A2 nn c2]
      have yL : Ext wc (w5.alloc (.cells #[.int .i64 3, .int .i64 0, .int .i64 (1 + (k3 : Int)), .int .i64 (1 + (T0 : Int)), .int .i64 a, .int .i64 (termB t a), .int .i64 0, .int .i64 (1 + (b3 : Int)), .bool false, .slice A2 nn c2] 47)) := y5.alloc _
      obtain ⟨hc2, hcm2⟩ : nn ≤ c2 ∧ c2 ≤ maxLen := by
        obtain ⟨A', c', e, h1, h2⟩ := own_form17 hown
        injection e with _ _ e
        subst e
        exact ⟨h1, h2⟩
      have e2 := (Es.of_own hown (fun f hf => (es.ok f (List.mem_of_mem_drop (List.mem_of_mem_take hf))).ext y5)).ext ((Ext.refl w5).alloc (.cells #[.int .i64 3, .int .i64 0, .int .i64 (1 + (k3 : Int)), .int .i64 (1 + (T0 : Int)), .int .i64 a, .int .i64 (termB t a), .int .i64 0, .int .i64 (1 + (b3 : Int)), .bool false, .slice A2 nn c2] 47))
      have hsl2 := hnn
      have HX10 : Hid (∀ V, Ext (w5.alloc (.cells #[.int .i64 3, .int .i64 0, .int .i64 (1 + (k3 : Int)), .int .i64 (1 + (T0 : Int)), .int .i64 a, .int .i64 (termB t a), .int .i64 0, .int .i64 (1 + (b3 : Int)), .bool false, .slice A2 nn c2] 47)) V → Blk V w5.heap.size 47 [.int .i64 3, .int .i64 0, .int .i64 (1 + (k3 : Int)), .int .i64 (1 + (T0 : Int)), .int .i64 a, .int .i64 (termB t a), .int .i64 0, .int .i64 (1 + (b3 : Int)), .bool false, .slice A2 nn c2]) := Lib.hid (fun V y => hX.ext y)
      have xWL := xW.trans yL
      clear hX y5 hown HMK
      generalize w5.alloc (.cells #[.int .i64 3, .int .i64 0, .int .i64 (1 + (k3 : Int)), .int .i64 (1 + (T0 : Int)), .int .i64 a, .int .i64 (termB t a), .int .i64 0, .int .i64 (1 + (b3 : Int)), .bool false, .slice A2 nn c2] 47) = wL at *
      generalize w5.heap.size = g at *
      go_wp2
      go_loopw [13] (fun i wr => ∃ j : Nat, i = .int .i64 j ∧ j ≤ m ∧ Hid (GoodE t j) ∧ Ext wL wr) (fun i _ => m - (intOf i).toNat)
      case atStart => exact ⟨0, rfl, by omega, Lib.hid (fun i h => absurd h (by omega)), Ext.refl _⟩
      case round =>
        obtain ⟨j, rfl, hj, HGJ, hx⟩ := hrel
        have s3 := (HS4.out _ (yL.trans hx)).cell 3
        simp only [List.getElem?_cons_zero, List.getElem?_cons_succ] at s3
        by_cases hjm : j < m
        · obtain ⟨g1, o1, rfl, c0, c1f⟩ := (es.ext (yL.trans hx)).at_ hjm
          have hjl : j < t.length := by omega
          have HNX : Hid (1 ≤ t[j].term → t[j].term ≤ 1048576 → t[j].len ≤ 200 → GoodE t (j + 1)) := Lib.hid (fun q1 q2 q3 => GoodE.succ HGJ.out hjl q1 q2 q3)
          have xe := xWL.trans hx
          have i0 : (0 : Int) ≤ j := by omega
          have i1 : (j : Int) < m := by omega
          generalize t[j] = y at *
          obtain ⟨yt, yA, yl, yc, yb⟩ := y
          dsimp only at c0 c1f HNX
          by_cases q1 : yt < 1
          · have d1 := dec_t q1
            clear HNX
            go_wp2
            go_ret
            exact ⟨rfl, xe⟩
          have d1 := dec_f q1
          by_cases q2 : 1048576 < yt
          · have d2 := dec_t q2
            clear HNX
            go_wp2
            go_ret
            exact ⟨rfl, xe⟩
          have d2 := dec_f q2
          by_cases q3 : 200 < yl
          · have d3 := dec_t (show (200 : Int) < yl by omega)
            have d3b := dec_t q3
            clear HNX
            go_wp2
            go_ret
            exact ⟨rfl, xe⟩
          have d3 := dec_f (show ¬ (200 : Int) < yl by omega)
          have d3b := dec_f q3
          have HN := Lib.hid (HNX.out (by omega) (by omega) (by omega))
          clear HNX
          go_wp2_with fail
          go_roundw
          case rel => exact ⟨j + 1, val_int (by omega), by omega, HN, hx⟩
          case measure => simp [intOf]; omega
        · obtain rfl : m = j := by omega
          have hg := HGJ.out
          rw [← hlt] at hg
          have yr := yL.trans hx
          have hb2 := HX10.out _ hx
          have x0 := hb2.cell 0
          have x1 := hb2.cell 1
          have x2 := hb2.cell 2
          have x3 := hb2.cell 3
          have x4 := hb2.cell 4
          have x5 := hb2.cell 5
          have x6 := hb2.cell 6
          have x7 := hb2.cell 7
          have x8 := hb2.cell 8
          have x9 := hb2.cell 9
          simp only [List.getElem?_cons_zero, List.getElem?_cons_succ] at x0 x1 x2 x3 x4 x5 x6 x7 x8 x9
          have s1 := (HS4.out _ yr).cell 1
          simp only [List.getElem?_cons_zero, List.getElem?_cons_succ] at s1
          have e1 : IntKind.i64.wrap ((m : Int) - (1 + (a : Int))) = (m : Int) - (1 + (a : Int)) := IntWalk.i64_in _ (by omega)
          have e2w : IntKind.i64.wrap ((m : Int) - (1 + (a : Int)) + 1) = ((m - a : Nat) : Int) := by rw [IntWalk.i64_in _ (by omega)]; omega
          have e3w : IntKind.i64.wrap (1 + (a : Int) - 1) = (a : Int) := by rw [IntWalk.i64_in _ (by omega)]; omega
          have e4w : IntKind.i64.wrap ((a : Int) + nn) = (a : Int) + nn := IntWalk.i64_in _ (by omega)
          have hmin : min (4 : Int) ((m - a : Nat) : Int) = (nn : Int) := by omega
          obtain ⟨A4, c4, hc4, hcc4, hsl, hts⟩ := cut_ents2 entsT A1 (show a + nn ≤ m by omega) hmc (a : Int) ((a : Int) + nn) rfl (by omega)
          have e4 := hts _ _ es
          have HC18 := Lib.hid (fun (V : World) (y : Ext wr V) => (⟨(HS4.out _ (yr.trans y)).cell 3, (HX10.out _ (hx.trans y)).cell 9⟩ : V.cell? ⟨w.heap.size, 3, none⟩ = some (.slice A1 m c1) ∧ V.cell? ⟨g, 9, none⟩ = some (.slice A2 nn c2)))
          have PS := Lib.hid (fun (V : World) (y : Ext wr V) => ref11_SameLog A2 A4 nn c2 c4 ((t.drop a).take nn) ((t.drop a).take nn) V (e2.ext (hx.trans y)) (e4.ext (yr.trans y)) rfl (by omega))
          clear hsl2 HGJ hg hjm hts
          go_upto_region 18 with fail
          clear x0 x1 x2 x3 x4 x5 x6 x7 x8 x9 s1 s3 hb2 e1 e2w hmin
          have s3 := (HC18.out _ (Ext.refl _)).1
          have x9 := (HC18.out _ (Ext.refl _)).2
          go_region_held3 (fun V => V.cell? ⟨w.heap.size, 3, none⟩ = some (.slice A1 m c1) ∧ V.cell? ⟨g, 9, none⟩ = some (.slice A2 nn c2))
            (first | (exact HC18.out _ (y7.trans (by repeat (first | with_reducible exact Ext.refl _ | with_reducible refine Ext.drew ?_ | with_reducible refine Ext.alloc ?_ _)))) | (exact HC18.out _ (by repeat (first | with_reducible exact Ext.refl _ | with_reducible refine Ext.drew ?_ | with_reducible refine Ext.alloc ?_ _))) | go_keep)
            (first | (go_at_call 23; refine (PS.out _ (by repeat (first | with_reducible exact Ext.refl _ | with_reducible refine Ext.drew ?_ | with_reducible refine Ext.alloc ?_ _))).mono ?_; rintro e w7 ⟨rfl, y7'⟩; have y7 := ((Ext.refl wr).drew).trans y7'))
          clear s3 x9 PS HC18 e4
          have yr7 := yr.trans y7
          have hx7 := hx.trans y7
          have PY := take_yes (⟨floor, 1 + (T0 : Int), vote, A1, m, c1, t⟩ : SV) (⟨3, 0, 1 + (k3 : Int), 1 + (T0 : Int), a, termB t a, 0, 1 + (b3 : Int), false, A2, nn, c2, (t.drop a).take nn⟩ : LV) w7 (HKT.out w7 yr7) ⟨e2.ext hx7, hc2, hcm2, (⟨by omega, by omega⟩ : I64 3), (⟨by omega, by omega⟩ : I64 0), (⟨by omega, by omega⟩ : I64 (1 + (k3 : Int))), (⟨by omega, by omega⟩ : I64 (1 + (T0 : Int))), (⟨by omega, by omega⟩ : I64 (a : Int)), hte, (⟨by omega, by omega⟩ : I64 0), (⟨by omega, by omega⟩ : I64 (1 + (b3 : Int)))⟩ (by dsimp only; omega) (by dsimp only; omega) HMY.out rfl (by dsimp only; omega) (by dsimp only; omega) rfl
          dsimp only at PY
          rw [later_L (1 + (T0 : Int)) t a nn (by omega)] at PY
          unfold SV.val LV.val at PY
          dsimp only at PY
          have PY1 := Lib.hid PY
          clear PY
          have hb1 := HS4.out _ yr7
          have hb2 := HX10.out _ hx7
          have s0 := hb1.cell 0
          have s1 := hb1.cell 1
          have s2 := hb1.cell 2
          have s3 := hb1.cell 3
          simp only [List.getElem?_cons_zero, List.getElem?_cons_succ] at s0 s1 s2 s3
          have x0 := hb2.cell 0
          have x1 := hb2.cell 1
          have x2 := hb2.cell 2
          have x3 := hb2.cell 3
          have x4 := hb2.cell 4
          have x5 := hb2.cell 5
          have x6 := hb2.cell 6
          have x7 := hb2.cell 7
          have x8 := hb2.cell 8
          have x9 := hb2.cell 9
          simp only [List.getElem?_cons_zero, List.getElem?_cons_succ] at x0 x1 x2 x3 x4 x5 x6 x7 x8 x9
          go_wp2_with fail
          refine PY1.out.mono ?_
          rintro e w8 ⟨v8, rfl, hown8, y8⟩
          rw [List.length_nil] at hown8
          obtain ⟨A8, c8, rfl, _⟩ := own_form hown8
          clear s0 s1 s2 s3 x0 x1 x2 x3 x4 x5 x6 x7 x8 x9 hb1 hb2 PY1 hown8
          have HC20 := Lib.hid (fun (V : World) (y : Ext w8 V) => (⟨(HS4.out _ ((yr7.trans y8).trans y)).cell 3, (HX10.out _ ((hx7.trans y8).trans y)).cell 5⟩ : V.cell? ⟨w.heap.size, 3, none⟩ = some (.slice A1 m c1) ∧ V.cell? ⟨g, 5, none⟩ = some (.int .i64 (termB t a))))
          have PT := Lib.hid (fun (V : World) (y : Ext w8 V) => ref17_Term A1 m c1 t a V (es.ext ((yr7.trans y8).trans y)) (by omega))
          have s3 := (HC20.out _ (Ext.refl _)).1
          have x5 := (HC20.out _ (Ext.refl _)).2
          have xfin := (xW.trans yr7).trans y8
          go_upto_region 20 with fail
          go_region_held3 (fun V => V.cell? ⟨w.heap.size, 3, none⟩ = some (.slice A1 m c1) ∧ V.cell? ⟨g, 5, none⟩ = some (.int .i64 (termB t a)))
            (first | (exact HC20.out _ (by repeat (first | with_reducible exact Ext.refl _ | with_reducible refine Ext.drew ?_ | with_reducible refine Ext.alloc ?_ _))) | go_keep)
            (first | (go_at_call 32; refine (PT.out _ (by repeat (first | with_reducible exact Ext.refl _ | with_reducible refine Ext.drew ?_ | with_reducible refine Ext.alloc ?_ _))).mono ?_; rintro e V ⟨rfl, rfl⟩))
          all_goals
            go_wp2
            go_ret
            exact ⟨rfl, xfin.drew⟩
    · go_upto_region 10 with fail
      have yL : Ext wc (w5.alloc (.cells #[.int .i64 0, .int .i64 0, .int .i64 0, .int .i64 0, .int .i64 0, .int .i64 0, .int .i64 0, .int .i64 0, .bool false, .slice none 0 0] 47)) := y5.alloc _
      have xWL := xW.trans yL
      have HBAD : Hid (GoodE t t.length → False) := Lib.hid (fun hg => by
        have := makeY_good floor vote A1 m c1 t T0 k3 a b3 hT0 hk3 hb3 (by omega) (by omega) hg
        rw [hmay] at this
        cases this)
      clear y5 HMK hmay hbe hbl
      generalize w5.alloc (.cells #[.int .i64 0, .int .i64 0, .int .i64 0, .int .i64 0, .int .i64 0, .int .i64 0, .int .i64 0, .int .i64 0, .bool false, .slice none 0 0] 47) = wL at *
      generalize w5.heap.size = g at *
      go_wp2
      go_loopw [13] (fun i wr => ∃ j : Nat, i = .int .i64 j ∧ j ≤ m ∧ Hid (GoodE t j) ∧ Ext wL wr) (fun i _ => m - (intOf i).toNat)
      case atStart => exact ⟨0, rfl, by omega, Lib.hid (fun i h => absurd h (by omega)), Ext.refl _⟩
      case round =>
        obtain ⟨j, rfl, hj, HGJ, hx⟩ := hrel
        have s3 := (HS4.out _ (yL.trans hx)).cell 3
        simp only [List.getElem?_cons_zero, List.getElem?_cons_succ] at s3
        by_cases hjm : j < m
        · obtain ⟨g1, o1, rfl, c0, c1f⟩ := (es.ext (yL.trans hx)).at_ hjm
          have hjl : j < t.length := by omega
          have HNX : Hid (1 ≤ t[j].term → t[j].term ≤ 1048576 → t[j].len ≤ 200 → GoodE t (j + 1)) := Lib.hid (fun q1 q2 q3 => GoodE.succ HGJ.out hjl q1 q2 q3)
          have xe := xWL.trans hx
          have i0 : (0 : Int) ≤ j := by omega
          have i1 : (j : Int) < m := by omega
          generalize t[j] = y at *
          obtain ⟨yt, yA, yl, yc, yb⟩ := y
          dsimp only at c0 c1f HNX
          by_cases q1 : yt < 1
          · have d1 := dec_t q1
            clear HNX
            go_wp2
            go_ret
            exact ⟨rfl, xe⟩
          have d1 := dec_f q1
          by_cases q2 : 1048576 < yt
          · have d2 := dec_t q2
            clear HNX
            go_wp2
            go_ret
            exact ⟨rfl, xe⟩
          have d2 := dec_f q2
          by_cases q3 : 200 < yl
          · have d3 := dec_t (show (200 : Int) < yl by omega)
            have d3b := dec_t q3
            clear HNX
            go_wp2
            go_ret
            exact ⟨rfl, xe⟩
          have d3 := dec_f (show ¬ (200 : Int) < yl by omega)
          have d3b := dec_f q3
          have HN := Lib.hid (HNX.out (by omega) (by omega) (by omega))
          clear HNX
          go_wp2_with fail
          go_roundw
          case rel => exact ⟨j + 1, val_int (by omega), by omega, HN, hx⟩
          case measure => simp [intOf]; omega
        · obtain rfl : m = j := by omega
          have hg := HGJ.out
          rw [← hlt] at hg
          exact absurd hg (fun h => HBAD.out h)
theorem law_SpreadMakesI (s : SV) (b : Int) (p q : Nat) (w : World) (b0 : 0 ≤ b) (b1 : b < 256) (hs : s.Ok w) (hp : p < 256) (hq : q < 256) :
    Calls Try.prog 17 #[s.val, .int .u8 b, .agg #[.int .u8 p, .int .u8 q]] w fun e w' => e = .returned (.bool true) ∧ Ext w w' := by
  obtain ⟨k, rfl⟩ := Int.eq_ofNat_of_zero_le b0
  obtain ⟨T0, h1, h2⟩ := and20 s.term
  obtain ⟨k3, h5, h6⟩ := and3 k (by omega)
  exact law_SpreadMakes s k p q T0 k3 w hs hp hq (Lib.hid h2) h1 (Lib.hid h6) h5
end Go.Proofs.Ytcdnjhcddbkciaa
