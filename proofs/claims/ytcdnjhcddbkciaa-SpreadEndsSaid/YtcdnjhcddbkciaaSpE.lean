/- The walk of the law SpreadLater. (Printed by wip/tools/splater.py.) -/
import Derived.Test.YtcdnjhcddbkciaaSpB
import Derived.Test.YtcdnjhcddbkciaaSpC
import Derived.Test.YtcdnjhcddbkciaaSpD
import Derived.Test.YtcdnjhcddbkciaaElF
import Derived.Test.YtcdnjhcddbkciaaMask
import Derived.Test.YtcdnjhcddbkciaaLetR
import Derived.Test.YtcdnjhcddbkciaaCut
import Derived.Deep.RegionHeld3
namespace Go.Proofs.Ytcdnjhcddbkciaa
open Go.RowKit

theorem termB_i64 {l : List EV} (h : ∀ f ∈ l, I64 f.term) (a : Int) : I64 (termB l a) := by
  unfold termB
  by_cases h0 : a = 0
  · rw [if_pos h0]; exact i64_small (by omega) (by omega)
  · rw [if_neg h0]
    by_cases h1 : a < 0
    · rw [if_pos h1]; exact ⟨by omega, by omega⟩
    · rw [if_neg h1]
      rcases hq : l[(a - 1).toNat]? with _ | e
      · exact (⟨by omega, by omega⟩ : I64 (-1))
      · exact h e (List.mem_of_getElem? hq)
theorem later_L (T : Int) (t : List EV) (k mn : Nat) (h : k + mn ≤ t.length) : takeL T t T k ((t.drop k).take mn) = [] := by
  have hl : ((t.drop k).take mn).length = mn := by rw [List.length_take, List.length_drop]; omega
  have hm : mergeB t k ((t.drop k).take mn) = (0, []) := by
    unfold mergeB
    rw [if_neg (by omega)]
    refine mrgB_same _ _ _ fun j hj => ?_
    rw [hl] at hj
    refine ⟨by rw [List.length_drop]; simp; omega, ?_⟩
    rw [tm_take hj]
    rfl
  unfold takeL
  rw [hm]
  simp [newerL, cutR, entR]
theorem mayB_term {x : LV} (h : mayB x = true) {u : Int} (h1 : 1 ≤ u) (h2 : u ≤ 1048576) : mayB { x with term := u } = true := by
  obtain ⟨kind, src, dst, term, la, lb, lc, bin, ok, A, n, cp, l⟩ := x
  have e : inB u 1 1048576 = true := by unfold inB; simp; omega
  unfold mayB at h ⊢
  dsimp only at h ⊢
  rw [e]
  simp only [Bool.and_eq_true] at h ⊢
  simp only [and_assoc] at h ⊢
  obtain ⟨a1, a2, a3, a4, a5, a6⟩ := h
  exact ⟨a1, a2, a3, a4, trivial, a6⟩
theorem cut_ents2 {P : Program} {t e : TypeId} {bytes : Nat} (T : SliceT P t e 2 bytes) (A : Option Addr) {n c lo mn : Nat} (hhi : lo + mn ≤ n) (hnc : n ≤ c) (x y : Int) (hx : x = lo) (hy : y = ((lo + mn : Nat) : Int)) :
    ∃ A' c', mn ≤ c' ∧ c' ≤ c ∧ (∀ w, (Instr.slice t (.slice A n c) (some (.int .i64 x)) (some (.int .i64 y)) none).run P w = .ok (.slice A' mn c') w) ∧ ∀ w (l : List EV), Es w A n l → Es w A' mn ((l.drop lo).take mn) := by
  refine ⟨if c = lo then A else A.map (·.add (lo * 2)), c - lo, by omega, by omega, fun w => ?_, fun w l h => (h.from_ (lo := lo) (cap := c) (by omega) hnc).upto (by omega)⟩
  · have := run_slice_at2 T A n c lo (lo + mn) (by omega) (by omega) x y hx hy w
    rw [Nat.add_sub_cancel_left] at this
    exact this

set_option maxRecDepth 100000 in
set_option maxHeartbeats 6400000 in
theorem law_SpreadLater (s : SV) (p q : Nat) (term2 : Int) (T0 Q0 : Nat) (q3 : Nat) (w : World) (hs : s.Ok w) (hp : p < 256) (HT : Hid (bits .and .i64 s.term 1048575 = T0)) (hT0 : T0 ≤ 1048575) (HQ : Hid (bits .and .i64 term2 1048575 = Q0)) (HQ3 : Hid (bits .and .u8 (q : Int) 3 = q3)) (hq3 : q3 ≤ 3) :
    Calls Try.prog 16 #[s.val, .agg #[.int .u8 p, .int .u8 q], .int .i64 term2] w fun e w' => e = .returned (.bool true) ∧ Ext w w' := by
  obtain ⟨floor, term, vote, A, n, c, l⟩ := s
  unfold SV.val
  dsimp only at *
  have hS := Lib.hid (fun w' (h : Ext w w') => law19_stable floor term vote A n c l w' (hs.es.ext h) hs.le hs.cap)
  have HK0 := Lib.hid (cutL_ok (m := 70) (k := 250) hs.es.ok)
  obtain ⟨hu0, hu2⟩ : I64 floor ∧ I64 vote := ⟨hs.u0, hs.u2⟩
  have hln := hs.es.len
  have hb0 : Blk ((w.alloc (.cells #[.int .i64 floor, .int .i64 term, .int .i64 vote, .slice A n c] 45)).alloc (.cells #[.int .u8 p, .int .u8 q] 75)) w.heap.size 45 [.int .i64 floor, .int .i64 term, .int .i64 vote, .slice A n c] := ((Blk.new w 45 [.int .i64 floor, .int .i64 term, .int .i64 vote, .slice A n c]).alloc _)
  have ha0 : Blk ((w.alloc (.cells #[.int .i64 floor, .int .i64 term, .int .i64 vote, .slice A n c] 45)).alloc (.cells #[.int .u8 p, .int .u8 q] 75)) (w.heap.size + 1) 75 [.int .u8 p, .int .u8 q] := by
    have h0 := Blk.new (w.alloc (.cells #[.int .i64 floor, .int .i64 term, .int .i64 vote, .slice A n c] 45)) 75 [.int .u8 p, .int .u8 q]
    rw [show (w.alloc (.cells #[.int .i64 floor, .int .i64 term, .int .i64 vote, .slice A n c] 45)).heap.size = w.heap.size + 1 by simp] at h0
    exact h0
  have xc : Ext w ((w.alloc (.cells #[.int .i64 floor, .int .i64 term, .int .i64 vote, .slice A n c] 45)).alloc (.cells #[.int .u8 p, .int .u8 q] 75)) := ((Ext.refl w).alloc _).alloc _
  clear hs
  go_enter Try.func16, Try.ntmps16
  go_wp2_with fail
  refine (law19_shown _).mono ?_
  rintro e w1 ⟨rfl, x1⟩
  have hb1 := hb0.ext x1
  have ha1 := ha0.ext x1
  have s0 := hb1.cell 0
  have s1 := hb1.cell 1
  have s2 := hb1.cell 2
  have s3 := hb1.cell 3
  simp only [List.getElem?_cons_zero, List.getElem?_cons_succ] at s0 s1 s2 s3
  have xw1 := xc.trans x1
  go_wp2_with fail
  refine (hS.out _ xw1).mono ?_
  rintro e w2 ⟨v2, rfl, hown2, x2⟩
  obtain ⟨A1, c1, rfl, hmc0, hcm⟩ := own_form2 hown2
  clear s0 s1 s2 s3 hS
  have hb2 := hb1.ext x2
  have ha2 := ha1.ext x2
  have s0 := hb2.cell 0
  have s1 := hb2.cell 1
  have s2 := hb2.cell 2
  have s3 := hb2.cell 3
  simp only [List.getElem?_cons_zero, List.getElem?_cons_succ] at s0 s1 s2 s3
  have f0 := hb2.frozen 0
  have f1 := hb2.frozen 1
  have f2 := hb2.frozen 2
  have f3 := hb2.frozen 3
  have xw2 := xw1.trans x2
  have hlt1 := hb1.lt
  have hO2 := own_base (base' := w.heap.size + 1) hown2 (by omega)
  go_upto_region 3 with fail
  have hb3 := hb2.set4 (.slice A1 (min 70 n) c1)
  have hO3 := own_set4 hO2 (g := w.heap.size) (by omega) (.int .i64 floor) (.int .i64 term) (.int .i64 vote) (.slice A1 (min 70 n) c1)
  have xw3 := Ext.set4 xw2 (g := w.heap.size) (Nat.le_refl _) (.int .i64 floor) (.int .i64 term) (.int .i64 vote) (.slice A1 (min 70 n) c1)
  have ha3 := ha2.far4 (show w.heap.size + 1 ≠ w.heap.size by omega) (.int .i64 floor) (.int .i64 term) (.int .i64 vote) (.slice A1 (min 70 n) c1)
  clear s0 s1 s2 s3 f0 f1 f2 f3 hown2 hO2 xw2 hb0 hb1 hb2 hlt1 x1 x2 xw1 xc ha0 ha1 ha2
  generalize (((w2.setCell ⟨w.heap.size, 0, none⟩ (.int .i64 floor)).setCell ⟨w.heap.size, 1, none⟩ (.int .i64 term)).setCell ⟨w.heap.size, 2, none⟩ (.int .i64 vote)).setCell ⟨w.heap.size, 3, none⟩ (.slice A1 (min 70 n) c1) = W3 at *
  have hm70 : (cutL 70 250 l).length = min 70 n := by rw [cutL_len, hln]
  clear hln
  generalize cutL 70 250 l = t0 at *
  generalize min 70 n = m0 at *
  have s0 := hb3.cell 0
  have s1 := hb3.cell 1
  have s2 := hb3.cell 2
  have s3 := hb3.cell 3
  simp only [List.getElem?_cons_zero, List.getElem?_cons_succ] at s0 s1 s2 s3
  have f0 := hb3.frozen 0
  have f1 := hb3.frozen 1
  have f2 := hb3.frozen 2
  have f3 := hb3.frozen 3
  have hT := HT.out
  have ht1 : IntKind.i64.wrap (1 + (T0 : Int)) = 1 + (T0 : Int) := IntWalk.i64_in _ (by omega)
  go_upto_if 31 with fail
  have hb4 := hb3.set_ 1 (.int .i64 (1 + (T0 : Int)))
  simp only [List.set_cons_succ, List.set_cons_zero] at hb4
  have hO4 := own_set hO3 (p := ⟨w.heap.size, 1, none⟩) (show w.heap.size < w.heap.size + 1 by omega) (.int .i64 (1 + (T0 : Int)))
  have xw4 := xw3.setCell (p := ⟨w.heap.size, 1, none⟩) (Nat.le_refl _) (.int .i64 (1 + (T0 : Int)))
  have ha4 := ha3.far (p := ⟨w.heap.size, 1, none⟩) (show w.heap.size + 1 ≠ w.heap.size by omega) (.int .i64 (1 + (T0 : Int)))
  clear s0 s1 s2 s3 f0 f1 f2 f3 hO3 xw3 hb3 hT ht1 ha3
  generalize W3.setCell ⟨w.heap.size, 1, none⟩ (.int .i64 (1 + (T0 : Int))) = W4 at *
  go_cut [] (fun wx => Blk wx w.heap.size 45 [.int .i64 floor, .int .i64 (1 + (T0 : Int)), .int .i64 vote, .slice A1 (min 60 m0) c1] ∧ wx.ownsRow (w.heap.size + 1) 36 2 (.slice A1 (min 60 m0) c1) (min 60 m0) (logOf (t0.take (min 60 m0))) ∧ Ext w wx ∧ Blk wx (w.heap.size + 1) 75 [.int .u8 p, .int .u8 q])
  case first =>
    have q0 := hb4.cell 3
    have q1 := hb4.frozen 3
    simp only [List.getElem?_cons_zero, List.getElem?_cons_succ] at q0
    have hcut := own_to (own_cut hO4 (show min 60 m0 ≤ m0 by omega)) (ys := logOf (t0.take (min 60 m0))) (Nat.le_refl _) rfl (by rw [logOf_take])
    by_cases hn : 60 < m0
    · have d1 := dec_t (show (60 : Int) < m0 by omega)
      have d2 := dec_t hn
      have hc : (60 : Int) ≤ c1 := by omega
      have hmm : min 60 m0 = 60 := by omega
      have HMM := Lib.hid hmm
      have r1 := hb4.set_ 3 (.slice A1 60 c1)
      simp only [List.set_cons_succ, List.set_cons_zero] at r1
      have r2 := own_set hcut (p := ⟨w.heap.size, 3, none⟩) (show w.heap.size < w.heap.size + 1 by omega) (.slice A1 60 c1)
      have r3 := xw4.setCell (p := ⟨w.heap.size, 3, none⟩) (Nat.le_refl _) (.slice A1 60 c1)
      have ra := ha4.far (p := ⟨w.heap.size, 3, none⟩) (show w.heap.size + 1 ≠ w.heap.size by omega) (.slice A1 60 c1)
      clear hmm hcut
      go_wp2_with fail
      go_meet
      rw [HMM.out] at r2 ⊢
      exact ⟨r1, r2, r3, ra⟩
    · have d1 := dec_f (show ¬ (60 : Int) < m0 by omega)
      have d2 := dec_f hn
      have hmm : min 60 m0 = m0 := by omega
      have HMM := Lib.hid hmm
      clear hmm
      go_wp2_with fail
      go_meet
      rw [HMM.out] at hcut ⊢
      exact ⟨hb4, hcut, xw4, ha4⟩
  case rest =>
    obtain ⟨hB, hO, xW, ha⟩ := hcut
    have HK : Hid (∀ f ∈ t0.take (min 60 m0), f.Ok w) := Lib.hid (fun f hf => HK0.out f (List.mem_of_mem_take hf))
    have hm : min 60 m0 ≤ 60 := by omega
    have hmc : min 60 m0 ≤ c1 := by omega
    have hlt : (t0.take (min 60 m0)).length = min 60 m0 := by rw [List.length_take, hm70]; omega
    clear hb4 hO4 xw4 HK0 hm70 hmc0 ha4
    generalize t0.take (min 60 m0) = t at *
    generalize min 60 m0 = m at *
    have es := Es.of_own hO (fun f hf => (HK.out f hf).ext xW)
    have hk : p % (m + 1) ≤ m := by have := Nat.mod_lt p (show 0 < m + 1 by omega); omega
    have hmod : Int.tmod (p : Int) ((m : Int) + 1) = ((p % (m + 1) : Nat) : Int) := by rw [Int.tmod_eq_emod_of_nonneg (by omega), Int.natCast_emod]; rfl
    have hwp : IntKind.i64.wrap (p : Int) = (p : Int) := IntWalk.i64_in _ (by omega)
    have hwm : IntKind.i64.wrap ((m : Int) + 1) = (m : Int) + 1 := IntWalk.i64_in _ (by omega)
    have hw3 : IntKind.i64.wrap (q3 : Int) = (q3 : Int) := IntWalk.i64_in _ (by omega)
    generalize p % (m + 1) = k at *
    have hwk : IntKind.i64.wrap ((m : Int) - k) = ((m - k : Nat) : Int) := by rw [IntWalk.i64_in _ (by omega)]; omega
    have hmin : min (q3 : Int) ((m - k : Nat) : Int) = ((min q3 (m - k) : Nat) : Int) := by omega
    have hmk : k + min q3 (m - k) ≤ m := by omega
    have hm3 : min q3 (m - k) ≤ 3 := by omega
    have hmq : min q3 (m - k) ≤ m - k := by omega
    have Hmin : Hid (min (q3 : Int) ((m - k : Nat) : Int) = ((min q3 (m - k) : Nat) : Int)) := Lib.hid hmin
    clear hmin
    generalize min q3 (m - k) = mn at *
    have hmin := Hmin.out
    have hqq := HQ3.out
    have s1 := hB.cell 1
    have s3 := hB.cell 3
    have a0 := ha.cell 0
    have a1 := ha.cell 1
    simp only [List.getElem?_cons_zero, List.getElem?_cons_succ] at s1 s3 a0 a1
    go_upto_region 8 with fail
    clear hmod hwp hwm hw3 hwk hmin Hmin hqq a0 a1 HQ3
    have hwkm : IntKind.i64.wrap ((k : Int) + mn) = (k : Int) + mn := IntWalk.i64_in _ (by omega)
    obtain ⟨A2, c2, hc2, hcc2, hsl, hts⟩ := cut_ents2 entsT A1 hmk hmc (k : Int) ((k : Int) + mn) rfl (by omega)
    have e2 := hts _ _ es
    have HC2 := Lib.hid (fun (V : World) (y : Ext wc V) => (⟨(hB.ext y).cell 1, (hB.ext y).cell 3⟩ : V.cell? ⟨w.heap.size, 1, none⟩ = some (.int .i64 (1 + (T0 : Int))) ∧ V.cell? ⟨w.heap.size, 3, none⟩ = some (.slice A1 m c1)))
    have PT := Lib.hid (fun (V : World) (y : Ext wc V) => ref17_Term A1 m c1 t k V (es.ext y) (by omega))
    go_region_held3 (fun V => V.cell? ⟨w.heap.size, 1, none⟩ = some (.int .i64 (1 + (T0 : Int))) ∧ V.cell? ⟨w.heap.size, 3, none⟩ = some (.slice A1 m c1))
      (first | (exact HC2.out _ (by repeat (first | exact Ext.refl _ | refine Ext.drew ?_ | refine Ext.alloc ?_ _ | refine Ext.setCell ?_ (by simp) _))) | go_keep)
      (first | (go_at_call 32; refine (PT.out _ (by repeat (first | exact Ext.refl _ | refine Ext.drew ?_ | refine Ext.alloc ?_ _ | refine Ext.setCell ?_ (by simp) _))).mono ?_; rintro e V ⟨rfl, rfl⟩))
    all_goals
      have hX : Blk (wc.alloc (.cells #[.int .i64 3, .int .i64 1, .int .i64 0, .int .i64 (1 + (T0 : Int)), .int .i64 k, .int .i64 (termB t k), .int .i64 0, .int .i64 1, .bool false, .slice A2 mn c2] 47)).drew wc.heap.size 47 [.int .i64 3, .int .i64 1, .int .i64 0, .int .i64 (1 + (T0 : Int)), .int .i64 k, .int .i64 (termB t k), .int .i64 0, .int .i64 1, .bool false, .slice A2 mn c2] := (Blk.new wc _ _).ext (Ext.refl _).drew
      have yX : Ext wc (wc.alloc (.cells #[.int .i64 3, .int .i64 1, .int .i64 0, .int .i64 (1 + (T0 : Int)), .int .i64 k, .int .i64 (termB t k), .int .i64 0, .int .i64 1, .bool false, .slice A2 mn c2] 47)).drew := ((Ext.refl wc).alloc _).drew
      generalize (wc.alloc (.cells #[.int .i64 3, .int .i64 1, .int .i64 0, .int .i64 (1 + (T0 : Int)), .int .i64 k, .int .i64 (termB t k), .int .i64 0, .int .i64 1, .bool false, .slice A2 mn c2] 47)).drew = WX at *
      have hlc : w.heap.size < wc.heap.size := hB.lt
      have HKT : Hid (∀ V, Ext wc V → (⟨floor, 1 + (T0 : Int), vote, A1, m, c1, t⟩ : SV).Ok V) := Lib.hid (fun V y => ⟨es.ext y, hmc, hcm, hu0, ⟨by dsimp only; omega, by dsimp only; omega⟩, hu2⟩)
      have hte := termB_i64 (l := t) (fun f hf => (es.ok f hf).u) k
      have HL0 := Lib.hid (later_L (1 + (T0 : Int)) t k mn (by omega))
      have HTE : Hid (termB t (k : Int) = termB t (k : Int)) := Lib.hid rfl
      have HKX : Hid (∀ V, Ext wc V → ∀ u : Int, I64 u → (⟨3, 1, 0, u, k, termB t k, 0, 1, false, A2, mn, c2, (t.drop k).take mn⟩ : LV).Ok V) := Lib.hid (fun V y u hu => ⟨e2.ext y, hc2, Nat.le_trans hcc2 hcm, (i64_small (by decide) (by decide) : I64 3), (i64_small (by decide) (by decide) : I64 1), (i64_small (by decide) (by decide) : I64 0), hu, (⟨by omega, by omega⟩ : I64 (k : Int)), hte, (i64_small (by decide) (by decide) : I64 0), (i64_small (by decide) (by decide) : I64 1)⟩)
      have HS4 : Hid (∀ V, Ext WX V → Blk V w.heap.size 45 [.int .i64 floor, .int .i64 (1 + (T0 : Int)), .int .i64 vote, .slice A1 m c1]) := Lib.hid (fun V y => hB.ext (yX.trans y))
      have HX10 : Hid (∀ V, Ext WX V → Blk V wc.heap.size 47 [.int .i64 3, .int .i64 1, .int .i64 0, .int .i64 (1 + (T0 : Int)), .int .i64 k, .int .i64 (termB t k), .int .i64 0, .int .i64 1, .bool false, .slice A2 mn c2]) := Lib.hid (fun V y => hX.ext y)
      have xWX := xW.trans yX
      have hI : I64 (1 + (T0 : Int)) := ⟨by omega, by omega⟩
      have PB := Lib.hid (fun V (y : Ext WX V) hb => take_bad ⟨floor, 1 + (T0 : Int), vote, A1, m, c1, t⟩ ⟨3, 1, 0, 1 + (T0 : Int), k, termB t k, 0, 1, false, A2, mn, c2, (t.drop k).take mn⟩ V (HKT.out V (yX.trans y)) (HKX.out V (yX.trans y) _ hI) (by dsimp only; omega) (by dsimp only; omega) (.inl hb))
      have PR := Lib.hid (fun V (y : Ext WX V) => ref16_May ⟨3, 1, 0, 1 + (T0 : Int), k, termB t k, 0, 1, false, A2, mn, c2, (t.drop k).take mn⟩ V (HKX.out V (yX.trans y) _ hI) (by dsimp only; omega))
      have PY := Lib.hid (fun V (y : Ext WX V) hmay => take_yes ⟨floor, 1 + (T0 : Int), vote, A1, m, c1, t⟩ ⟨3, 1, 0, 1 + (T0 : Int), k, termB t k, 0, 1, false, A2, mn, c2, (t.drop k).take mn⟩ V (HKT.out V (yX.trans y)) (HKX.out V (yX.trans y) _ hI) (by dsimp only; omega) (by dsimp only; omega) hmay rfl (by dsimp only; omega) (by dsimp only; omega) rfl)
      have PLo := Lib.hid (fun V (y : Ext WX V) (r : Nat) (hr : r < T0) hmay => take_low ⟨floor, 1 + (T0 : Int), vote, A1, m, c1, t⟩ ⟨3, 1, 0, 1 + (r : Int), k, termB t k, 0, 1, false, A2, mn, c2, (t.drop k).take mn⟩ V (HKT.out V (yX.trans y)) (HKX.out V (yX.trans y) _ ⟨by omega, by omega⟩) (by dsimp only; omega) (by dsimp only; omega) hmay rfl (by dsimp only; omega) (by dsimp only; omega))
      dsimp only at PY
      rw [HL0.out] at PY
      have HMT : Hid (mayB ⟨3, 1, 0, 1 + (T0 : Int), k, termB t k, 0, 1, false, A2, mn, c2, (t.drop k).take mn⟩ = true → ∀ r : Nat, r ≤ 1048575 → mayB ⟨3, 1, 0, 1 + (r : Int), k, termB t k, 0, 1, false, A2, mn, c2, (t.drop k).take mn⟩ = true) := Lib.hid (fun h r hr => mayB_term h (u := 1 + (r : Int)) (by omega) (by omega))
      unfold SV.val LV.val at PB PY PLo
      unfold LV.val at PR
      dsimp only at PB PY PLo PR
      clear HKT HKX HL0 HTE hte es e2 hX hB yX HC2 PT hO HK hsl hts xW hlt s1 s3 ha
      have hb1 := HS4.out _ (Ext.refl _)
      have hb2 := HX10.out _ (Ext.refl _)
      have s0 := hb1.cell 0
      have s1 := hb1.cell 1
      have s2 := hb1.cell 2
      have s3 := hb1.cell 3
      simp only [List.getElem?_cons_zero, List.getElem?_cons_succ] at s0 s1 s2 s3
      have x0 := hb2.cell 0
      have x1 := hb2.cell 1
      have x2 := hb2.cell 2
      have x3 := hb2.cell 3
      have x4 := hb2.cell 4
      have x5 := hb2.cell 5
      have x6 := hb2.cell 6
      have x7 := hb2.cell 7
      have x8 := hb2.cell 8
      have x9 := hb2.cell 9
      simp only [List.getElem?_cons_zero, List.getElem?_cons_succ] at x0 x1 x2 x3 x4 x5 x6 x7 x8 x9
      rcases hmay : mayB ⟨3, 1, 0, 1 + (T0 : Int), k, termB t k, 0, 1, false, A2, mn, c2, (t.drop k).take mn⟩ with _ | _
      · have hmr := mayR_f hmay
        have PB1 := Lib.hid (PB.out _ (Ext.refl _) hmay)
        rw [hmr] at PR
        generalize termB t (k : Int) = te at *
        clear PB PY PLo HMT hmay hmr
        go_wp2_with fail
        refine PB1.out.mono ?_
        rintro e w5 ⟨rfl, y5⟩
        clear s0 s1 s2 s3 x0 x1 x2 x3 x4 x5 x6 x7 x8 x9 hb1 hb2
        have hb2 := HX10.out _ y5
        have x0 := hb2.cell 0
        have x1 := hb2.cell 1
        have x2 := hb2.cell 2
        have x3 := hb2.cell 3
        have x4 := hb2.cell 4
        have x5 := hb2.cell 5
        have x6 := hb2.cell 6
        have x7 := hb2.cell 7
        have x8 := hb2.cell 8
        have x9 := hb2.cell 9
        simp only [List.getElem?_cons_zero, List.getElem?_cons_succ] at x0 x1 x2 x3 x4 x5 x6 x7 x8 x9
        go_wp2_with fail
        refine (PR.out _ y5).mono ?_
        rintro e w6 ⟨rfl, y6⟩
        go_wp2
        go_ret
        exact ⟨rfl, (xWX.trans y5).trans y6⟩
      · have hmr := mayR_t hmay
        have HMAY := Lib.hid (HMT.out hmay)
        have PY1 := Lib.hid (fun V y => PY.out V y hmay)
        rw [hmr] at PR
        clear PB PY HMT hmay hmr
        generalize termB t (k : Int) = te at *
        go_wp2_with fail
        refine (PY1.out _ (Ext.refl _)).mono ?_
        rintro e w5 ⟨v5, rfl, hown5, y5⟩
        rw [List.length_nil] at hown5
        obtain ⟨A5, c5, rfl, _⟩ := own_form hown5
        clear hown5 hb1 hb2
        clear s0 s1 s2 s3
        clear x0 x1 x2 x3 x4 x5 x6 x7 x8 x9
        have hb2 := HX10.out _ y5
        have x0 := hb2.cell 0
        have x1 := hb2.cell 1
        have x2 := hb2.cell 2
        have x3 := hb2.cell 3
        have x4 := hb2.cell 4
        have x5 := hb2.cell 5
        have x6 := hb2.cell 6
        have x7 := hb2.cell 7
        have x8 := hb2.cell 8
        have x9 := hb2.cell 9
        simp only [List.getElem?_cons_zero, List.getElem?_cons_succ] at x0 x1 x2 x3 x4 x5 x6 x7 x8 x9
        go_wp2_with fail
        refine (PR.out _ y5).mono ?_
        rintro e w6 ⟨rfl, y6'⟩
        have y6 := y5.trans y6'
        clear x0 x1 x2 x3 x4 x5 x6 x7 x8 x9
        clear hb2 PR y6' y5
        have hb2 := HX10.out _ y6
        have x0 := hb2.cell 0
        have x1 := hb2.cell 1
        have x2 := hb2.cell 2
        have x3 := hb2.cell 3
        have x4 := hb2.cell 4
        have x5 := hb2.cell 5
        have x6 := hb2.cell 6
        have x7 := hb2.cell 7
        have x8 := hb2.cell 8
        have x9 := hb2.cell 9
        simp only [List.getElem?_cons_zero, List.getElem?_cons_succ] at x0 x1 x2 x3 x4 x5 x6 x7 x8 x9
        go_upto_region 13 with fail
        clear x0 x1 x2 x3 x4 x5 x6 x7 x8 x9
        clear hb2
        have hY := Blk.new w6 47 [.int .i64 3, .int .i64 1, .int .i64 0, .int .i64 (1 + (T0 : Int)), .int .i64 k, .int .i64 te, .int .i64 0, .int .i64 1, .bool false, .slice A2 mn c2]
        have yA : Ext WX (w6.alloc (.cells #[.int .i64 3, .int .i64 1, .int .i64 0, .int .i64 (1 + (T0 : Int)), .int .i64 k, .int .i64 te, .int .i64 0, .int .i64 1, .bool false, .slice A2 mn c2] 47)) := y6.alloc _
        have hb1 := HS4.out _ yA
        have s0 := hb1.cell 0
        have s1 := hb1.cell 1
        have s2 := hb1.cell 2
        have s3 := hb1.cell 3
        simp only [List.getElem?_cons_zero, List.getElem?_cons_succ] at s0 s1 s2 s3
        have u3 := hY.cell 3
        have v3 := hY.frozen 3
        simp only [List.getElem?_cons_zero, List.getElem?_cons_succ] at u3
        have hrem : Int.tmod (Q0 : Int) (1 + (T0 : Int)) = ((Q0 % (1 + T0) : Nat) : Int) := by rw [Int.tmod_eq_emod_of_nonneg (by omega), Int.natCast_emod]; rfl
        have hr : Q0 % (1 + T0) ≤ T0 := by have := Nat.mod_lt Q0 (show 0 < 1 + T0 by omega); omega
        have HREM := Lib.hid hrem
        clear hrem
        generalize Q0 % (1 + T0) = r at *
        have hrem := HREM.out
        have hQQ := HQ.out
        have hwr : IntKind.i64.wrap (1 + (r : Int)) = 1 + (r : Int) := IntWalk.i64_in _ (by omega)
        have hsz6 : WX.heap.size ≤ w6.heap.size := y6.size
        go_upto_region 14 with fail
        have hY2 := Blk.new w6 47 [.int .i64 3, .int .i64 1, .int .i64 0, .int .i64 (1 + (r : Int)), .int .i64 k, .int .i64 te, .int .i64 0, .int .i64 1, .bool false, .slice A2 mn c2]
        have yW : Ext WX (w6.alloc (.cells #[.int .i64 3, .int .i64 1, .int .i64 0, .int .i64 (1 + (r : Int)), .int .i64 k, .int .i64 te, .int .i64 0, .int .i64 1, .bool false, .slice A2 mn c2] 47)) := y6.alloc _
        clear s0 s1 s2 s3
        clear hb1 hY yA u3 v3 hrem hQQ hwr hsz6 HREM y6
        generalize w6.alloc (.cells #[.int .i64 3, .int .i64 1, .int .i64 0, .int .i64 (1 + (r : Int)), .int .i64 k, .int .i64 te, .int .i64 0, .int .i64 1, .bool false, .slice A2 mn c2] 47) = WY at *
        generalize w6.heap.size = gy at *
        have hb1 := HS4.out _ yW
        have s0 := hb1.cell 0
        have s1 := hb1.cell 1
        have s2 := hb1.cell 2
        have s3 := hb1.cell 3
        simp only [List.getElem?_cons_zero, List.getElem?_cons_succ] at s0 s1 s2 s3
        have x0 := hY2.cell 0
        have x1 := hY2.cell 1
        have x2 := hY2.cell 2
        have x3 := hY2.cell 3
        have x4 := hY2.cell 4
        have x5 := hY2.cell 5
        have x6 := hY2.cell 6
        have x7 := hY2.cell 7
        have x8 := hY2.cell 8
        have x9 := hY2.cell 9
        simp only [List.getElem?_cons_zero, List.getElem?_cons_succ] at x0 x1 x2 x3 x4 x5 x6 x7 x8 x9
        have HY2 := Lib.hid hY2
        clear hY2 hb1
        rcases Nat.lt_or_ge r T0 with hlt | hge
        · have PL := Lib.hid (PLo.out _ yW r hlt (HMAY.out r (by omega)))
          go_wp2_with fail
          refine PL.out.mono ?_
          rintro e w7 ⟨rfl, y7⟩
          clear s0 s1 s2 s3
          clear x0 x1 x2 x3 x4 x5 x6 x7 x8 x9
          have s1 := (HS4.out _ (yW.trans y7)).cell 1
          have x3 := (HY2.out.ext y7).cell 3
          simp only [List.getElem?_cons_zero, List.getElem?_cons_succ] at s1 x3
          have d1 := dec_t (show 1 + (r : Int) < 1 + (T0 : Int) by omega)
          have d2 := dec_t hlt
          go_wp2
          go_ret
          exact ⟨rfl, (xWX.trans yW).trans y7⟩
        · obtain rfl : r = T0 := by omega
          go_wp2_with fail
          refine (PY1.out _ yW).mono ?_
          rintro e w7 ⟨v7, rfl, hown7, y7⟩
          rw [List.length_nil] at hown7
          obtain ⟨A7, c7, rfl, _⟩ := own_form hown7
          clear s0 s1 s2 s3
          clear x0 x1 x2 x3 x4 x5 x6 x7 x8 x9
          have s1 := (HS4.out _ (yW.trans y7)).cell 1
          have x3 := (HY2.out.ext y7).cell 3
          simp only [List.getElem?_cons_zero, List.getElem?_cons_succ] at s1 x3
          go_wp2
          go_ret
          exact ⟨rfl, (xWX.trans yW).trans y7⟩
theorem and20 (a : Int) : ∃ z : Nat, z ≤ 1048575 ∧ bits .and .i64 a 1048575 = (z : Int) := by
  obtain ⟨z, hz, e⟩ := mask20 a
  exact ⟨z, by omega, e⟩
theorem and3 (n : Nat) (h : n < 256) : ∃ q : Nat, q ≤ 3 ∧ bits .and .u8 (n : Int) 3 = q := by
  have : ∀ y : Fin 256, 0 ≤ bits .and .u8 ((y.val : Nat) : Int) 3 ∧ bits .and .u8 ((y.val : Nat) : Int) 3 ≤ 3 := by decide +kernel
  have h := this ⟨n, h⟩
  exact ⟨(bits .and .u8 (n : Int) 3).toNat, by have := h.2; simp only at this; omega, by have := h.1; simp only at this; omega⟩
theorem law_SpreadLaterI (s : SV) (p q : Nat) (term2 : Int) (w : World) (hs : s.Ok w) (hp : p < 256) (hq : q < 256) :
    Calls Try.prog 16 #[s.val, .agg #[.int .u8 p, .int .u8 q], .int .i64 term2] w fun e w' => e = .returned (.bool true) ∧ Ext w w' := by
  obtain ⟨T0, h1, h2⟩ := and20 s.term
  obtain ⟨Q0, _, h4⟩ := and20 term2
  obtain ⟨q3, h5, h6⟩ := and3 q hq
  exact law_SpreadLater s p q term2 T0 Q0 q3 w hs hp (Lib.hid h2) h1 (Lib.hid h4) (Lib.hid h6) h5
end Go.Proofs.Ytcdnjhcddbkciaa
