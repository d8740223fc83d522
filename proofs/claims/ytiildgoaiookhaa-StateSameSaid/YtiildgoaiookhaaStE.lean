/- coracleref07.Same. (Printed by wip/tools/stref7.py.) -/
import Derived.Test.YtiildgoaiookhaaStD
namespace Go.Proofs.Ytiildgoaiookhaa
open Go.RowKit

set_option maxRecDepth 100000 in
set_option maxHeartbeats 6400000 in
theorem ref07_Same (s t : KV) (b : Bool) (hb : kSame s t = b) (w : World) (hs : s.Ok w) (ht : t.Ok w) (fs : s.Few) (ft : t.Few) :
    Calls Try.prog 31 #[s.val, t.val] w fun e w' => e = .returned (.bool b) ∧ Ext w w' := by
  obtain ⟨g1, g2, g3, g4⟩ := fs
  obtain ⟨f1, f2, f3, f4⟩ := ft
  have S1 := hs.t1
  have S2 := hs.t2
  have S3 := hs.t3
  have U1 := ht.t1
  have U2 := ht.t2
  have U3 := ht.t3
  clear hs ht
  obtain ⟨v1, x1, k1, u1, A1, n1, c1, l1, B1, m1, d1, o1, C1, p1, e1, q1⟩ := s
  obtain ⟨v2, x2, k2, u2, A2, n2, c2, l2, B2, m2, d2, o2, C2, p2, e2, q2⟩ := t
  unfold KV.val
  unfold kSame at hb
  dsimp only at *
  have xa : Ext w ((w.alloc (.cells #[.int .i64 v1, .int .i64 x1, .int .i64 k1, .int .i64 u1, .slice A1 n1 c1, .slice B1 m1 d1, .slice C1 p1 e1] 26)).alloc (.cells #[.int .i64 v2, .int .i64 x2, .int .i64 k2, .int .i64 u2, .slice A2 n2 c2, .slice B2 m2 d2, .slice C2 p2 e2] 26)) := ((Ext.refl w).alloc _).alloc _
  have hb1 : Blk ((w.alloc (.cells #[.int .i64 v1, .int .i64 x1, .int .i64 k1, .int .i64 u1, .slice A1 n1 c1, .slice B1 m1 d1, .slice C1 p1 e1] 26)).alloc (.cells #[.int .i64 v2, .int .i64 x2, .int .i64 k2, .int .i64 u2, .slice A2 n2 c2, .slice B2 m2 d2, .slice C2 p2 e2] 26)) w.heap.size 26 [.int .i64 v1, .int .i64 x1, .int .i64 k1, .int .i64 u1, .slice A1 n1 c1, .slice B1 m1 d1, .slice C1 p1 e1] := (Blk.new w 26 [.int .i64 v1, .int .i64 x1, .int .i64 k1, .int .i64 u1, .slice A1 n1 c1, .slice B1 m1 d1, .slice C1 p1 e1]).alloc _
  have hb2 : Blk ((w.alloc (.cells #[.int .i64 v1, .int .i64 x1, .int .i64 k1, .int .i64 u1, .slice A1 n1 c1, .slice B1 m1 d1, .slice C1 p1 e1] 26)).alloc (.cells #[.int .i64 v2, .int .i64 x2, .int .i64 k2, .int .i64 u2, .slice A2 n2 c2, .slice B2 m2 d2, .slice C2 p2 e2] 26)) (w.heap.size + 1) 26 [.int .i64 v2, .int .i64 x2, .int .i64 k2, .int .i64 u2, .slice A2 n2 c2, .slice B2 m2 d2, .slice C2 p2 e2] := by
    have := Blk.new (w.alloc (.cells #[.int .i64 v1, .int .i64 x1, .int .i64 k1, .int .i64 u1, .slice A1 n1 c1, .slice B1 m1 d1, .slice C1 p1 e1] 26)) 26 [.int .i64 v2, .int .i64 x2, .int .i64 k2, .int .i64 u2, .slice A2 n2 c2, .slice B2 m2 d2, .slice C2 p2 e2]
    simpa using this
  have HC : Hid (∀ V, Ext ((w.alloc (.cells #[.int .i64 v1, .int .i64 x1, .int .i64 k1, .int .i64 u1, .slice A1 n1 c1, .slice B1 m1 d1, .slice C1 p1 e1] 26)).alloc (.cells #[.int .i64 v2, .int .i64 x2, .int .i64 k2, .int .i64 u2, .slice A2 n2 c2, .slice B2 m2 d2, .slice C2 p2 e2] 26)) V → V.cell? ⟨w.heap.size, 0, none⟩ = some (.int .i64 v1) ∧ V.cell? ⟨w.heap.size, 1, none⟩ = some (.int .i64 x1) ∧ V.cell? ⟨w.heap.size, 2, none⟩ = some (.int .i64 k1) ∧ V.cell? ⟨w.heap.size, 3, none⟩ = some (.int .i64 u1) ∧ V.cell? ⟨w.heap.size, 4, none⟩ = some (.slice A1 n1 c1) ∧ V.cell? ⟨w.heap.size, 5, none⟩ = some (.slice B1 m1 d1) ∧ V.cell? ⟨w.heap.size, 6, none⟩ = some (.slice C1 p1 e1) ∧ V.cell? ⟨w.heap.size + 1, 0, none⟩ = some (.int .i64 v2) ∧ V.cell? ⟨w.heap.size + 1, 1, none⟩ = some (.int .i64 x2) ∧ V.cell? ⟨w.heap.size + 1, 2, none⟩ = some (.int .i64 k2) ∧ V.cell? ⟨w.heap.size + 1, 3, none⟩ = some (.int .i64 u2) ∧ V.cell? ⟨w.heap.size + 1, 4, none⟩ = some (.slice A2 n2 c2) ∧ V.cell? ⟨w.heap.size + 1, 5, none⟩ = some (.slice B2 m2 d2) ∧ V.cell? ⟨w.heap.size + 1, 6, none⟩ = some (.slice C2 p2 e2)) := Lib.hid (fun V y => ⟨(hb1.ext y).cell 0, (hb1.ext y).cell 1, (hb1.ext y).cell 2, (hb1.ext y).cell 3, (hb1.ext y).cell 4, (hb1.ext y).cell 5, (hb1.ext y).cell 6, (hb2.ext y).cell 0, (hb2.ext y).cell 1, (hb2.ext y).cell 2, (hb2.ext y).cell 3, (hb2.ext y).cell 4, (hb2.ext y).cell 5, (hb2.ext y).cell 6⟩)
  replace S1 := S1.ext xa
  replace S2 := S2.ext xa
  replace S3 := S3.ext xa
  replace U1 := U1.ext xa
  replace U2 := U2.ext xa
  replace U3 := U3.ext xa
  clear hb1 hb2
  have hl1 := S1.len
  have hl2 := U1.len
  have hm1 := S2.len
  have hm2 := U2.len
  obtain ⟨s0, s1, s2, s3, s4, s5, s6, t0, t1, t2, t3, t4, t5, t6⟩ := HC.out _ (Ext.refl _)
  by_cases h1 : v1 = v2
  case neg =>
    have hf : b = false := by rw [← hb, dec_f h1]; simp
    subst hf
    have z := bne_t h1
    clear h1 hb HC
    go_enter Try.func31, Try.ntmps31
    go_wp2
    go_ret
    exact ⟨rfl, xa⟩
  rw [dec_t h1, Bool.true_and] at hb
  subst h1
  by_cases h2 : x1 = x2
  case neg =>
    have hf : b = false := by rw [← hb, dec_f h2]; simp
    subst hf
    have z := bne_t h2
    clear h2 hb HC
    go_enter Try.func31, Try.ntmps31
    go_wp2
    go_ret
    exact ⟨rfl, xa⟩
  rw [dec_t h2, Bool.true_and] at hb
  subst h2
  by_cases h3 : k1 = k2
  case neg =>
    have hf : b = false := by rw [← hb, dec_f h3]; simp
    subst hf
    have z := bne_t h3
    clear h3 hb HC
    go_enter Try.func31, Try.ntmps31
    go_wp2
    go_ret
    exact ⟨rfl, xa⟩
  rw [dec_t h3, Bool.true_and] at hb
  subst h3
  by_cases h4 : u1 = u2
  case neg =>
    have hf : b = false := by rw [← hb, dec_f h4]; simp
    subst hf
    have z := bne_t h4
    clear h4 hb HC
    go_enter Try.func31, Try.ntmps31
    go_wp2
    go_ret
    exact ⟨rfl, xa⟩
  rw [dec_t h4, Bool.true_and] at hb
  subst h4
  by_cases h5 : n1 = n2
  case neg =>
    have hf : b = false := by rw [← hb]; rw [dec_f (show ¬ l1 = l2 from fun e => by rw [e] at hl1; omega)]; simp
    subst hf
    have z := bne_t (show ((n1 : Nat) : Int) ≠ n2 by omega)
    clear h5 hb HC
    go_enter Try.func31, Try.ntmps31
    go_wp2
    go_ret
    exact ⟨rfl, xa⟩
  subst h5
  by_cases h6 : m1 = m2
  case neg =>
    have hf : b = false := by rw [← hb]; rw [dec_f (show ¬ o1 = o2 from fun e => by rw [e] at hm1; omega)]; simp
    subst hf
    have z := bne_t (show ((m1 : Nat) : Int) ≠ m2 by omega)
    clear h6 hb HC
    go_enter Try.func31, Try.ntmps31
    go_wp2
    go_ret
    exact ⟨rfl, xa⟩
  subst h6
  have Hb := Lib.hid hb
  clear hb
  go_enter Try.func31, Try.ntmps31
  clear s0 s1 s2 s3 s4 s5 s6 t0 t1 t2 t3 t4 t5 t6
  obtain ⟨s0, s1, s2, s3, s4, s5, s6, t0, t1, t2, t3, t4, t5, t6⟩ := HC.out _ (Ext.refl _)
  go_wp2_with fail
  go_loopw [5] (fun i wr => ∃ j : Nat, i = .int .i64 j ∧ j ≤ n1 ∧ Hid (l1.take j = l2.take j) ∧ Ext ((w.alloc (.cells #[.int .i64 v1, .int .i64 x1, .int .i64 k1, .int .i64 u1, .slice A1 n1 c1, .slice B1 m1 d1, .slice C1 p1 e1] 26)).alloc (.cells #[.int .i64 v1, .int .i64 x1, .int .i64 k1, .int .i64 u1, .slice A2 n1 c2, .slice B2 m1 d2, .slice C2 p2 e2] 26)) wr) (fun i _ => n1 - (intOf i).toNat)
  case atStart => exact ⟨0, rfl, by omega, Lib.hid rfl, Ext.refl _⟩
  case round =>
    obtain ⟨j, rfl, hj, HPRE, hx⟩ := hrel
    obtain ⟨s0, s1, s2, s3, s4, s5, s6, t0, t1, t2, t3, t4, t5, t6⟩ := HC.out _ (hx)
    by_cases hjn : j < n1
    · have hpre := HPRE.out
      have hjl : j < l1.length := by omega
      have hjm : j < l2.length := by omega
      obtain ⟨bb, off, rfl, hlt, hc⟩ := (S1.ext hx).at_ hjn
      obtain ⟨bk, ofk, rfl, hlt', hd⟩ := (U1.ext hx).at_ hjn
      have HE := Lib.hid (fun he => take_eq_snoc hjl hjm hpre he)
      have HNe := Lib.hid (fun he => take_ne hjl hjm he)
      generalize l1[j] = f at *
      generalize l2[j] = g at *
      have cf0 : wr.cell? ⟨bb, off + j * 4, none⟩ = some (.int .i64 f.client) := hc 0 (by omega)
      have cf1 : wr.cell? ⟨bb, off + j * 4 + 1, none⟩ = some (.int .i64 f.seq) := hc 1 (by omega)
      have cf2 : wr.cell? ⟨bb, off + j * 4 + 2, none⟩ = some (.int .i64 f.code) := hc 2 (by omega)
      have cf3 : wr.cell? ⟨bb, off + j * 4 + 3, none⟩ = some (.int .i64 f.n) := hc 3 (by omega)
      have cg0 : wr.cell? ⟨bk, ofk + j * 4, none⟩ = some (.int .i64 g.client) := hd 0 (by omega)
      have cg1 : wr.cell? ⟨bk, ofk + j * 4 + 1, none⟩ = some (.int .i64 g.seq) := hd 1 (by omega)
      have cg2 : wr.cell? ⟨bk, ofk + j * 4 + 2, none⟩ = some (.int .i64 g.code) := hd 2 (by omega)
      have cg3 : wr.cell? ⟨bk, ofk + j * 4 + 3, none⟩ = some (.int .i64 g.n) := hd 3 (by omega)
      clear hc hd hpre HPRE
      have hj0 : (0 : Int) ≤ j := by omega
      have hj1 : (j : Int) < n1 := by omega
      by_cases he : f = g
      · have H1 := Lib.hid (HE.out he)
        have hq := fun w => run_neq_cv f g w
        rw [show decide (f = g) = true by simp [he]] at hq
        simp only [Bool.not_true] at hq
        clear HE HNe he
        go_wp2
        go_quiet (fail)
        go_wp2
        go_roundw
        case rel => exact ⟨j + 1, val_int (by omega), by omega, H1, hx.drewN _⟩
        case measure => simp [intOf]; omega
      · have H1 : Hid (b = false) := Lib.hid (by rw [← Hb.out, dec_f (HNe.out he)]; simp)
        have hq := fun w => run_neq_cv f g w
        rw [show decide (f = g) = false by simp [he]] at hq
        simp only [Bool.not_false] at hq
        clear HE HNe he
        go_wp2
        go_quiet (fail)
        go_wp2
        go_ret
        exact ⟨by rw [H1.out] <;> rfl, xa.trans (hx.drewN _)⟩
    · obtain rfl : n1 = j := by omega
      have hpre := HPRE.out
      rw [List.take_of_length_le (by omega), List.take_of_length_le (by omega)] at hpre
      have hpre0 := hpre
      have hx0 := hx
      have S2w := S2.ext hx
      have U2w := U2.ext hx
      clear hpre HPRE hx
      generalize hwr : wr = wr0 at *
      clear hwr
      go_wp2_with fail
      go_loopw [6] (fun i wr => ∃ j : Nat, i = .int .i64 j ∧ j ≤ m1 ∧ Hid (o1.take j = o2.take j) ∧ Ext wr0 wr) (fun i _ => m1 - (intOf i).toNat)
      case atStart => exact ⟨0, rfl, by omega, Lib.hid rfl, Ext.refl _⟩
      case round =>
        obtain ⟨j, rfl, hj, HPRE, hx⟩ := hrel
        obtain ⟨s0, s1, s2, s3, s4, s5, s6, t0, t1, t2, t3, t4, t5, t6⟩ := HC.out _ ((hx0.trans hx))
        by_cases hjn : j < m1
        · have hpre := HPRE.out
          have hjl : j < o1.length := by omega
          have hjm : j < o2.length := by omega
          obtain ⟨bb, off, rfl, hlt, hc⟩ := (S2w.ext hx).at_ hjn
          obtain ⟨bk, ofk, rfl, hlt', hd⟩ := (U2w.ext hx).at_ hjn
          have HE := Lib.hid (fun he => take_eq_snoc hjl hjm hpre he)
          have HNe := Lib.hid (fun he => take_ne hjl hjm he)
          generalize o1[j] = f at *
          generalize o2[j] = g at *
          have cf0 : wr.cell? ⟨bb, off + j * 2, none⟩ = some (.int .i64 f.set) := hc 0 (by omega)
          have cf1 : wr.cell? ⟨bb, off + j * 2 + 1, none⟩ = some (.int .i64 f.client) := hc 1 (by omega)
          have cg0 : wr.cell? ⟨bk, ofk + j * 2, none⟩ = some (.int .i64 g.set) := hd 0 (by omega)
          have cg1 : wr.cell? ⟨bk, ofk + j * 2 + 1, none⟩ = some (.int .i64 g.client) := hd 1 (by omega)
          clear hc hd hpre HPRE
          have hj0 : (0 : Int) ≤ j := by omega
          have hj1 : (j : Int) < m1 := by omega
          by_cases he : f = g
          · have H1 := Lib.hid (HE.out he)
            have hq := fun w => run_neq_ov f g w
            rw [show decide (f = g) = true by simp [he]] at hq
            simp only [Bool.not_true] at hq
            clear HE HNe he
            go_wp2
            go_quiet (fail)
            go_wp2
            go_roundw
            case rel => exact ⟨j + 1, val_int (by omega), by omega, H1, hx.drewN _⟩
            case measure => simp [intOf]; omega
          · have H1 : Hid (b = false) := Lib.hid (by rw [← Hb.out, dec_t hpre0, Bool.true_and, dec_f (HNe.out he)]; simp)
            have hq := fun w => run_neq_ov f g w
            rw [show decide (f = g) = false by simp [he]] at hq
            simp only [Bool.not_false] at hq
            clear HE HNe he
            go_wp2
            go_quiet (fail)
            go_wp2
            go_ret
            exact ⟨by rw [H1.out] <;> rfl, (xa.trans hx0).trans (hx.drewN _)⟩
        · obtain rfl : m1 = j := by omega
          have hpre := HPRE.out
          rw [List.take_of_length_le (by omega), List.take_of_length_le (by omega)] at hpre
          have hb3 := Hb.out
          rw [dec_t hpre0, Bool.true_and, dec_t hpre, Bool.true_and] at hb3
          have HA := Lib.hid (ref06_SameAll C1 C2 p1 p2 e1 e2 q1 q2 b hb3 wr (S3.ext (hx0.trans hx)) (U3.ext (hx0.trans hx)) g3 f3 g4 f4)
          have xf := (xa.trans hx0).trans hx
          clear hpre hpre0 HPRE Hb hb3
          go_wp2_with fail
          refine HA.out.mono ?_
          rintro e w9 ⟨rfl, y9⟩
          go_wp2
          go_ret
          exact ⟨rfl, xf.trans y9⟩
end Go.Proofs.Ytiildgoaiookhaa
