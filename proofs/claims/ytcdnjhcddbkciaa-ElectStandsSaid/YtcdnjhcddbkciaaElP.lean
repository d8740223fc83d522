/- The walk of the law ElectStands. -/
import Derived.Test.YtcdnjhcddbkciaaElM
import Derived.Test.YtcdnjhcddbkciaaElO
namespace Go.Proofs.Ytcdnjhcddbkciaa
open Go.RowKit

set_option maxRecDepth 100000 in
set_option maxHeartbeats 6400000 in
theorem law_ElectStands (s : SV) (m : Nat) (yt : Int) (w : World) (hs : s.Ok w) (hm : m < 256) :
    Calls Try.prog 14 #[s.val, .int .u8 m, .int .i64 yt] w fun e w' => e = .returned (.bool true) ∧ Ext w w' := by
  have hS := fun w' (h : Ext w w') => law18_stable s.floor s.term s.vote s.A s.n s.c s.l w' (hs.es.ext h) hs.le hs.cap
  have hok1 := cutL_ok (m := 70) (k := 250) hs.es.ok
  obtain ⟨hu0, hu1, hu2⟩ : I64 s.floor ∧ I64 s.term ∧ I64 s.vote := ⟨hs.u0, hs.u1, hs.u2⟩
  have HS := Lib.hid hS; clear hS
  have Hok1 := Lib.hid hok1; clear hok1
  clear hs
  obtain ⟨floor, term, vote, A, n, c, l⟩ := s
  unfold SV.val
  dsimp only at HS Hok1 hu0 hu1 hu2 ⊢
  have HV : Hid (∀ (w' : World) A' n' c' l' t', I64 t' → Es w' A' n' l' → n' ≤ c' → c' ≤ maxLen → (⟨floor, t', vote, A', n', c', l'⟩ : SV).Ok w') := Lib.hid (fun w' B' m' d' l' t' ht' h1 h2 h3 => ⟨h1, h2, h3, hu0, ht', hu2⟩)
  clear hu0 hu2
  have hB0 : Blk (w.alloc (.cells #[.int .i64 floor, .int .i64 term, .int .i64 vote, .slice A n c] 45)) (w.heap.size) 45 [.int .i64 floor, .int .i64 term, .int .i64 vote, .slice A n c] := by
    have h0 := Blk.new w 45 [.int .i64 floor, .int .i64 term, .int .i64 vote, .slice A n c]
    rw [show w.heap.size = w.heap.size by simp] at h0
    exact h0
  have hxc : Ext w (w.alloc (.cells #[.int .i64 floor, .int .i64 term, .int .i64 vote, .slice A n c] 45)) := (Ext.refl w).alloc _
  go_enter Try.func14, Try.ntmps14
  obtain ⟨z, hz, hand⟩ := and_term term
  obtain ⟨z2, hz2, hand2⟩ := and_term yt
  go_wp2_with fail
  refine (law18_shown _).mono ?_
  rintro e w1 ⟨rfl, x1⟩
  replace hB0 := hB0.ext x1
  replace hxc := hxc.trans x1
  clear x1
  have hlt0 := hB0.lt
  have q0_0 := hB0.cell 0
  have q0_1 := hB0.cell 1
  have q0_2 := hB0.cell 2
  have q0_3 := hB0.cell 3
  simp only [List.getElem?_cons_zero, List.getElem?_cons_succ] at q0_0 q0_1 q0_2 q0_3
  go_wp2_with fail
  refine (HS.out _ hxc).mono ?_
  rintro e w2 ⟨v2, rfl, hown0, x2_⟩
  clear q0_0 q0_1 q0_2 q0_3
  obtain ⟨A9, c9, rfl, hc9, hcm9⟩ := own_form2 hown0
  have hn9 : min 70 n ≤ 70 := by omega
  generalize min 70 n = n9 at *
  replace hB0 := hB0.ext x2_
  have hsz2 := x2_.size
  replace hxc := hxc.trans x2_
  clear x2_
  have q0_0 := hB0.cell 0
  have q0_1 := hB0.cell 1
  have q0_2 := hB0.cell 2
  have q0_3 := hB0.cell 3
  simp only [List.getElem?_cons_zero, List.getElem?_cons_succ] at q0_0 q0_1 q0_2 q0_3
  have f0_0 := hB0.frozen 0
  have f0_1 := hB0.frozen 1
  have f0_2 := hB0.frozen 2
  have f0_3 := hB0.frozen 3
  go_upto_region 3 with (fail)
  replace hB0 := hB0.set4 (.slice A9 n9 c9)
  replace hxc := hxc.set4 (g := w.heap.size) (by omega) (.int .i64 floor) (.int .i64 term) (.int .i64 vote) (.slice A9 n9 c9)
  replace hown0 := own_set4 hown0 (g := w.heap.size) (by omega) (.int .i64 floor) (.int .i64 term) (.int .i64 vote) (.slice A9 n9 c9)
  clear q0_0 q0_1 q0_2 q0_3 f0_0 f0_1 f0_2 f0_3
  generalize ((((w2.setCell ⟨w.heap.size, 0, none⟩ (.int .i64 floor)).setCell ⟨w.heap.size, 1, none⟩ (.int .i64 term)).setCell ⟨w.heap.size, 2, none⟩ (.int .i64 vote)).setCell ⟨w.heap.size, 3, none⟩ (.slice A9 n9 c9)) = W2 at *
  have hlt0_2 := hB0.lt
  have q0_0 := hB0.cell 0
  have q0_1 := hB0.cell 1
  have q0_2 := hB0.cell 2
  have q0_3 := hB0.cell 3
  simp only [List.getElem?_cons_zero, List.getElem?_cons_succ] at q0_0 q0_1 q0_2 q0_3
  have f0_0 := hB0.frozen 0
  have f0_1 := hB0.frozen 1
  have f0_2 := hB0.frozen 2
  have f0_3 := hB0.frozen 3
  go_wp2_with fail
  clear q0_0 q0_1 q0_2 q0_3 f0_0 f0_1 f0_2 f0_3
  replace hB0 := hB0.set_ 1 (.int .i64 z)
  simp only [List.set_cons_succ, List.set_cons_zero] at hB0
  replace hxc := hxc.setCell (p := ⟨w.heap.size, 1, none⟩) (Nat.le_refl _) (.int .i64 z)
  replace hown0 := own_set hown0 (p := ⟨w.heap.size, 1, none⟩) (by dsimp only; omega) (.int .i64 z)
  generalize (W2.setCell ⟨w.heap.size, 1, none⟩ (.int .i64 z)) = W9 at *
  have hE : Es W9 A9 n9 (cutL 70 250 l) := Es.of_own hown0 fun f hf => (Hok1.out f hf).ext hxc
  have hOS := HV.out W9 A9 n9 c9 (cutL 70 250 l) z (i64_z hz) hE hc9 hcm9
  clear Hok1 HS HV hu1  hown0
  generalize cutL 70 250 l = L0 at *
  have hm5 : (m : Int) % 5 < 5 := by omega
  have hm0 : (0 : Int) ≤ (m : Int) % 5 := by omega
  have hst0 := elect_Stand ⟨floor, (z : Int), vote, A9, n9, c9, L0⟩ ((m : Int) % 5) W9 (i64_z hz)
  rw [show standL (⟨floor, (z : Int), vote, A9, n9, c9, L0⟩ : SV).term ((m : Int) % 5) = ([voteR ((z : Int) + 1) ((m : Int) % 5 + 1)], 0) by unfold standL; rw [if_neg (by omega), if_neg (by dsimp only; omega)]] at hst0
  have HSV := Lib.hid (fun (t who : Nat) (R : Option Addr) (q : Nat) (w' : World) (h : Ext W9 w') => ref18_Steps_vote floor (z : Int) vote A9 n9 c9 L0 t who R q w' (hE.ext h) (by omega))
  have HS15 := Lib.hid (fun (t who : Nat) (w' : World) (h : Ext W9 w') => ref15_Step_vote floor (z : Int) vote A9 n9 c9 L0 t who w' (hE.ext h) (by omega))
  have HOK := Lib.hid (fun (w' : World) (h : Ext W9 w') f (hf : f ∈ L0) => (hE.ok f hf).ext h)
  unfold SV.val at hst0
  dsimp only at hst0
  have HST0 := Lib.hid hst0
  clear hst0 hOS hE
  have q0_0 := hB0.cell 0
  have q0_1 := hB0.cell 1
  have q0_2 := hB0.cell 2
  have q0_3 := hB0.cell 3
  simp only [List.getElem?_cons_zero, List.getElem?_cons_succ] at q0_0 q0_1 q0_2 q0_3
  go_wp2_with fail
  refine HST0.out.mono ?_
  rintro e we ⟨v, rfl, ho, x⟩
  obtain ⟨A1, c1, rfl, _⟩ := own_form ho
  clear q0_0 q0_1 q0_2 q0_3 HST0
  replace hB0 := hB0.ext x
  replace hxc := hxc.trans x
  have xw := x
  have hR := Rs.of_own (l := [voteR ((z : Int) + 1) ((m : Int) % 5 + 1)]) ho (by intro f hf; simp only [List.mem_singleton] at hf; subst hf; exact voteR_ok _ _ _)
  have et : ((z + 1 : Nat) : Int) = (z : Int) + 1 := by omega
  have ew : ((m % 5 + 1 : Nat) : Int) = (m : Int) % 5 + 1 := by omega
  have hst := HSV.out (z + 1) (m % 5 + 1) A1 c1 we xw (by rw [et, ew]; exact hR) (by omega) (by omega) (by omega)
  rw [et, ew] at hst
  have HST := Lib.hid hst
  clear hst et ew hR ho x
  have q0_0 := hB0.cell 0
  have q0_1 := hB0.cell 1
  have q0_2 := hB0.cell 2
  have q0_3 := hB0.cell 3
  simp only [List.getElem?_cons_zero, List.getElem?_cons_succ] at q0_0 q0_1 q0_2 q0_3
  go_wp2_with fail
  refine HST.out.mono ?_
  rintro e w2 ⟨v2, rfl, hown2, x2⟩
  obtain ⟨A2, c2, rfl, _⟩ := own_form hown2
  clear q0_0 q0_1 q0_2 q0_3 HST hown2
  replace hB0 := hB0.ext x2
  replace hxc := hxc.trans x2
  replace xw := xw.trans x2
  have hlt9 := hB0.lt
  have xa : Ext w2 (w2.alloc (.cells #[.int .i64 floor, .int .i64 ((z : Int) + 1), .int .i64 ((m : Int) % 5 + 1), .slice A2 n9 c2] 45)) := (Ext.refl w2).alloc _
  have HNW := Lib.hid (elect_Newer ⟨floor, (z : Int), vote, A9, n9, c9, L0⟩ (z2 : Int) (w2.alloc (.cells #[.int .i64 floor, .int .i64 ((z : Int) + 1), .int .i64 ((m : Int) % 5 + 1), .slice A2 n9 c2] 45)))
  have q0_0 := hB0.cell 0
  have q0_1 := hB0.cell 1
  have q0_2 := hB0.cell 2
  have q0_3 := hB0.cell 3
  simp only [List.getElem?_cons_zero, List.getElem?_cons_succ] at q0_0 q0_1 q0_2 q0_3
  go_wp2_with fail
  refine HNW.out.mono ?_
  rintro e w5 ⟨v5, rfl, ho5, x5⟩
  obtain ⟨A5, c5, rfl, _⟩ := own_form ho5
  dsimp only at ho5 ⊢
  clear q0_0 q0_1 q0_2 q0_3 HNW
  have xa5 := xa.trans x5
  replace hB0 := hB0.ext xa5
  replace hxc := hxc.trans xa5
  replace xw := xw.trans xa5
  clear xa x5 xa5 x2 hlt9
  have hlt9 := hB0.lt
  by_cases hnz : z2 ≤ z
  · rw [show newerL (z : Int) (z2 : Int) = [] by unfold newerL; rw [if_pos (by omega)]]
    clear ho5
    have q0_0 := hB0.cell 0
    have q0_1 := hB0.cell 1
    have q0_2 := hB0.cell 2
    have q0_3 := hB0.cell 3
    simp only [List.getElem?_cons_zero, List.getElem?_cons_succ] at q0_0 q0_1 q0_2 q0_3
    go_wp2_with fail
    refine (ref18_Steps_nil _ _ _ _ _ _ _ _ _).mono ?_
    rintro e w6 ⟨rfl, x6⟩
    clear q0_0 q0_1 q0_2 q0_3
    replace hB0 := hB0.ext x6
    replace hxc := hxc.trans x6
    have hlt8 := hB0.lt
    have q0_0 := hB0.cell 0
    have q0_1 := hB0.cell 1
    have q0_2 := hB0.cell 2
    have q0_3 := hB0.cell 3
    simp only [List.getElem?_cons_zero, List.getElem?_cons_succ] at q0_0 q0_1 q0_2 q0_3
    clear hB0
    go_wp2
    go_ret
    exact ⟨rfl, hxc.alloc _⟩
  · rw [show newerL (z : Int) (z2 : Int) = [voteR (z2 : Int) 0] by unfold newerL; rw [if_neg (by omega)]] at ho5 ⊢
    have hRm := Rs.of_own (l := [voteR (z2 : Int) 0]) ho5 (by intro f hf; simp only [List.mem_singleton] at hf; subst hf; exact voteR_ok _ _ _)
    have HST := Lib.hid (HSV.out z2 0 A5 c5 w5 xw hRm (by omega) (by omega) (by omega))
    clear ho5
    have q0_0 := hB0.cell 0
    have q0_1 := hB0.cell 1
    have q0_2 := hB0.cell 2
    have q0_3 := hB0.cell 3
    simp only [List.getElem?_cons_zero, List.getElem?_cons_succ] at q0_0 q0_1 q0_2 q0_3
    go_wp2_with fail
    refine HST.out.mono ?_
    rintro e w6 ⟨v6, rfl, hown6, x6⟩
    obtain ⟨A6, c6, rfl, _⟩ := own_form hown6
    clear q0_0 q0_1 q0_2 q0_3 HST
    replace hB0 := hB0.ext x6
    replace hxc := hxc.trans x6
    replace xw := xw.trans x6
    replace hRm := hRm.ext x6
    have hEu : Es w6 A6 n9 L0 := Es.of_own hown6 fun f hf => HOK.out _ xw f hf
    clear hown6 x6
    have hlt8 := hB0.lt
    have q0_0 := hB0.cell 0
    have q0_1 := hB0.cell 1
    have q0_2 := hB0.cell 2
    have q0_3 := hB0.cell 3
    simp only [List.getElem?_cons_zero, List.getElem?_cons_succ] at q0_0 q0_1 q0_2 q0_3
    go_wp2_with fail
    clear q0_0 q0_1 q0_2 q0_3
    have BU := Blk.new w6 45 [.int .i64 floor, .int .i64 z2, .int .i64 0, .slice A6 n9 c6]
    have xa : Ext w6 (w6.alloc (.cells #[.int .i64 floor, .int .i64 z2, .int .i64 0, .slice A6 n9 c6] 45)) := (Ext.refl w6).alloc _
    replace hB0 := hB0.ext xa
    replace hxc := hxc.trans xa
    replace xw := xw.trans xa
    replace hRm := hRm.ext xa
    replace hEu := hEu.ext xa
    clear xa
    generalize (w6.alloc (.cells #[.int .i64 floor, .int .i64 z2, .int .i64 0, .slice A6 n9 c6] 45)) = wb at *
    obtain ⟨b, off, rfl, d0, d1, d2, d3⟩ := hRm.at_ (i := 0) (by simp)
    simp only [voteR, List.getElem_cons_zero, Nat.zero_mul, Nat.add_zero] at d0 d1 d2 d3
    have hbl := World.block_lt_of_cell? _ _ d0
    have hlt7 := hB0.lt
    have hlt6 := BU.lt
    have a0 := hB0.cell 0
    have a1 := hB0.cell 1
    have a2 := hB0.cell 2
    have a3 := hB0.cell 3
    simp only [List.getElem?_cons_zero, List.getElem?_cons_succ] at a0 a1 a2 a3
    have HB0 := Lib.hid hB0
    have HBU := Lib.hid BU
    clear hB0 BU hRm
    go_region_held3 (fun w' => w'.cell? ⟨b, off, none⟩ = some (.int .i64 2) ∧ w'.cell? ⟨b, off + 1, none⟩ = some (.int .i64 z2) ∧ w'.cell? ⟨b, off + 2, none⟩ = some (.int .i64 0) ∧ w'.cell? ⟨b, off + 3, none⟩ = some (.slice none 0 0) ∧ w'.cell? ⟨w.heap.size, 0, none⟩ = some (.int .i64 floor) ∧ w'.cell? ⟨w.heap.size, 1, none⟩ = some (.int .i64 z) ∧ w'.cell? ⟨w.heap.size, 2, none⟩ = some (.int .i64 vote) ∧ w'.cell? ⟨w.heap.size, 3, none⟩ = some (.slice A9 n9 c9))
        (first | (with_reducible exact ⟨x02.cell d0, x02.cell d1, x02.cell d2, x02.cell d3, x02.cell a0, x02.cell a1, x02.cell a2, x02.cell a3⟩) | (with_reducible exact ⟨(x02.alloc _).cell d0, (x02.alloc _).cell d1, (x02.alloc _).cell d2, (x02.alloc _).cell d3, (x02.alloc _).cell a0, (x02.alloc _).cell a1, (x02.alloc _).cell a2, (x02.alloc _).cell a3⟩) | (exact ⟨(Ext.setCell (Ext.setCell (Ext.setCell (Ext.setCell x02 (Nat.le_refl _) _) (Nat.le_refl _) _) (Nat.le_refl _) _) (Nat.le_refl _) _).cell d0, (Ext.setCell (Ext.setCell (Ext.setCell (Ext.setCell x02 (Nat.le_refl _) _) (Nat.le_refl _) _) (Nat.le_refl _) _) (Nat.le_refl _) _).cell d1, (Ext.setCell (Ext.setCell (Ext.setCell (Ext.setCell x02 (Nat.le_refl _) _) (Nat.le_refl _) _) (Nat.le_refl _) _) (Nat.le_refl _) _).cell d2, (Ext.setCell (Ext.setCell (Ext.setCell (Ext.setCell x02 (Nat.le_refl _) _) (Nat.le_refl _) _) (Nat.le_refl _) _) (Nat.le_refl _) _).cell d3, (Ext.setCell (Ext.setCell (Ext.setCell (Ext.setCell x02 (Nat.le_refl _) _) (Nat.le_refl _) _) (Nat.le_refl _) _) (Nat.le_refl _) _).cell a0, (Ext.setCell (Ext.setCell (Ext.setCell (Ext.setCell x02 (Nat.le_refl _) _) (Nat.le_refl _) _) (Nat.le_refl _) _) (Nat.le_refl _) _).cell a1, (Ext.setCell (Ext.setCell (Ext.setCell (Ext.setCell x02 (Nat.le_refl _) _) (Nat.le_refl _) _) (Nat.le_refl _) _) (Nat.le_refl _) _).cell a2, (Ext.setCell (Ext.setCell (Ext.setCell (Ext.setCell x02 (Nat.le_refl _) _) (Nat.le_refl _) _) (Nat.le_refl _) _) (Nat.le_refl _) _).cell a3⟩) | go_keep)
        ((go_at_call 49; refine (HS15.out z2 0 _ (by first | exact xw.drew | exact (xw.alloc _).drew) (by omega) (by omega) (by omega)).mono ?_; rintro e w8 ⟨v8, rfl, hown8, x8⟩; obtain ⟨A8, c8, rfl, _⟩ := own_form hown8; have x02 : Ext wb w8 := (by first | exact (Ext.refl wb).drew.trans x8 | exact ((Ext.refl wb).alloc _).drew.trans x8); first | (have NB : Blk w8 wb.heap.size 45 [.int .i64 0, .int .i64 0, .int .i64 0, .slice none 0 0] := (Blk.new wb _ _).drew.ext x8; have n0 := NB.cell 0; have n1 := NB.cell 1; have n2 := NB.cell 2; have n3 := NB.cell 3; have m0 := NB.frozen 0; have m1 := NB.frozen 1; have m2 := NB.frozen 2; have m3 := NB.frozen 3; simp only [List.getElem?_cons_zero, List.getElem?_cons_succ] at n0 n1 n2 n3; have HNB := Lib.hid NB; clear NB) | skip))
    · have BV : Blk (w8.alloc (.cells #[.int .i64 floor, .int .i64 z2, .int .i64 0, .slice A8 n9 c8] 45)) (w8.heap.size) 45 [.int .i64 floor, .int .i64 z2, .int .i64 0, .slice A8 n9 c8] := Blk.new w8 _ [.int .i64 floor, .int .i64 z2, .int .i64 0, .slice A8 n9 c8]
      have Y := x02.alloc (.cells #[.int .i64 floor, .int .i64 z2, .int .i64 0, .slice A8 n9 c8] 45)
      have BU := HBU.out.ext Y
      have hxW := hxc.trans Y
      have xwW := xw.trans Y
      have hEv : Es (w8.alloc (.cells #[.int .i64 floor, .int .i64 z2, .int .i64 0, .slice A8 n9 c8] 45)) A8 n9 L0 := (Es.of_own hown8 fun f hf => HOK.out _ (xw.trans x02) f hf).ext ((Ext.refl w8).alloc _)
      have hEu' := hEu.ext Y
      clear hown8 x8 x02 a0 a1 a2 a3 d0 d1 d2 d3 Y hEu HB0 HBU
      generalize (w8.alloc (.cells #[.int .i64 floor, .int .i64 z2, .int .i64 0, .slice A8 n9 c8] 45)) = W at *
      have t0 := BV.cell 0
      have t1 := BV.cell 1
      have t2 := BV.cell 2
      have t3 := BV.cell 3
      have u0 := BU.cell 0
      have u1 := BU.cell 1
      have u2 := BU.cell 2
      have u3 := BU.cell 3
      simp only [List.getElem?_cons_zero, List.getElem?_cons_succ] at t0 t1 t2 t3 u0 u1 u2 u3
      have HSM := Lib.hid (ref15_Same floor (z2 : Int) 0 A6 A8 n9 c6 c8 L0 L0 W hEu' hEv rfl (by omega))
      clear hEu' hEv BV
      go_wp2_with fail
      refine HSM.out.mono ?_
      rintro e wz ⟨rfl, xz⟩
      have u1' := xz.cell u1
      have u2' := xz.cell u2
      clear t0 t1 t2 t3 u0 u1 u2 u3 BU
      go_wp2
      go_ret
      exact ⟨rfl, hxW.trans xz⟩
    · have BV : Blk ((((w8.setCell ⟨wb.heap.size, 0, none⟩ (.int .i64 floor)).setCell ⟨wb.heap.size, 1, none⟩ (.int .i64 z2)).setCell ⟨wb.heap.size, 2, none⟩ (.int .i64 0)).setCell ⟨wb.heap.size, 3, none⟩ (.slice A8 n9 c8)) (wb.heap.size) 45 [.int .i64 floor, .int .i64 z2, .int .i64 0, .slice A8 n9 c8] := (((HNB.out.set_ 0 _).set_ 1 _).set_ 2 _).set_ 3 _
      have Y := ((((x02.setCell (p := ⟨wb.heap.size, 0, none⟩) (Nat.le_refl _) (.int .i64 floor)).setCell (p := ⟨wb.heap.size, 1, none⟩) (Nat.le_refl _) (.int .i64 z2)).setCell (p := ⟨wb.heap.size, 2, none⟩) (Nat.le_refl _) (.int .i64 0)).setCell (p := ⟨wb.heap.size, 3, none⟩) (Nat.le_refl _) (.slice A8 n9 c8))
      have BU := HBU.out.ext Y
      have hxW := hxc.trans Y
      have xwW := xw.trans Y
      have hEv : Es ((((w8.setCell ⟨wb.heap.size, 0, none⟩ (.int .i64 floor)).setCell ⟨wb.heap.size, 1, none⟩ (.int .i64 z2)).setCell ⟨wb.heap.size, 2, none⟩ (.int .i64 0)).setCell ⟨wb.heap.size, 3, none⟩ (.slice A8 n9 c8)) A8 n9 L0 := Es.of_own (own_set (own_set (own_set (own_set hown8 (p := ⟨wb.heap.size, 0, none⟩) (by simp) (.int .i64 floor)) (p := ⟨wb.heap.size, 1, none⟩) (by simp) (.int .i64 z2)) (p := ⟨wb.heap.size, 2, none⟩) (by simp) (.int .i64 0)) (p := ⟨wb.heap.size, 3, none⟩) (by simp) (.slice A8 n9 c8)) fun f hf => HOK.out _ xwW f hf
      have hEu' := hEu.ext Y
      clear hown8 x8 x02 a0 a1 a2 a3 d0 d1 d2 d3 Y hEu HB0 HBU
      generalize ((((w8.setCell ⟨wb.heap.size, 0, none⟩ (.int .i64 floor)).setCell ⟨wb.heap.size, 1, none⟩ (.int .i64 z2)).setCell ⟨wb.heap.size, 2, none⟩ (.int .i64 0)).setCell ⟨wb.heap.size, 3, none⟩ (.slice A8 n9 c8)) = W at *
      have t0 := BV.cell 0
      have t1 := BV.cell 1
      have t2 := BV.cell 2
      have t3 := BV.cell 3
      have u0 := BU.cell 0
      have u1 := BU.cell 1
      have u2 := BU.cell 2
      have u3 := BU.cell 3
      simp only [List.getElem?_cons_zero, List.getElem?_cons_succ] at t0 t1 t2 t3 u0 u1 u2 u3
      have HSM := Lib.hid (ref15_Same floor (z2 : Int) 0 A6 A8 n9 c6 c8 L0 L0 W hEu' hEv rfl (by omega))
      clear hEu' hEv BV
      go_wp2_with fail
      refine HSM.out.mono ?_
      rintro e wz ⟨rfl, xz⟩
      have u1' := xz.cell u1
      have u2' := xz.cell u2
      clear t0 t1 t2 t3 u0 u1 u2 u3 BU
      go_wp2
      go_ret
      exact ⟨rfl, hxW.trans xz⟩

theorem law_ElectStands_i (s : SV) (a yt : Int) (w : World) (hs : s.Ok w) (h0 : 0 ≤ a) (h1 : a < 256) :
    Calls Try.prog 14 #[s.val, .int .u8 a, .int .i64 yt] w fun e w' => e = .returned (.bool true) ∧ Ext w w' := by
  obtain ⟨m, rfl⟩ := Int.eq_ofNat_of_zero_le h0
  exact law_ElectStands s m yt w hs (by omega)
end Go.Proofs.Ytcdnjhcddbkciaa

