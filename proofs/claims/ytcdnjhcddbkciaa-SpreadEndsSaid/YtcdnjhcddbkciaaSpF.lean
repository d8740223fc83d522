/- The walk of spread.Make. (Printed by wip/tools/spmake.py.) -/
import Derived.Test.YtcdnjhcddbkciaaSpB
import Derived.Test.YtcdnjhcddbkciaaLgF
import Derived.Test.YtcdnjhcddbkciaaElF
import Derived.Deep.RegionHeld3
namespace Go.Proofs.Ytcdnjhcddbkciaa
open Go.RowKit

/-- the Copy that is made, without its place -/
def makeY (s : SV) (src dst : Int) (a : Nat) (cm bin : Int) (A : Option Addr) (cp : Nat) : LV := ⟨3, src, dst, s.term, a, termB s.l a, cm, bin, false, A, (behB s.l a 4).length, cp, behB s.l a 4⟩
theorem makeY_may (s : SV) (src dst : Int) (a : Nat) (cm bin : Int) (A : Option Addr) (cp : Nat) : mayB (makeY s src dst a cm bin A cp) = mayB (makeY s src dst a cm bin none 0) := rfl
theorem lt_drew_alloc (w : World) (o : Obj) : w.heap.size < (w.alloc o).drew.heap.size := by
  show w.heap.size < (w.alloc o).heap.size
  rw [World.size_alloc]; omega
theorem behB_mem2 (l : List EV) (b q : Int) : ∀ f ∈ behB l b q, f ∈ l := by
  unfold behB
  by_cases h : b < 0 ∨ (l.length : Int) < b ∨ q < 1
  · rw [if_pos h]; simp
  · rw [if_neg h]; exact fun f hf => List.mem_of_mem_drop (List.mem_of_mem_take hf)

set_option maxRecDepth 100000 in
set_option maxHeartbeats 3200000 in
theorem spread_Make (s : SV) (src dst : Int) (a : Nat) (cm bin : Int) (w : World) (hs : s.Ok w) (hn : s.n ≤ 1000) (ha : a ≤ s.n) (u1 : I64 src) (u2 : I64 dst) (u3 : I64 cm) (u4 : I64 bin) (u5 : I64 (termB s.l a)) :
    Calls Try.prog 56 #[s.val, .agg #[.int .i64 src, .int .i64 dst, .int .i64 (1 + (a : Int)), .int .i64 cm, .int .i64 bin]] w fun e w' => ((mayB (makeY s src dst a cm bin none 0) = true ∧ ∃ A2 c2, e = .returned (.tuple #[(makeY s src dst a cm bin A2 c2).val, .int .i64 0]) ∧ w'.ownsRow w.heap.size 36 2 (.slice A2 (behB s.l a 4).length c2) (behB s.l a 4).length (logOf (behB s.l a 4))) ∨
      (mayB (makeY s src dst a cm bin none 0) = false ∧ e = .returned (.tuple #[.agg #[.int .i64 0, .int .i64 0, .int .i64 0, .int .i64 0, .int .i64 0, .int .i64 0, .int .i64 0, .int .i64 0, .bool false, .slice none 0 0], .int .i64 1]))) ∧ Ext w w' := by
  obtain ⟨floor, term, vote, A, n, c, l⟩ := s
  dsimp only at hn ha u5
  have hbs : Blk (((w.alloc (.cells #[.int .i64 floor, .int .i64 term, .int .i64 vote, .slice A n c] 45)).alloc (.cells #[.int .i64 src, .int .i64 dst, .int .i64 (1 + (a : Int)), .int .i64 cm, .int .i64 bin] 81)).alloc (.cells #[.int .i64 0, .int .i64 0, .int .i64 0, .int .i64 0, .int .i64 0, .int .i64 0, .int .i64 0, .int .i64 0, .bool false, .slice none 0 0] 47)) w.heap.size 45 [.int .i64 floor, .int .i64 term, .int .i64 vote, .slice A n c] := ((Blk.new w 45 [.int .i64 floor, .int .i64 term, .int .i64 vote, .slice A n c]).alloc _).alloc _
  have hbr : Blk (((w.alloc (.cells #[.int .i64 floor, .int .i64 term, .int .i64 vote, .slice A n c] 45)).alloc (.cells #[.int .i64 src, .int .i64 dst, .int .i64 (1 + (a : Int)), .int .i64 cm, .int .i64 bin] 81)).alloc (.cells #[.int .i64 0, .int .i64 0, .int .i64 0, .int .i64 0, .int .i64 0, .int .i64 0, .int .i64 0, .int .i64 0, .bool false, .slice none 0 0] 47)) (w.heap.size + 1) 81 [.int .i64 src, .int .i64 dst, .int .i64 (1 + (a : Int)), .int .i64 cm, .int .i64 bin] := by
    have h0 := Blk.new (w.alloc (.cells #[.int .i64 floor, .int .i64 term, .int .i64 vote, .slice A n c] 45)) 81 [.int .i64 src, .int .i64 dst, .int .i64 (1 + (a : Int)), .int .i64 cm, .int .i64 bin]
    rw [show (w.alloc (.cells #[.int .i64 floor, .int .i64 term, .int .i64 vote, .slice A n c] 45)).heap.size = w.heap.size + 1 by simp] at h0
    exact h0.alloc _
  have hbz : Blk (((w.alloc (.cells #[.int .i64 floor, .int .i64 term, .int .i64 vote, .slice A n c] 45)).alloc (.cells #[.int .i64 src, .int .i64 dst, .int .i64 (1 + (a : Int)), .int .i64 cm, .int .i64 bin] 81)).alloc (.cells #[.int .i64 0, .int .i64 0, .int .i64 0, .int .i64 0, .int .i64 0, .int .i64 0, .int .i64 0, .int .i64 0, .bool false, .slice none 0 0] 47)) (w.heap.size + 2) 47 [.int .i64 0, .int .i64 0, .int .i64 0, .int .i64 0, .int .i64 0, .int .i64 0, .int .i64 0, .int .i64 0, .bool false, .slice none 0 0] := by
    have h0 := Blk.new ((w.alloc (.cells #[.int .i64 floor, .int .i64 term, .int .i64 vote, .slice A n c] 45)).alloc (.cells #[.int .i64 src, .int .i64 dst, .int .i64 (1 + (a : Int)), .int .i64 cm, .int .i64 bin] 81)) 47 [.int .i64 0, .int .i64 0, .int .i64 0, .int .i64 0, .int .i64 0, .int .i64 0, .int .i64 0, .int .i64 0, .bool false, .slice none 0 0]
    rw [show ((w.alloc (.cells #[.int .i64 floor, .int .i64 term, .int .i64 vote, .slice A n c] 45)).alloc (.cells #[.int .i64 src, .int .i64 dst, .int .i64 (1 + (a : Int)), .int .i64 cm, .int .i64 bin] 81)).heap.size = w.heap.size + 2 by simp] at h0
    exact h0
  have xw : Ext w (((w.alloc (.cells #[.int .i64 floor, .int .i64 term, .int .i64 vote, .slice A n c] 45)).alloc (.cells #[.int .i64 src, .int .i64 dst, .int .i64 (1 + (a : Int)), .int .i64 cm, .int .i64 bin] 81)).alloc (.cells #[.int .i64 0, .int .i64 0, .int .i64 0, .int .i64 0, .int .i64 0, .int .i64 0, .int .i64 0, .int .i64 0, .bool false, .slice none 0 0] 47)) := (((Ext.refl w).alloc _).alloc _).alloc _
  have hes := hs.es.ext xw
  have hlen := hs.es.len
  have h0 : I64 term := hs.u1
  have hnc : n ≤ c := hs.le
  unfold SV.val
  dsimp only
  have HC : Hid (∀ V, Ext (((w.alloc (.cells #[.int .i64 floor, .int .i64 term, .int .i64 vote, .slice A n c] 45)).alloc (.cells #[.int .i64 src, .int .i64 dst, .int .i64 (1 + (a : Int)), .int .i64 cm, .int .i64 bin] 81)).alloc (.cells #[.int .i64 0, .int .i64 0, .int .i64 0, .int .i64 0, .int .i64 0, .int .i64 0, .int .i64 0, .int .i64 0, .bool false, .slice none 0 0] 47)) V → V.cell? ⟨w.heap.size, 0, none⟩ = some (.int .i64 floor) ∧ V.cell? ⟨w.heap.size, 1, none⟩ = some (.int .i64 term) ∧ V.cell? ⟨w.heap.size, 2, none⟩ = some (.int .i64 vote) ∧ V.cell? ⟨w.heap.size, 3, none⟩ = some (.slice A n c) ∧ V.cell? ⟨w.heap.size + 1, 0, none⟩ = some (.int .i64 src) ∧ V.cell? ⟨w.heap.size + 1, 1, none⟩ = some (.int .i64 dst) ∧ V.cell? ⟨w.heap.size + 1, 2, none⟩ = some (.int .i64 (1 + (a : Int))) ∧ V.cell? ⟨w.heap.size + 1, 3, none⟩ = some (.int .i64 cm) ∧ V.cell? ⟨w.heap.size + 1, 4, none⟩ = some (.int .i64 bin)) := Lib.hid (fun V y => ⟨(hbs.ext y).cell 0, (hbs.ext y).cell 1, (hbs.ext y).cell 2, (hbs.ext y).cell 3, (hbr.ext y).cell 0, (hbr.ext y).cell 1, (hbr.ext y).cell 2, (hbr.ext y).cell 3, (hbr.ext y).cell 4⟩)
  have HZ : Hid (∀ V, Ext (((w.alloc (.cells #[.int .i64 floor, .int .i64 term, .int .i64 vote, .slice A n c] 45)).alloc (.cells #[.int .i64 src, .int .i64 dst, .int .i64 (1 + (a : Int)), .int .i64 cm, .int .i64 bin] 81)).alloc (.cells #[.int .i64 0, .int .i64 0, .int .i64 0, .int .i64 0, .int .i64 0, .int .i64 0, .int .i64 0, .int .i64 0, .bool false, .slice none 0 0] 47)) V → Blk V (w.heap.size + 2) 47 [.int .i64 0, .int .i64 0, .int .i64 0, .int .i64 0, .int .i64 0, .int .i64 0, .int .i64 0, .int .i64 0, .bool false, .slice none 0 0]) := Lib.hid (fun V y => hbz.ext y)
  obtain ⟨s0, s1, s2, s3, r0, r1, r2, r3, r4⟩ := HC.out _ (Ext.refl _)
  have PT := Lib.hid (fun V (y : Ext (((w.alloc (.cells #[.int .i64 floor, .int .i64 term, .int .i64 vote, .slice A n c] 45)).alloc (.cells #[.int .i64 src, .int .i64 dst, .int .i64 (1 + (a : Int)), .int .i64 cm, .int .i64 bin] 81)).alloc (.cells #[.int .i64 0, .int .i64 0, .int .i64 0, .int .i64 0, .int .i64 0, .int .i64 0, .int .i64 0, .int .i64 0, .bool false, .slice none 0 0] 47)) V) => logs_Term A n c l a V (hes.ext y) hn)
  have PB : Hid (∀ V, Ext (((w.alloc (.cells #[.int .i64 floor, .int .i64 term, .int .i64 vote, .slice A n c] 45)).alloc (.cells #[.int .i64 src, .int .i64 dst, .int .i64 (1 + (a : Int)), .int .i64 cm, .int .i64 bin] 81)).alloc (.cells #[.int .i64 0, .int .i64 0, .int .i64 0, .int .i64 0, .int .i64 0, .int .i64 0, .int .i64 0, .int .i64 0, .bool false, .slice none 0 0] 47)) V → Calls Try.prog 22 #[.slice A n c, .int .i64 a, .int .i64 4] V fun e w' => ∃ v, e = .returned v ∧ w'.ownsRow ((((w.alloc (.cells #[.int .i64 floor, .int .i64 term, .int .i64 vote, .slice A n c] 45)).alloc (.cells #[.int .i64 src, .int .i64 dst, .int .i64 (1 + (a : Int)), .int .i64 cm, .int .i64 bin] 81)).alloc (.cells #[.int .i64 0, .int .i64 0, .int .i64 0, .int .i64 0, .int .i64 0, .int .i64 0, .int .i64 0, .int .i64 0, .bool false, .slice none 0 0] 47))).heap.size 36 2 v (behB l a 4).length (logOf (behB l a 4)) ∧ Ext (((w.alloc (.cells #[.int .i64 floor, .int .i64 term, .int .i64 vote, .slice A n c] 45)).alloc (.cells #[.int .i64 src, .int .i64 dst, .int .i64 (1 + (a : Int)), .int .i64 cm, .int .i64 bin] 81)).alloc (.cells #[.int .i64 0, .int .i64 0, .int .i64 0, .int .i64 0, .int .i64 0, .int .i64 0, .int .i64 0, .int .i64 0, .bool false, .slice none 0 0] 47)) w' ∧ Ext V w' ∧ w'.ownsRow V.heap.size 36 2 v (behB l a 4).length (logOf (behB l a 4))) := Lib.hid (fun V y => (logs_Behind A n c l a 4 V (hes.ext y) hn hnc).mono (fun e w' h => by
    obtain ⟨v, he, ho, hx⟩ := h
    exact ⟨v, he, own_base ho y.size, y.trans hx, hx, ho⟩))
  have d1 := dec_f (show ¬ 1 + (a : Int) < 1 by omega)
  have d2 := dec_f (show ¬ (n : Int) + 1 < 1 + (a : Int) by omega)
  have d2b := dec_f (show ¬ n + 1 < 1 + a by omega)
  have e1 : IntKind.i64.wrap ((n : Int) + 1) = (n : Int) + 1 := IntWalk.i64_in _ (by omega)
  have e2 : IntKind.i64.wrap (1 + (a : Int) - 1) = (a : Int) := by rw [show 1 + (a : Int) - 1 = a by omega]; exact IntWalk.i64_in _ (by omega)
  have hbl : (behB l a 4).length ≤ 1000 := by
    unfold behB
    split
    · simp
    · rw [List.length_take]; omega
  have hbo : ∀ f ∈ behB l a 4, f.Ok (((w.alloc (.cells #[.int .i64 floor, .int .i64 term, .int .i64 vote, .slice A n c] 45)).alloc (.cells #[.int .i64 src, .int .i64 dst, .int .i64 (1 + (a : Int)), .int .i64 cm, .int .i64 bin] 81)).alloc (.cells #[.int .i64 0, .int .i64 0, .int .i64 0, .int .i64 0, .int .i64 0, .int .i64 0, .int .i64 0, .int .i64 0, .bool false, .slice none 0 0] 47)) := fun f hf => hes.ok f (behB_mem2 l a 4 f hf)
  have HBO := Lib.hid hbo
  have HM : Hid (∀ A2 c2, mayB ⟨3, src, dst, term, a, termB l a, cm, bin, false, A2, (behB l a 4).length, c2, behB l a 4⟩ = mayB (makeY ⟨floor, term, vote, A, n, c, l⟩ src dst a cm bin none 0)) := Lib.hid (fun _ _ => rfl)
  have HMK : Hid (∀ A2 c2, (makeY ⟨floor, term, vote, A, n, c, l⟩ src dst a cm bin A2 c2).val = .agg #[.int .i64 3, .int .i64 src, .int .i64 dst, .int .i64 term, .int .i64 a, .int .i64 (termB l a), .int .i64 cm, .int .i64 bin, .bool false, .slice A2 (behB l a 4).length c2]) := Lib.hid (fun _ _ => rfl)
  clear hbs hbr hbz hs hes hbo hlen
  go_enter Try.func56, Try.ntmps56
  go_upto_region 4 with fail
  clear d1 d2 d2b e1 e2
  have xws := xw.size
  generalize (((w.alloc (.cells #[.int .i64 floor, .int .i64 term, .int .i64 vote, .slice A n c] 45)).alloc (.cells #[.int .i64 src, .int .i64 dst, .int .i64 (1 + (a : Int)), .int .i64 cm, .int .i64 bin] 81)).alloc (.cells #[.int .i64 0, .int .i64 0, .int .i64 0, .int .i64 0, .int .i64 0, .int .i64 0, .int .i64 0, .int .i64 0, .bool false, .slice none 0 0] 47)) = w0 at *
  go_cut [7] (fun v wx => ∃ (g : Nat) (A2 : Option Addr) (c2 : Nat), v = .pointer (some ⟨g, 0, none⟩) ∧ Blk wx g 47 [.int .i64 3, .int .i64 src, .int .i64 dst, .int .i64 term, .int .i64 a, .int .i64 (termB l a), .int .i64 cm, .int .i64 bin, .bool false, .slice A2 (behB l a 4).length c2] ∧ wx.ownsRow w0.heap.size 36 2 (.slice A2 (behB l a 4).length c2) (behB l a 4).length (logOf (behB l a 4)) ∧ (behB l a 4).length ≤ c2 ∧ c2 ≤ maxLen ∧ Ext w0 wx)
  case first =>
    go_region_held3 (fun V => V.cell? ⟨w.heap.size, 0, none⟩ = some (.int .i64 floor) ∧ V.cell? ⟨w.heap.size, 1, none⟩ = some (.int .i64 term) ∧ V.cell? ⟨w.heap.size, 2, none⟩ = some (.int .i64 vote) ∧ V.cell? ⟨w.heap.size, 3, none⟩ = some (.slice A n c) ∧ V.cell? ⟨w.heap.size + 1, 0, none⟩ = some (.int .i64 src) ∧ V.cell? ⟨w.heap.size + 1, 1, none⟩ = some (.int .i64 dst) ∧ V.cell? ⟨w.heap.size + 1, 2, none⟩ = some (.int .i64 (1 + (a : Int))) ∧ V.cell? ⟨w.heap.size + 1, 3, none⟩ = some (.int .i64 cm) ∧ V.cell? ⟨w.heap.size + 1, 4, none⟩ = some (.int .i64 bin))
      (first | (exact HC.out _ (by repeat (first | with_reducible exact y3 | with_reducible exact Ext.refl _ | with_reducible refine Ext.drew ?_ | with_reducible refine Ext.alloc ?_ _ | with_reducible refine Ext.setCell ?_ (by simp) _))) | (exact HC.out _ (by repeat (first | with_reducible exact Ext.refl _ | with_reducible refine Ext.drew ?_ | with_reducible refine Ext.alloc ?_ _ | with_reducible refine Ext.setCell ?_ (by simp) _))) | go_keep)
      (first | (go_at_call 25; refine (PT.out _ (by repeat (first | with_reducible exact Ext.refl _ | with_reducible refine Ext.drew ?_ | with_reducible refine Ext.alloc ?_ _ | with_reducible refine Ext.setCell ?_ (by simp) _))).mono ?_; rintro e V ⟨rfl, rfl⟩) | (go_at_call 22; refine (PB.out _ (by repeat (first | with_reducible exact Ext.refl _ | with_reducible refine Ext.drew ?_ | with_reducible refine Ext.alloc ?_ _ | with_reducible refine Ext.setCell ?_ (by simp) _))).mono ?_; rintro e w3 ⟨v3, rfl, hown3, y3, hx3, hown3V⟩; obtain ⟨A2, c2, rfl, hc2, hcm2⟩ := own_form17 hown3; try (have hy3 : Blk w3 w0.heap.size 47 [.int .i64 0, .int .i64 0, .int .i64 0, .int .i64 0, .int .i64 0, .int .i64 0, .int .i64 0, .int .i64 0, .bool false, .slice none 0 0] := (by with_reducible exact (Blk.new w0 47 [.int .i64 0, .int .i64 0, .int .i64 0, .int .i64 0, .int .i64 0, .int .i64 0, .int .i64 0, .int .i64 0, .bool false, .slice none 0 0]).ext (((Ext.refl _).drew).trans hx3)); have k0 := hy3.cell 0; have k1 := hy3.cell 1; have k2 := hy3.cell 2; have k3 := hy3.cell 3; have k4 := hy3.cell 4; have k5 := hy3.cell 5; have k6 := hy3.cell 6; have k7 := hy3.cell 7; have k8 := hy3.cell 8; have k9 := hy3.cell 9; simp only [List.getElem?_cons_zero, List.getElem?_cons_succ] at k0 k1 k2 k3 k4 k5 k6 k7 k8 k9; have g0 := hy3.frozen 0; have g1 := hy3.frozen 1; have g2 := hy3.frozen 2; have g3 := hy3.frozen 3; have g4 := hy3.frozen 4; have g5 := hy3.frozen 5; have g6 := hy3.frozen 6; have g7 := hy3.frozen 7; have g8 := hy3.frozen 8; have g9 := hy3.frozen 9)))
    all_goals
      go_wp2_with fail
      go_meet
      first
        | (have hlt : w0.heap.size < (w0.alloc (.cells #[.int .i64 0, .int .i64 0, .int .i64 0, .int .i64 0, .int .i64 0, .int .i64 0, .int .i64 0, .int .i64 0, .bool false, .slice none 0 0] 47)).drew.heap.size := lt_drew_alloc w0 _
           have hb := ((((((((((hy3.set_ 0 (.int .i64 3)).set_ 1 (.int .i64 src)).set_ 2 (.int .i64 dst)).set_ 3 (.int .i64 term)).set_ 4 (.int .i64 a)).set_ 5 (.int .i64 (termB l a))).set_ 6 (.int .i64 cm)).set_ 7 (.int .i64 bin)).set_ 8 (.bool false)).set_ 9 (.slice A2 (behB l a 4).length c2))
           simp only [List.set_cons_succ, List.set_cons_zero] at hb
           exact ⟨w0.heap.size, A2, c2, rfl, hb, own_base (own_set (own_set (own_set (own_set (own_set (own_set (own_set (own_set (own_set (own_set hown3V (p := ⟨w0.heap.size, 0, none⟩) hlt (.int .i64 3)) (p := ⟨w0.heap.size, 1, none⟩) hlt (.int .i64 src)) (p := ⟨w0.heap.size, 2, none⟩) hlt (.int .i64 dst)) (p := ⟨w0.heap.size, 3, none⟩) hlt (.int .i64 term)) (p := ⟨w0.heap.size, 4, none⟩) hlt (.int .i64 a)) (p := ⟨w0.heap.size, 5, none⟩) hlt (.int .i64 (termB l a))) (p := ⟨w0.heap.size, 6, none⟩) hlt (.int .i64 cm)) (p := ⟨w0.heap.size, 7, none⟩) hlt (.int .i64 bin)) (p := ⟨w0.heap.size, 8, none⟩) hlt (.bool false)) (p := ⟨w0.heap.size, 9, none⟩) hlt (.slice A2 (behB l a 4).length c2)) (Nat.le_of_lt hlt), hc2, hcm2, ((((((((((y3.setCell (p := ⟨w0.heap.size, 0, none⟩) (Nat.le_refl _) (.int .i64 3)).setCell (p := ⟨w0.heap.size, 1, none⟩) (Nat.le_refl _) (.int .i64 src)).setCell (p := ⟨w0.heap.size, 2, none⟩) (Nat.le_refl _) (.int .i64 dst)).setCell (p := ⟨w0.heap.size, 3, none⟩) (Nat.le_refl _) (.int .i64 term)).setCell (p := ⟨w0.heap.size, 4, none⟩) (Nat.le_refl _) (.int .i64 a)).setCell (p := ⟨w0.heap.size, 5, none⟩) (Nat.le_refl _) (.int .i64 (termB l a))).setCell (p := ⟨w0.heap.size, 6, none⟩) (Nat.le_refl _) (.int .i64 cm)).setCell (p := ⟨w0.heap.size, 7, none⟩) (Nat.le_refl _) (.int .i64 bin)).setCell (p := ⟨w0.heap.size, 8, none⟩) (Nat.le_refl _) (.bool false)).setCell (p := ⟨w0.heap.size, 9, none⟩) (Nat.le_refl _) (.slice A2 (behB l a 4).length c2))⟩)
        | (exact ⟨w3.heap.size, A2, c2, rfl, Blk.new w3 47 [.int .i64 3, .int .i64 src, .int .i64 dst, .int .i64 term, .int .i64 a, .int .i64 (termB l a), .int .i64 cm, .int .i64 bin, .bool false, .slice A2 (behB l a 4).length c2], hown3.alloc _, hc2, hcm2, y3.alloc _⟩)
  case rest =>
    obtain ⟨g, A2, c2, rfl, hby, hown, hc2, hcm2, y3⟩ := hcut
    have hok : (⟨3, src, dst, term, a, termB l a, cm, bin, false, A2, (behB l a 4).length, c2, behB l a 4⟩ : LV).Ok wc := ⟨Es.of_own hown (fun f hf => (HBO.out f hf).ext y3), hc2, hcm2, (⟨by omega, by omega⟩ : I64 3), u1, u2, h0, (⟨by omega, by omega⟩ : I64 (a : Int)), u5, u3, u4⟩
    have PM := Lib.hid (letter_May _ wc hok (Nat.le_trans hbl (by decide)))
    unfold LV.val at PM
    dsimp only at PM
    have hlz := (HZ.out _ (Ext.refl _)).lt
    have hm := HM.out A2 c2
    have x0 := hby.cell 0
    have x1 := hby.cell 1
    have x2 := hby.cell 2
    have x3 := hby.cell 3
    have x4 := hby.cell 4
    have x5 := hby.cell 5
    have x6 := hby.cell 6
    have x7 := hby.cell 7
    have x8 := hby.cell 8
    have x9 := hby.cell 9
    simp only [List.getElem?_cons_zero, List.getElem?_cons_succ] at x0 x1 x2 x3 x4 x5 x6 x7 x8 x9
    rcases hmay : mayB (makeY ⟨floor, term, vote, A, n, c, l⟩ src dst a cm bin none 0) with _ | _
    · rw [hmay] at hm
      rw [mayR_f hm] at PM
      clear hm hok
      go_wp2_with fail
      refine PM.out.mono ?_
      rintro e w5 ⟨rfl, y5'⟩
      have y5 := y3.trans y5'
      clear PM x0 x1 x2 x3 x4 x5 x6 x7 x8 x9 hby
      have hz := HZ.out _ y5
      have z0 := hz.cell 0
      have z1 := hz.cell 1
      have z2 := hz.cell 2
      have z3 := hz.cell 3
      have z4 := hz.cell 4
      have z5 := hz.cell 5
      have z6 := hz.cell 6
      have z7 := hz.cell 7
      have z8 := hz.cell 8
      have z9 := hz.cell 9
      simp only [List.getElem?_cons_zero, List.getElem?_cons_succ] at z0 z1 z2 z3 z4 z5 z6 z7 z8 z9
      have f0 := hz.frozen 0
      have f1 := hz.frozen 1
      have f2 := hz.frozen 2
      have f3 := hz.frozen 3
      have f4 := hz.frozen 4
      have f5 := hz.frozen 5
      have f6 := hz.frozen 6
      have f7 := hz.frozen 7
      have f8 := hz.frozen 8
      have f9 := hz.frozen 9
      go_wp2
      refine bodyPost_ret (v := .tuple #[.agg #[.int .i64 0, .int .i64 0, .int .i64 0, .int .i64 0, .int .i64 0, .int .i64 0, .int .i64 0, .int .i64 0, .bool false, .slice none 0 0], .int .i64 1]) (by simp [results, Try.results56, go_sem, z0, z1, z2, z3, z4, z5, z6, z7, z8, z9]) rfl ?_
      exact ⟨.inr ⟨hmay, rfl⟩, (((((((((((xw.trans y5).setCell (p := ⟨w.heap.size + 2, 0, none⟩) (Nat.le_add_right _ 2) (.int .i64 0)).setCell (p := ⟨w.heap.size + 2, 1, none⟩) (Nat.le_add_right _ 2) (.int .i64 0)).setCell (p := ⟨w.heap.size + 2, 2, none⟩) (Nat.le_add_right _ 2) (.int .i64 0)).setCell (p := ⟨w.heap.size + 2, 3, none⟩) (Nat.le_add_right _ 2) (.int .i64 0)).setCell (p := ⟨w.heap.size + 2, 4, none⟩) (Nat.le_add_right _ 2) (.int .i64 0)).setCell (p := ⟨w.heap.size + 2, 5, none⟩) (Nat.le_add_right _ 2) (.int .i64 0)).setCell (p := ⟨w.heap.size + 2, 6, none⟩) (Nat.le_add_right _ 2) (.int .i64 0)).setCell (p := ⟨w.heap.size + 2, 7, none⟩) (Nat.le_add_right _ 2) (.int .i64 0)).setCell (p := ⟨w.heap.size + 2, 8, none⟩) (Nat.le_add_right _ 2) (.bool false)).setCell (p := ⟨w.heap.size + 2, 9, none⟩) (Nat.le_add_right _ 2) (.slice none 0 0))⟩
    · rw [hmay] at hm
      rw [mayR_t hm] at PM
      clear hm hok
      go_wp2_with fail
      refine PM.out.mono ?_
      rintro e w5 ⟨rfl, y5'⟩
      have y5 := y3.trans y5'
      clear PM x0 x1 x2 x3 x4 x5 x6 x7 x8 x9
      have hby5 := hby.ext y5'
      have hz := HZ.out _ y5
      have x0 := hby5.cell 0
      have x1 := hby5.cell 1
      have x2 := hby5.cell 2
      have x3 := hby5.cell 3
      have x4 := hby5.cell 4
      have x5 := hby5.cell 5
      have x6 := hby5.cell 6
      have x7 := hby5.cell 7
      have x8 := hby5.cell 8
      have x9 := hby5.cell 9
      simp only [List.getElem?_cons_zero, List.getElem?_cons_succ] at x0 x1 x2 x3 x4 x5 x6 x7 x8 x9
      have z0 := hz.cell 0
      have z1 := hz.cell 1
      have z2 := hz.cell 2
      have z3 := hz.cell 3
      have z4 := hz.cell 4
      have z5 := hz.cell 5
      have z6 := hz.cell 6
      have z7 := hz.cell 7
      have z8 := hz.cell 8
      have z9 := hz.cell 9
      simp only [List.getElem?_cons_zero, List.getElem?_cons_succ] at z0 z1 z2 z3 z4 z5 z6 z7 z8 z9
      have f0 := hz.frozen 0
      have f1 := hz.frozen 1
      have f2 := hz.frozen 2
      have f3 := hz.frozen 3
      have f4 := hz.frozen 4
      have f5 := hz.frozen 5
      have f6 := hz.frozen 6
      have f7 := hz.frozen 7
      have f8 := hz.frozen 8
      have f9 := hz.frozen 9
      go_wp2
      refine bodyPost_ret (v := .tuple #[.agg #[.int .i64 3, .int .i64 src, .int .i64 dst, .int .i64 term, .int .i64 a, .int .i64 (termB l a), .int .i64 cm, .int .i64 bin, .bool false, .slice A2 (behB l a 4).length c2], .int .i64 0]) (by simp [results, Try.results56, go_sem, z0, z1, z2, z3, z4, z5, z6, z7, z8, z9]) rfl ?_
      exact ⟨.inl ⟨hmay, A2, c2, by rw [HMK.out], own_base (own_set (own_set (own_set (own_set (own_set (own_set (own_set (own_set (own_set (own_set (own_ext hown y5') (p := ⟨w.heap.size + 2, 0, none⟩) hlz (.int .i64 3)) (p := ⟨w.heap.size + 2, 1, none⟩) hlz (.int .i64 src)) (p := ⟨w.heap.size + 2, 2, none⟩) hlz (.int .i64 dst)) (p := ⟨w.heap.size + 2, 3, none⟩) hlz (.int .i64 term)) (p := ⟨w.heap.size + 2, 4, none⟩) hlz (.int .i64 a)) (p := ⟨w.heap.size + 2, 5, none⟩) hlz (.int .i64 (termB l a))) (p := ⟨w.heap.size + 2, 6, none⟩) hlz (.int .i64 cm)) (p := ⟨w.heap.size + 2, 7, none⟩) hlz (.int .i64 bin)) (p := ⟨w.heap.size + 2, 8, none⟩) hlz (.bool false)) (p := ⟨w.heap.size + 2, 9, none⟩) hlz (.slice A2 (behB l a 4).length c2)) xws⟩, (((((((((((xw.trans y5).setCell (p := ⟨w.heap.size + 2, 0, none⟩) (Nat.le_add_right _ 2) (.int .i64 3)).setCell (p := ⟨w.heap.size + 2, 1, none⟩) (Nat.le_add_right _ 2) (.int .i64 src)).setCell (p := ⟨w.heap.size + 2, 2, none⟩) (Nat.le_add_right _ 2) (.int .i64 dst)).setCell (p := ⟨w.heap.size + 2, 3, none⟩) (Nat.le_add_right _ 2) (.int .i64 term)).setCell (p := ⟨w.heap.size + 2, 4, none⟩) (Nat.le_add_right _ 2) (.int .i64 a)).setCell (p := ⟨w.heap.size + 2, 5, none⟩) (Nat.le_add_right _ 2) (.int .i64 (termB l a))).setCell (p := ⟨w.heap.size + 2, 6, none⟩) (Nat.le_add_right _ 2) (.int .i64 cm)).setCell (p := ⟨w.heap.size + 2, 7, none⟩) (Nat.le_add_right _ 2) (.int .i64 bin)).setCell (p := ⟨w.heap.size + 2, 8, none⟩) (Nat.le_add_right _ 2) (.bool false)).setCell (p := ⟨w.heap.size + 2, 9, none⟩) (Nat.le_add_right _ 2) (.slice A2 (behB l a 4).length c2))⟩
end Go.Proofs.Ytcdnjhcddbkciaa
