/- coracleref15.Step at an entry. (Printed by wip/tools/stepent.py.) -/
import Derived.Test.YtcdnjhcddbkciaaSpM
import Derived.Test.YtcdnjhcddbkciaaSpB
import Derived.Test.YtcdnjhcddbkciaaApp
import Derived.Test.YtcdnjhcddbkciaaElF
import Derived.Test.YtcdnjhcddbkciaaRgT
namespace Go.Proofs.Ytcdnjhcddbkciaa
open Go.RowKit

theorem stepBlk {w1 w3 : World} {ty te : TypeId} {v : Value} {n : Nat} {xs : List Value} {x0 x1 x2 x3 : Value}
    (hg : ((w1.alloc (.cells #[x0, x1, x2, x3] ty)).alloc (.cells #[] te)).grownBy w3 v.ownBlock) (hemp : ((w1.alloc (.cells #[x0, x1, x2, x3] ty)).alloc (.cells #[] te)).ownsRow (w1.heap.size + 1) te 2 v n xs) : Blk w3 w1.heap.size ty [x0, x1, x2, x3] := by
  have hb : Below (w1.heap.size + 1) ((w1.alloc (.cells #[x0, x1, x2, x3] ty)).alloc (.cells #[] te)) w3 := Below.app (Below.refl _ _) hg (by simp) hemp (Nat.le_refl _)
  have h0 := (Blk.new w1 ty [x0, x1, x2, x3]).alloc (.cells #[] te)
  exact (hb.block w1.heap.size (by omega)).trans h0
theorem own_grownS {w w' : World} {base : Nat} {e : TypeId} {size n : Nat} {v : Value} {xs : List Value} {row : Option Nat} (h : w.ownsRow base e size v n xs) (hg : w.grownBy w' row) (hr : v.ownBlock = none ∨ v.ownBlock ≠ row) : w'.ownsRow base e size v n xs := by
  refine ⟨h.1, ?_⟩
  rcases h.2 with hn | ⟨g, cap, cur, rfl, hb, hgg, rest⟩
  · exact .inl hn
  · refine .inr ⟨g, cap, cur, rfl, hb, ?_, rest⟩
    rw [hg.block g (Array.getElem?_eq_some_iff.1 hgg).1 (by rcases hr with hr | hr <;> simp [Value.ownBlock] at hr ⊢; exact hr)]
    exact hgg
theorem blk_neS {w : World} {B : Nat} {e t : TypeId} {s n g : Nat} {v : Value} {xs l : List Value} (h : w.ownsRow B e s v n xs) (hb : Blk w g t l) (hne : e ≠ t) : v.ownBlock ≠ some g := by
  rcases h.2 with ⟨rfl, _⟩ | ⟨g', cap, cur, rfl, _, hg, _⟩
  · simp [Value.ownBlock]
  · intro e2
    simp only [Value.ownBlock, Option.some.injEq] at e2
    subst e2
    unfold Blk at hb
    rw [hb] at hg
    injection hg with hg
    injection hg with _ ht
    exact hne ht.symm

set_option maxRecDepth 100000 in
set_option maxHeartbeats 3200000 in
theorem ref15_Step_entry (floor term vote : Int) (A : Option Addr) (n c : Nat) (l : List EV) (u : Nat) (X : Option Addr) (len cap : Nat) (x : List UInt8) (w : World) (hes : Es w A n l) (hn : n ≤ 1000)
    (h64 : n + 1 ≤ 64) (hu : u ≤ 1048576) (hX : Bs w X len x) (hl : len ≤ 200) :
    Calls Try.prog 49 #[.agg #[.int .i64 floor, .int .i64 term, .int .i64 vote, .slice A n c], .agg #[.int .i64 3, .int .i64 ((n + 1 : Nat) : Int), .int .i64 u, .slice X len cap]] w fun e w' =>
      ∃ (A' : Option Addr) (c' : Nat) (X' : Option Addr) (q' : Nat), e = .returned (.tuple #[.agg #[.int .i64 floor, .int .i64 term, .int .i64 vote, .slice A' (n + 1) c'], .int .i64 0]) ∧ w'.ownsRow w.heap.size 36 2 (.slice A' (n + 1) c') (n + 1) (logOf (l ++ [⟨u, X', len, q', x⟩])) ∧ w'.ownsRow w.heap.size 5 1 (.slice X' len q') len (x.map bv) ∧ Ext w w' := by
  have HP := Lib.hid (fun (V : World) (h : Ext w V) => ref15_Put_entry (n + 1) u X len cap x V (by omega) (by omega) hu (hX.ext h) hl)
  have hrd := hes.rd
  have hlen := hes.len
  have HX := Lib.hid hX
  clear hes hX
  have hB0 : Blk (((w.alloc (.cells #[.int .i64 floor, .int .i64 term, .int .i64 vote, .slice A n c] 45)).alloc (.cells #[.int .i64 3, .int .i64 ((n + 1 : Nat) : Int), .int .i64 u, .slice X len cap] 70)).alloc (.cells #[.int .i64 0, .int .i64 0, .int .i64 0, .slice none 0 0] 45)) w.heap.size 45 [.int .i64 floor, .int .i64 term, .int .i64 vote, .slice A n c] := ((Blk.new w _ [.int .i64 floor, .int .i64 term, .int .i64 vote, .slice A n c]).alloc _).alloc _
  have hB1 : Blk (((w.alloc (.cells #[.int .i64 floor, .int .i64 term, .int .i64 vote, .slice A n c] 45)).alloc (.cells #[.int .i64 3, .int .i64 ((n + 1 : Nat) : Int), .int .i64 u, .slice X len cap] 70)).alloc (.cells #[.int .i64 0, .int .i64 0, .int .i64 0, .slice none 0 0] 45)) (w.heap.size + 1) 70 [.int .i64 3, .int .i64 ((n + 1 : Nat) : Int), .int .i64 u, .slice X len cap] := by
    have h0 := (Blk.new (w.alloc (.cells #[.int .i64 floor, .int .i64 term, .int .i64 vote, .slice A n c] 45)) 70 [.int .i64 3, .int .i64 ((n + 1 : Nat) : Int), .int .i64 u, .slice X len cap]).alloc (.cells #[.int .i64 0, .int .i64 0, .int .i64 0, .slice none 0 0] 45)
    simpa using h0
  have hB2 : Blk (((w.alloc (.cells #[.int .i64 floor, .int .i64 term, .int .i64 vote, .slice A n c] 45)).alloc (.cells #[.int .i64 3, .int .i64 ((n + 1 : Nat) : Int), .int .i64 u, .slice X len cap] 70)).alloc (.cells #[.int .i64 0, .int .i64 0, .int .i64 0, .slice none 0 0] 45)) (w.heap.size + 1 + 1) 45 [.int .i64 0, .int .i64 0, .int .i64 0, .slice none 0 0] := by
    have h0 := Blk.new ((w.alloc (.cells #[.int .i64 floor, .int .i64 term, .int .i64 vote, .slice A n c] 45)).alloc (.cells #[.int .i64 3, .int .i64 ((n + 1 : Nat) : Int), .int .i64 u, .slice X len cap] 70)) 45 [.int .i64 0, .int .i64 0, .int .i64 0, .slice none 0 0]
    rw [show ((w.alloc (.cells #[.int .i64 floor, .int .i64 term, .int .i64 vote, .slice A n c] 45)).alloc (.cells #[.int .i64 3, .int .i64 ((n + 1 : Nat) : Int), .int .i64 u, .slice X len cap] 70)).heap.size = w.heap.size + 1 + 1 by simp] at h0
    exact h0
  have g1 : IntKind.i64.wrap ((n : Int) + 1) = ((n + 1 : Nat) : Int) := by rw [IntWalk.i64_in _ (by omega)]; omega
  have hxW : Ext w (((w.alloc (.cells #[.int .i64 floor, .int .i64 term, .int .i64 vote, .slice A n c] 45)).alloc (.cells #[.int .i64 3, .int .i64 ((n + 1 : Nat) : Int), .int .i64 u, .slice X len cap] 70)).alloc (.cells #[.int .i64 0, .int .i64 0, .int .i64 0, .slice none 0 0] 45)) := (((Ext.refl w).alloc _).alloc _).alloc _
  all_goals
    go_enter Try.func49, Try.ntmps49
    go_wp2_with fail
    refine (HP.out _ hxW).mono ?_
    rintro e w1 ⟨v1, rfl, x1⟩
    have B0 := hB0.ext x1
    have B1 := hB1.ext x1
    have a0 := B0.cell 0
    have a1 := B0.cell 1
    have a2 := B0.cell 2
    have a3 := B0.cell 3
    have r0 := B1.cell 0
    have r1 := B1.cell 1
    have r2 := B1.cell 2
    have r3 := B1.cell 3
    simp only [List.getElem?_cons_zero, List.getElem?_cons_succ] at a0 a1 a2 a3 r0 r1 r2 r3
    have HBR := Lib.hid B1
    clear B0 B1
    have B2 := hB2.ext x1
    have hx1 : Ext w w1 := (((Ext.refl w).alloc _).alloc _).alloc _ |>.trans x1
    have hz1 := x1.size
    simp at hz1
    have hlt0 : w.heap.size < w1.heap.size := by omega
    have hlt1 : w.heap.size + 1 < w1.heap.size := by omega
    have hlt2 : w.heap.size + 1 + 1 < w1.heap.size := by omega
    have hrd1 := hrd.ext hx1
    have hemp := blk_own (B := w1.heap.size + 1) (w1.alloc (.cells #[.int .i64 floor, .int .i64 term, .int .i64 vote, .slice A n c] 45)) #[] 36 2 0 rfl (by omega) (by simp) (w1.heap.size + 1) (by simp)
    have hrd2 := (hrd1.alloc (.cells #[.int .i64 floor, .int .i64 term, .int .i64 vote, .slice A n c] 45)).alloc (.cells #[] 36)
    clear hrd1 hrd
    go_wp2_with (at_builtin; refine wpList_app entsT (by omega) _ rfl rfl rfl hemp rfl hrd2 (logOf_cells _) (by unfold maxLen; omega) (by omega) (by simp) ?_; intro v3 w3 hown3 hg3 hat3; obtain ⟨A3, c3, rfl, hnc3⟩ := own_form hown3; simp only [List.nil_append, Nat.zero_add] at hown3 hg3; obtain ⟨s0, s1, s2, s3, t0, t1, t2, o0, o1, o2, o3, p0, p1, p2, p3, hl3, x3⟩ := stepCells hg3 a0 a1 a2 a3 r0 r1 r2 hlt0 hlt1 hemp; have t3 := x3.cell r3; have B3 := B2.ext x3; have BO : Blk w3 w1.heap.size 45 [.int .i64 floor, .int .i64 term, .int .i64 vote, .slice A n c] := stepBlk hg3 hemp; have hlt3 := B3.lt; clear B2; clear hg3 hat3 a0 a1 a2 a3 r0 r1 r2 r3 hemp hrd2)
    have hO4 := own_set hown3 (p := ⟨w1.heap.size, 3, none⟩) (by dsimp only; omega) (.slice A3 n c3)
    have BO4 := BO.set_ 3 (.slice A3 n c3)
    have B24 := B3.far (p := ⟨w1.heap.size, 3, none⟩) (by dsimp only; omega) (.slice A3 n c3)
    have BR4 := (HBR.out.ext x3).far (p := ⟨w1.heap.size, 3, none⟩) (by dsimp only; omega) (.slice A3 n c3)
    have x4 := (hx1.trans x3).setCell (p := ⟨w1.heap.size, 3, none⟩) (by dsimp only; omega) (.slice A3 n c3)
    have hz4 : w1.heap.size + 1 ≤ (w3.setCell ⟨w1.heap.size, 3, none⟩ (.slice A3 n c3)).heap.size := by have := BO.lt; simp [World.setCell]; omega
    simp only [List.set_cons_succ, List.set_cons_zero] at BO4
    clear hown3 BO B3 HBR x3 s0 s1 s2 s3 t0 t1 t2 t3 o0 o1 o2 o3 p0 p1 p2 p3 hl3 hlt3 x1
    generalize w3.setCell ⟨w1.heap.size, 3, none⟩ (.slice A3 n c3) = W4 at *
    have hsw : w.heap.size + 1 + 1 < w1.heap.size := hlt2
    generalize w1.heap.size = gO at *
    have HSX : Hid (∀ (V : World), Ext W4 V → (V.cell? ⟨gO, 3, none⟩ = some (.slice A3 n c3) ∧ V.cell? ⟨w.heap.size + 1, 2, none⟩ = some (.int .i64 u) ∧ V.cell? ⟨w.heap.size + 1, 3, none⟩ = some (.slice X len cap))) := Lib.hid fun V h => ⟨(BO4.ext h).cell 3, (BR4.ext h).cell 2, (BR4.ext h).cell 3⟩
    have E0 := Lib.hid (own_empty W4 5 1)
    have HX4 := Lib.hid (HX.out.ext x4)
    have HO4 := Lib.hid hO4
    have HBO4 := Lib.hid BO4
    have HB24 := Lib.hid B24
    have HBR4 := Lib.hid BR4
    have HX40 := Lib.hid x4
    have y0 := (Ext.refl W4).alloc (.cells #[] 5)
    have y0d := y0.drew
    obtain ⟨b0, b1, b2⟩ := HSX.out _ (Ext.refl W4)
    clear hO4 BO4 B24 BR4 x4 HX
    refine WT.start (z := 12) (n := 13) rfl (fun V => V.cell? ⟨gO, 3, none⟩ = some (.slice A3 n c3) ∧ V.cell? ⟨w.heap.size + 1, 2, none⟩ = some (.int .i64 u) ∧ V.cell? ⟨w.heap.size + 1, 3, none⟩ = some (.slice X len cap)) (by kernel_rfl) (HSX.out _ (Ext.refl W4).drew) ?_
    simp only [List.replicate]
    refine WT.take (i := 0) (v := ?_) rfl (by kernel_rfl) (by kernel_rfl) (by kernel_rfl) (by rfl) (by kernel_rfl) (fun _ _ _ h => h) (Or.inl ⟨by rfl, ?_⟩) ?_
    rotate_left
    · intro w hSw
      (try dsimp only at hSw)
      go_simp
      try with_reducible rfl
    try simp only [Act.put, List.setIfInBounds_toArray, List.set_cons_zero, List.set_cons_succ]
    refine WT.take (i := 1) (v := ?_) rfl (by kernel_rfl) (by kernel_rfl) (by kernel_rfl) (by rfl) (by kernel_rfl) (fun _ _ _ h => h) (Or.inl ⟨by rfl, ?_⟩) ?_
    rotate_left
    · intro w hSw
      (try dsimp only at hSw)
      go_simp
      try with_reducible rfl
    try simp only [Act.put, List.setIfInBounds_toArray, List.set_cons_zero, List.set_cons_succ]
    refine WT.take (i := 2) (v := ?_) rfl (by kernel_rfl) (by kernel_rfl) (by kernel_rfl) (by rfl) (by kernel_rfl) (fun _ _ _ h => h) (Or.inl ⟨by rfl, ?_⟩) ?_
    rotate_left
    · intro w hSw
      (try dsimp only at hSw)
      go_simp
      try with_reducible rfl
    try simp only [Act.put, List.setIfInBounds_toArray, List.set_cons_zero, List.set_cons_succ]
    refine WT.take (i := 3) (v := ?_) rfl (by kernel_rfl) (by kernel_rfl) (by kernel_rfl) (by rfl) (by kernel_rfl) (fun _ _ _ h => h) (Or.inl ⟨by rfl, ?_⟩) ?_
    rotate_left
    · intro w hSw
      (try dsimp only at hSw)
      go_simp
      try with_reducible rfl
    try simp only [Act.put, List.setIfInBounds_toArray, List.set_cons_zero, List.set_cons_succ]
    refine WT.take (i := 5) (v := ?_) rfl (by kernel_rfl) (by kernel_rfl) (by kernel_rfl) (by rfl) (by kernel_rfl) (fun _ _ _ h => h) (Or.inl ⟨by rfl, ?_⟩) ?_
    rotate_left
    · intro w hSw
      (try dsimp only at hSw)
      go_simp
      try with_reducible rfl
    try simp only [Act.put, List.setIfInBounds_toArray, List.set_cons_zero, List.set_cons_succ]
    refine WT.take (i := 6) (v := ?_) rfl (by kernel_rfl) (by kernel_rfl) (by kernel_rfl) (by rfl) (by kernel_rfl) (fun _ _ _ h => h) (Or.inl ⟨by rfl, ?_⟩) ?_
    rotate_left
    · intro w hSw
      (try dsimp only at hSw)
      go_simp
      try with_reducible rfl
    try simp only [Act.put, List.setIfInBounds_toArray, List.set_cons_zero, List.set_cons_succ]
    refine WT.ready (rs := [4]) (by kernel_rfl) (by simp) ?_
    refine RT.cons rfl (by rfl) (fun K hK => ?_) RT.nil
    go_simp
    refine hK.out _ _ (by exact HSX.out _ y0d) ?_
    clear hK K
    refine WT.ready (rs := [7]) (by kernel_rfl) (by simp) ?_
    refine RT.cons rfl (by rfl) (fun K hK => ?_) RT.nil
    refine step_app bytesT (by omega) _ rfl rfl (by simp [Act.eval]) E0.out.drew (by first | (simp [Act.eval]; rfl) | (simp [Act.eval]; done)) (HX4.out.ext y0d) (bvs_one _) (by unfold maxLen; omega) (by omega) (by simp) ?_
    intro v5 w5 hown5 hg5 hat5
    have y5 : Ext W4 w5 := Below.app y0d hg5 (by simp) E0.out.drew (Nat.le_refl _)
    have hr5 : w5.ownsRow W4.heap.size 5 1 v5 len (x.map bv) := own_to hown5 (Nat.le_refl _) (by omega) rfl
    obtain ⟨A5, c5, rfl, hc5⟩ := own_form hr5
    have hO5 := own_ext HO4.out y5
    have hsz5 := y5.size
    clear hown5 hg5 hat5
    refine hK.out _ _ (by exact HSX.out _ y5) ?_
    clear hK K
    try simp only [Act.put, List.setIfInBounds_toArray, List.set_cons_zero, List.set_cons_succ]
    refine WT.take (i := 8) (v := ?_) rfl (by kernel_rfl) (by kernel_rfl) (by kernel_rfl) (by rfl) (by kernel_rfl) (fun _ _ _ h => h) (Or.inl ⟨by rfl, ?_⟩) ?_
    rotate_left
    · intro w hSw
      (try dsimp only at hSw)
      go_simp
      try with_reducible rfl
    try simp only [Act.put, List.setIfInBounds_toArray, List.set_cons_zero, List.set_cons_succ]
    refine WT.ready (rs := [9]) (by kernel_rfl) (by simp) ?_
    refine RT.cons rfl (by rfl) (fun K hK => ?_) RT.nil
    go_simp
    refine hK.out _ _ (by exact HSX.out _ (y5.alloc _)) ?_
    clear hK K
    refine WT.ready (rs := [10]) (by kernel_rfl) (by simp) ?_
    refine RT.cons rfl (by rfl) (fun K hK => ?_) RT.nil
    refine step_app entsT (by omega) _ rfl rfl (by simp [Act.eval]) (hO5.alloc _) (by first | (simp [Act.eval]; rfl) | (simp [Act.eval]; done)) (rd_at2 _ (.int .i64 u) (.slice A5 len c5) _ _ rfl) (ecells_one _ _ _ _) (by unfold maxLen; omega) (by omega) (by simp; omega) ?_
    intro v6 w6 hown6 hg6 hat6
    obtain ⟨A6, c6, rfl, _⟩ := own_form hown6
    have hO5e := hO5.alloc (.cells #[.int .i64 u, .slice A5 len c5] 36)
    have BO6 := ((HBO4.out.ext y5).alloc (.cells #[.int .i64 u, .slice A5 len c5] 36)).grown hg6 (fun e => blk_neS hO5e ((HBO4.out.ext y5).alloc (.cells #[.int .i64 u, .slice A5 len c5] 36)) (by decide) e.symm)
    have B26 := ((HB24.out.ext y5).alloc (.cells #[.int .i64 u, .slice A5 len c5] 36)).grown hg6 (fun e => blk_neS hO5e ((HB24.out.ext y5).alloc (.cells #[.int .i64 u, .slice A5 len c5] 36)) (by decide) e.symm)
    have BR6 := ((HBR4.out.ext y5).alloc (.cells #[.int .i64 u, .slice A5 len c5] 36)).grown hg6 (fun e => blk_neS hO5e ((HBR4.out.ext y5).alloc (.cells #[.int .i64 u, .slice A5 len c5] 36)) (by decide) e.symm)
    have OB6 := own_grownS (hr5.alloc (.cells #[.int .i64 u, .slice A5 len c5] 36)) hg6 (apart_s (hr5.alloc (.cells #[.int .i64 u, .slice A5 len c5] 36)) hO5e (by decide))
    have x6 : Ext w w6 := Below.app ((HX40.out.trans y5).alloc (.cells #[.int .i64 u, .slice A5 len c5] 36)) hg6 (by simp; omega) hO5e (by omega)
    have d3 := BO6.cell 3
    have k3 := BO6.frozen 3
    simp only [List.getElem?_cons_zero, List.getElem?_cons_succ] at d3
    refine hK.out _ _ (by exact ⟨BO6.cell 3, BR6.cell 2, BR6.cell 3⟩) ?_
    clear hK K
    try simp only [Act.put, List.setIfInBounds_toArray, List.set_cons_zero, List.set_cons_succ]
    refine WT.take (i := 11) (v := ?_) rfl (by kernel_rfl) (by kernel_rfl) (by kernel_rfl) (by rfl) (by kernel_rfl) (fun _ _ _ h => h) (Or.inl ⟨by rfl, ?_⟩) ?_
    rotate_left
    · intro w hSw
      (try dsimp only at hSw)
      go_simp
      try with_reducible rfl
    try simp only [Act.put, List.setIfInBounds_toArray, List.set_cons_zero, List.set_cons_succ]
    refine WT.last rfl (by kernel_rfl) (by kernel_rfl) (fun K hK => ?_)
    go_simp
    refine hK.out _ _ ?_
    clear hK K
    have BO7 := BO6.set_ 3 (.slice A6 (n + 1) c6)
    have B27 := B26.far (p := ⟨gO, 3, none⟩) (by dsimp only; omega) (.slice A6 (n + 1) c6)
    have O7 := own_set hown6 (p := ⟨gO, 3, none⟩) (by dsimp only; omega) (.slice A6 (n + 1) c6)
    have OB7 := own_set OB6 (p := ⟨gO, 3, none⟩) (by dsimp only; omega) (.slice A6 (n + 1) c6)
    have x7 := x6.setCell (p := ⟨gO, 3, none⟩) (by dsimp only; omega) (.slice A6 (n + 1) c6)
    simp only [List.set_cons_succ, List.set_cons_zero] at BO7
    clear hO5e hown6 OB6 x6 d3 k3 BO6 B26 BR6 HBR4 hg6 hat6 hO5 hr5 y5 HO4 HBO4 HB24 HX40 HSX E0 HX4 y0 y0d b0 b1 b2
    generalize w6.setCell ⟨gO, 3, none⟩ (.slice A6 (n + 1) c6) = W7 at *
    have o0 := BO7.cell 0
    have o1 := BO7.cell 1
    have o2 := BO7.cell 2
    have o3 := BO7.cell 3
    have z0 := B27.cell 0
    have z1 := B27.cell 1
    have z2 := B27.cell 2
    have z3 := B27.cell 3
    have f0 := B27.frozen 0
    have f1 := B27.frozen 1
    have f2 := B27.frozen 2
    have f3 := B27.frozen 3
    simp only [List.getElem?_cons_zero, List.getElem?_cons_succ] at o0 o1 o2 o3 z0 z1 z2 z3
    have hl7 := B27.lt
    have HO7 := Lib.hid O7
    have HOB7 := Lib.hid OB7
    have HX7 := Lib.hid x7
    clear BO7 B27 O7 OB7 x7
    go_wp2_with fail
    refine bodyPost_ret (v := .tuple #[.agg #[.int .i64 floor, .int .i64 term, .int .i64 vote, .slice A6 (n + 1) c6], .int .i64 0]) (by simp [results, Try.results49, go_sem, z0, z1, z2, z3]) rfl ⟨A6, c6, A5, c5, rfl, ?_, ?_, ?_⟩
    · exact own_to (own_set4 HO7.out (g := w.heap.size + 1 + 1) (by omega) _ _ _ _) (by omega) rfl (by rw [logOf_append]; rfl)
    · exact own_to (own_set4 HOB7.out (g := w.heap.size + 1 + 1) (by omega) _ _ _ _) (by omega) rfl rfl
    · exact Ext.set4 HX7.out (by omega) _ _ _ _
end Go.Proofs.Ytcdnjhcddbkciaa
