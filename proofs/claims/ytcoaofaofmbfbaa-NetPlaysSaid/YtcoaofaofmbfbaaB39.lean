/- Words and walks that the last text of this claim stands on: RnF. No condition. -/
import Derived.Test.YtcoaofaofmbfbaaB36
import Derived.Test.YtcoaofaofmbfbaaB38
/- The walk of the document's net's Twice. -/
namespace Go.Proofs.Ytcoaofaofmbfbaa
open Go.RowKit

theorem own_emptyK (w : World) (e : TypeId) (size k : Nat) (hk : k = w.heap.size) : (w.alloc (.cells #[] e)).ownsRow w.heap.size e size (.slice (some ⟨k, 0, none⟩) 0 0) 0 [] := by subst hk; exact own_empty w e size
def RTwicePost (G : Nat → Bool) (g : Nat) (x : NetV) (i : Int) (w : World) (e : Ending) (w' : World) : Prop :=
  ∃ x' : NetV, e = .returned (.int .i64 (twiceC x.n i)) ∧ RNet w' G g x' ∧ x'.p = x.p.twice i ∧ Fr (fun k => k == g) w w'
set_option maxRecDepth 100000 in
set_option maxHeartbeats 20000000 in
theorem ref21_Twice (G : Nat → Bool) (g : Nat) (x : NetV) (i : Int) (w : World) (h : RNet w G g x) (hub : ∀ k, G k = true → k < w.heap.size) (hb1 : x.sent + 1 ≤ 1000000000) :
    Calls Try.prog 38 #[.pointer (some ⟨g, 0, none⟩), .int .i64 i] w (RTwicePost G g x i w) := by
  have HE : Hid (∀ (W : World) (e : Ending), RTwicePost G g x i w e W ↔ ∃ x' : NetV, e = .returned (.int .i64 (twiceC x.n i)) ∧ RNet W G g x' ∧ x'.p = x.p.twice i ∧ Fr (fun k => k == g) w W) := Lib.hid fun _ _ => Iff.rfl
  have hpl := h.len_p
  have hat := at_p h.len i
  have HN := Lib.hid h
  obtain ⟨d0, d1, _⟩ := h.cells
  rcases there_cases x.n i with ⟨h1, _, k, rfl, hk⟩ | ⟨h1, _⟩
  case inr =>
    have HC : Hid (twiceC x.n i = 1) := Lib.hid (by unfold twiceC; rw [if_pos h1])
    have HP : Hid (x.p.twice i = x.p) := Lib.hid (by unfold NetP.twice; rw [hpl, if_pos h1])
    by_cases hi0 : i < 0
    · clear h h1 hat hpl
      go_enter Try.func38, Try.ntmps38
      go_wp2_with fail
      go_ret
      exact (HE.out _ _).2 ⟨x, by rw [HC.out]; rfl, HN.out, HP.out.symm, Fr.refl _ _⟩
    · have hi1 := there_no h1 hi0
      clear h h1 hat hpl
      go_enter Try.func38, Try.ntmps38
      go_wp2_with fail
      go_ret
      exact (HE.out _ _).2 ⟨x, by rw [HC.out]; rfl, HN.out, HP.out.symm, Fr.refl _ _⟩
  have hi0 : (0 : Int) ≤ k := by omega
  have hi1 : (k : Int) < x.n := by omega
  have hi2 : ¬ ((k : Int) < 0) := by omega
  have hi3 : ¬ ((x.n : Int) ≤ k) := by omega
  by_cases hfull : 256 ≤ x.n
  · have HC : Hid (twiceC x.n k = 20) := Lib.hid (by unfold twiceC; rw [if_neg (by rw [h1]; simp), if_pos hfull])
    have HP : Hid (x.p.twice k = x.p) := Lib.hid (by unfold NetP.twice; rw [hpl, if_neg (by rw [h1]; simp), if_pos hfull])
    have hfi : (256 : Int) ≤ x.n := by omega
    clear h h1 hat hpl
    go_enter Try.func38, Try.ntmps38
    go_wp2_with fail
    go_ret
    exact (HE.out _ _).2 ⟨x, by rw [HC.out]; rfl, HN.out, HP.out.symm, Fr.refl _ _⟩
  have HC : Hid (twiceC x.n k = 0) := Lib.hid (by unfold twiceC; rw [if_neg (by rw [h1]; simp), if_neg hfull])
  have hkl : k < x.l.length := by rw [h.len]; exact hk
  have hy := at_there hk hkl
  have HP : Hid (x.p.twice k = ⟨x.p.row ++ [x.l[k].b], x.p.sent + 1, x.p.taken, x.p.lost⟩) := Lib.hid (by unfold NetP.twice; rw [hpl, if_neg (by rw [h1]; simp), if_neg hfull, hat, hy])
  have hfi : ¬ ((256 : Int) ≤ x.n) := by omega
  have hs0 := h.s0
  obtain ⟨hN1, _, _, hF1⟩ := h.setN 1 (x.sent + 1) (by omega)
  have hw : IntKind.i64.wrap (x.sent + 1) = x.sent + 1 := IntWalk.i64_in _ ⟨by omega, by omega⟩
  have HU1 : Hid (∀ q, G q = true → q < (w.setCell ⟨g, 1, none⟩ (.int .i64 (x.sent + 1))).heap.size) := Lib.hid (fun q hq => by rw [show (w.setCell ⟨g, 1, none⟩ (.int .i64 (x.sent + 1))).heap.size = w.heap.size by simp [World.setCell]]; exact hub q hq)
  have HN1 := Lib.hid hN1
  have HF1 := Lib.hid hF1
  have HK := Lib.hid hkl
  have f1 := h.blk.frozen 1
  have HXL := Lib.hid h.len
  clear h h1 hat hpl hy hN1 hF1 hub
  go_enter Try.func38, Try.ntmps38
  go_upto_region 6 with fail
  generalize w.setCell ⟨g, 1, none⟩ (.int .i64 (x.sent + 1)) = W1 at *
  clear d0 d1 f1
  have hN1 := HN1.out
  obtain ⟨b, off, hA, hc⟩ := hN1.at_ hk
  have hoy := hN1.el x.l[k] (List.getElem_mem _)
  have hfewy := hoy.2.2.2
  have hfew := hN1.few
  have hle := hN1.le
  have hyl := hoy.1.len
  obtain ⟨d0, _⟩ := hN1.cells
  have hrd := hN1.rdw
  have hby := hN1.bs (y := x.l[k]) (List.getElem_mem _)
  dsimp only at hA hc hoy hfew hle d0 hrd hby
  rw [hA] at d0 hrd
  have HHA := Lib.hid hA
  have HRD := Lib.hid hrd
  have HBY := Lib.hid hby
  have HBLK := Lib.hid hN1.blk
  generalize x.l[k] = y at *
  unfold BSV.val at hc
  have HS : Hid (∀ (V : World), Ext W1 V → (V.cell? ⟨g, 0, none⟩ = some (.slice (some ⟨b, off, none⟩) x.n x.c) ∧ V.cell? ⟨b, off + k, none⟩ = some (.slice y.A y.len y.cap))) := Lib.hid fun V h => ⟨h.cell d0, h.cell hc⟩
  have aR := (Ext.refl W1).alloc (.cells #[] 29)
  have aU := (Ext.refl W1).alloc (.cells #[] 5)
  have aRU := aR.alloc (.cells #[] 5)
  have aUR := aU.alloc (.cells #[] 29)
  have AR := Lib.hid aR
  have AU := Lib.hid aU
  have ARU := Lib.hid aRU
  have AUR := Lib.hid aUR
  have E1 := Lib.hid (own_empty W1 29 1)
  have E2 := Lib.hid (own_base (base' := W1.heap.size) (own_emptyK (W1.alloc (.cells #[] 5)) 29 1 (W1.heap.size + 1) (by simp)) (by simp))
  have E3 := Lib.hid (own_ext (own_empty W1 5 1) ((Ext.refl _).alloc (.cells #[] 29)))
  have E4 := Lib.hid (own_base (base' := W1.heap.size) (own_emptyK (W1.alloc (.cells #[] 29)) 5 1 (W1.heap.size + 1) (by simp)) (by simp))
  have E5 := Lib.hid (own_ext (own_empty W1 29 1) ((Ext.refl _).alloc (.cells #[] 5)))
  clear hN1 hrd hby aR aU aRU aUR hA hoy d0 hc
  refine WT.start (z := 20) (n := 21) rfl (fun V => V.cell? ⟨g, 0, none⟩ = some (.slice (some ⟨b, off, none⟩) x.n x.c) ∧ V.cell? ⟨b, off + k, none⟩ = some (.slice y.A y.len y.cap)) (by kernel_rfl) (HS.out _ (Ext.refl W1).drew) ?_
  simp only [List.replicate]
  refine WT.take (i := 0) (v := ?_) rfl (by kernel_rfl) (by kernel_rfl) (by kernel_rfl) (by rfl) (by kernel_rfl) (fun _ _ _ h => h) (Or.inl ⟨by rfl, ?_⟩) ?_
  rotate_left
  · intro w hSw
    (try dsimp only at hSw)
    go_simp
    try with_reducible rfl
  try simp only [Act.put, List.setIfInBounds_toArray, List.set_cons_zero, List.set_cons_succ]
  refine WT.take (i := 2) (v := ?_) rfl (by kernel_rfl) (by kernel_rfl) (by kernel_rfl) (by rfl) (by kernel_rfl) (fun _ _ _ h => h) (Or.inl ⟨by rfl, ?_⟩) ?_
  rotate_left
  · intro w hSw
    (try dsimp only at hSw)
    go_simp
    try with_reducible rfl
  try simp only [Act.put, List.setIfInBounds_toArray, List.set_cons_zero, List.set_cons_succ]
  refine WT.take (i := 3) (v := ?_) rfl (by kernel_rfl) (by kernel_rfl) (by kernel_rfl) (by rfl) (by kernel_rfl) (fun _ _ _ h => h) (Or.inl ⟨by rfl, ?_⟩) ?_
  rotate_left
  · intro w hSw
    (try dsimp only at hSw)
    go_simp
    try with_reducible rfl
  try simp only [Act.put, List.setIfInBounds_toArray, List.set_cons_zero, List.set_cons_succ]
  refine WT.take (i := 4) (v := ?_) rfl (by kernel_rfl) (by kernel_rfl) (by kernel_rfl) (by rfl) (by kernel_rfl) (fun _ _ _ h => h) (Or.inl ⟨by rfl, ?_⟩) ?_
  rotate_left
  · intro w hSw
    (try dsimp only at hSw)
    go_simp
    try with_reducible rfl
  try simp only [Act.put, List.setIfInBounds_toArray, List.set_cons_zero, List.set_cons_succ]
  refine WT.take (i := 5) (v := ?_) rfl (by kernel_rfl) (by kernel_rfl) (by kernel_rfl) (by rfl) (by kernel_rfl) (fun _ _ _ h => h) (Or.inl ⟨by rfl, ?_⟩) ?_
  rotate_left
  · intro w hSw
    (try dsimp only at hSw)
    go_simp
    try with_reducible rfl
  try simp only [Act.put, List.setIfInBounds_toArray, List.set_cons_zero, List.set_cons_succ]
  refine WT.take (i := 8) (v := ?_) rfl (by kernel_rfl) (by kernel_rfl) (by kernel_rfl) (by rfl) (by kernel_rfl) (fun _ _ _ h => h) (Or.inl ⟨by rfl, ?_⟩) ?_
  rotate_left
  · intro w hSw
    (try dsimp only at hSw)
    go_simp
    try with_reducible rfl
  try simp only [Act.put, List.setIfInBounds_toArray, List.set_cons_zero, List.set_cons_succ]
  refine WT.take (i := 9) (v := ?_) rfl (by kernel_rfl) (by kernel_rfl) (by kernel_rfl) (by rfl) (by kernel_rfl) (fun _ _ _ h => h) (Or.inl ⟨by rfl, ?_⟩) ?_
  rotate_left
  · intro w hSw
    (try dsimp only at hSw)
    go_simp
    try with_reducible rfl
  try simp only [Act.put, List.setIfInBounds_toArray, List.set_cons_zero, List.set_cons_succ]
  refine WT.take (i := 10) (v := ?_) rfl (by kernel_rfl) (by kernel_rfl) (by kernel_rfl) (by rfl) (by kernel_rfl) (fun _ _ _ h => h) (Or.inl ⟨by rfl, ?_⟩) ?_
  rotate_left
  · intro w hSw
    (try dsimp only at hSw)
    go_simp
    try with_reducible rfl
  try simp only [Act.put, List.setIfInBounds_toArray, List.set_cons_zero, List.set_cons_succ]
  refine WT.take (i := 11) (v := ?_) rfl (by kernel_rfl) (by kernel_rfl) (by kernel_rfl) (by rfl) (by kernel_rfl) (fun _ _ _ h => h) (Or.inl ⟨by rfl, ?_⟩) ?_
  rotate_left
  · intro w hSw
    (try dsimp only at hSw)
    go_simp
    try with_reducible rfl
  try simp only [Act.put, List.setIfInBounds_toArray, List.set_cons_zero, List.set_cons_succ]
  refine WT.take (i := 12) (v := ?_) rfl (by kernel_rfl) (by kernel_rfl) (by kernel_rfl) (by rfl) (by kernel_rfl) (fun _ _ _ h => h) (Or.inl ⟨by rfl, ?_⟩) ?_
  rotate_left
  · intro w hSw
    (try dsimp only at hSw)
    go_simp
    try with_reducible rfl
  try simp only [Act.put, List.setIfInBounds_toArray, List.set_cons_zero, List.set_cons_succ]
  refine WT.take (i := 13) (v := ?_) rfl (by kernel_rfl) (by kernel_rfl) (by kernel_rfl) (by rfl) (by kernel_rfl) (fun _ _ _ h => h) (Or.inl ⟨by rfl, ?_⟩) ?_
  rotate_left
  · intro w hSw
    (try dsimp only at hSw)
    go_simp
    try with_reducible rfl
  try simp only [Act.put, List.setIfInBounds_toArray, List.set_cons_zero, List.set_cons_succ]
  refine WT.take (i := 14) (v := ?_) rfl (by kernel_rfl) (by kernel_rfl) (by kernel_rfl) (by rfl) (by kernel_rfl) (fun _ _ _ h => h) (Or.inl ⟨by rfl, ?_⟩) ?_
  rotate_left
  · intro w hSw
    (try dsimp only at hSw)
    go_simp
    try with_reducible rfl
  try simp only [Act.put, List.setIfInBounds_toArray, List.set_cons_zero, List.set_cons_succ]
  refine WT.ready (rs := [1, 7]) (by kernel_rfl) (by simp) ?_
  refine RT.cons rfl (by rfl) (fun K hK => ?_) (RT.cons rfl (by rfl) (fun K hK => ?_) RT.nil)
  · go_simp
    refine hK.out _ _ (by first | (exact HS.out _ X16.out) | (exact HS.out _ X15.out) | (exact HS.out _ X14.out) | (exact HS.out _ U13.out) | (exact HS.out _ X13.out) | (exact HS.out _ ARU.out.drew) | (exact HS.out _ AUR.out.drew) | (exact HS.out _ AR.out.drew) | (exact HS.out _ AU.out.drew)) ?_
    clear hK K
    refine WT.ready (rs := [6, 7]) (by kernel_rfl) (by simp) ?_
    refine RT.cons rfl (by rfl) (fun K hK => ?_) (RT.cons rfl (by rfl) (fun K hK => ?_) RT.nil)
    · refine step_app rowsT (by omega) _ rfl rfl (by simp [Act.eval]) E1.out.drew (by first | (simp [Act.eval]; rfl) | (simp [Act.eval]; done)) (HRD.out.ext AR.out.drew) (bvs_cells _) (by unfold maxLen; omega) (by omega) (by simp <;> omega) ?_
      intro v3 w13 hown3 hg3 hat3
      have x13 : Ext W1 w13 := Below.app (AR.out.drew) hg3 (by simp <;> omega) E1.out.drew (Nat.le_refl _)
      have hr3 : w13.ownsRow W1.heap.size 29 1 v3 x.n (x.l.map BSV.val) := own_to hown3 (Nat.le_refl _) (by omega) rfl
      have hb13 := HBY.out.ext x13
      have hs13 : W1.heap.size ≤ w13.heap.size := x13.size
      have u13 : Ext W1 (w13.alloc (.cells #[] 5)) := x13.alloc _
      have X13 := Lib.hid x13
      have U13 := Lib.hid u13
      have hb13u := HBY.out.ext u13
      have E6 := own_empty w13 5 1
      clear hown3 hat3
      refine hK.out _ _ (by first | (exact HS.out _ X16.out) | (exact HS.out _ X15.out) | (exact HS.out _ X14.out) | (exact HS.out _ U13.out) | (exact HS.out _ X13.out) | (exact HS.out _ ARU.out.drew) | (exact HS.out _ AUR.out.drew) | (exact HS.out _ AR.out.drew) | (exact HS.out _ AU.out.drew)) ?_
      clear hK K
      try simp only [Act.put, List.setIfInBounds_toArray, List.set_cons_zero, List.set_cons_succ]
      refine WT.ready (rs := [7]) (by kernel_rfl) (by simp) ?_
      refine RT.cons rfl (by rfl) (fun K hK => ?_) RT.nil
      go_simp
      refine hK.out _ _ (by first | (exact HS.out _ X16.out) | (exact HS.out _ X15.out) | (exact HS.out _ X14.out) | (exact HS.out _ U13.out) | (exact HS.out _ X13.out) | (exact HS.out _ ARU.out.drew) | (exact HS.out _ AUR.out.drew) | (exact HS.out _ AR.out.drew) | (exact HS.out _ AU.out.drew)) ?_
      clear hK K
      refine WT.ready (rs := [15]) (by kernel_rfl) (by simp) ?_
      refine RT.cons rfl (by rfl) (fun K hK => ?_) RT.nil
      refine step_app bytesT (by omega) _ rfl rfl (by simp [Act.eval]) E6 (by first | (simp [Act.eval]; rfl) | (simp [Act.eval]; done)) hb13u (bvs_one _) (by unfold maxLen; omega) (by omega) (by simp <;> omega) ?_
      intro v5 w14 hown5 hg5 hat5
      have x14 : Ext W1 w14 := Below.app u13 hg5 (by have := u13.size; exact this) E6 (by first | exact hs13 | exact Nat.le_refl _)
      have hr5 : w14.ownsRow W1.heap.size 5 1 v5 y.len (y.b.map bv) := own_to hown5 (by first | exact hs13 | exact Nat.le_refl _) (by omega) rfl
      obtain ⟨A5, c5, rfl, hc5⟩ := own_form hr5
      have hr6 := own_grown (own_ext hr3 (by first | exact Ext.refl _ | exact (Ext.refl _).alloc _)) hg5 (own_apart (own_ext hr3 (by first | exact Ext.refl _ | exact (Ext.refl _).alloc _)) E6 (by decide))
      have x15 : Ext W1 (w14.alloc (.cells #[.slice A5 y.len c5] 29)) := x14.alloc _
      have X14 := Lib.hid x14
      have X15 := Lib.hid x15
      have hs15 : W1.heap.size ≤ (w14.alloc (.cells #[.slice A5 y.len c5] 29)).heap.size := x15.size
      clear hown5 hat5
      refine hK.out _ _ (by first | (exact HS.out _ X16.out) | (exact HS.out _ X15.out) | (exact HS.out _ X14.out) | (exact HS.out _ U13.out) | (exact HS.out _ X13.out) | (exact HS.out _ ARU.out.drew) | (exact HS.out _ AUR.out.drew) | (exact HS.out _ AR.out.drew) | (exact HS.out _ AU.out.drew)) ?_
      clear hK K
      try simp only [Act.put, List.setIfInBounds_toArray, List.set_cons_zero, List.set_cons_succ]
      refine WT.ready (rs := [16]) (by kernel_rfl) (by simp) ?_
      refine RT.cons rfl (by rfl) (fun K hK => ?_) RT.nil
      go_simp
      refine hK.out _ _ (by first | (exact HS.out _ X16.out) | (exact HS.out _ X15.out) | (exact HS.out _ X14.out) | (exact HS.out _ U13.out) | (exact HS.out _ X13.out) | (exact HS.out _ ARU.out.drew) | (exact HS.out _ AUR.out.drew) | (exact HS.out _ AR.out.drew) | (exact HS.out _ AU.out.drew)) ?_
      clear hK K
      refine WT.ready (rs := [17]) (by kernel_rfl) (by simp) ?_
      refine RT.cons rfl (by rfl) (fun K hK => ?_) RT.nil
      refine step_app rowsT (by omega) _ rfl rfl (by simp [Act.eval]) (hr6.alloc _) (by first | (simp [Act.eval]; rfl) | (simp [Act.eval]; done)) (rd_new1 _ _ _) (one1 rfl) (by unfold maxLen; omega) (by omega) hs15 ?_
      intro v6 w16 hown6 hg6 hat6
      have x16 : Ext W1 w16 := Below.app x15 hg6 hs15 (hr6.alloc _) (Nat.le_refl _)
      have X16 := Lib.hid x16
      obtain ⟨A6, c6, rfl, _⟩ := own_form hown6
      have hb16 := HBLK.out.ext x16
      have d16 := hb16.cell 0
      have z16 := hb16.frozen 0
      simp only [List.getElem?_cons_zero] at d16
      refine hK.out _ _ (by first | (exact HS.out _ X16.out) | (exact HS.out _ X15.out) | (exact HS.out _ X14.out) | (exact HS.out _ U13.out) | (exact HS.out _ X13.out) | (exact HS.out _ ARU.out.drew) | (exact HS.out _ AUR.out.drew) | (exact HS.out _ AR.out.drew) | (exact HS.out _ AU.out.drew)) ?_
      clear hK K
      try simp only [Act.put, List.setIfInBounds_toArray, List.set_cons_zero, List.set_cons_succ]
      refine WT.take (i := 18) (v := ?_) rfl (by kernel_rfl) (by kernel_rfl) (by kernel_rfl) (by rfl) (by kernel_rfl) (fun _ _ _ h => h) (Or.inl ⟨by rfl, ?_⟩) ?_
      rotate_left
      · intro w hSw
        (try dsimp only at hSw)
        go_simp
        try with_reducible rfl
      try simp only [Act.put, List.setIfInBounds_toArray, List.set_cons_zero, List.set_cons_succ]
      refine WT.take (i := 19) (v := ?_) rfl (by kernel_rfl) (by kernel_rfl) (by kernel_rfl) (by rfl) (by kernel_rfl) (fun _ _ _ h => h) (Or.inl ⟨by rfl, ?_⟩) ?_
      rotate_left
      · intro w hSw
        (try dsimp only at hSw)
        go_simp
        try with_reducible rfl
      try simp only [Act.put, List.setIfInBounds_toArray, List.set_cons_zero, List.set_cons_succ]
      refine WT.last rfl (by kernel_rfl) (by kernel_rfl) (fun K hK => ?_)
      go_simp
      refine hK.out _ _ ?_
      clear hK K
      have hr16 := own_grown (own_ext hr5 ((Ext.refl w14).alloc (.cells #[.slice A5 y.len c5] 29))) hg6 (own_apart (own_ext hr5 ((Ext.refl w14).alloc (.cells #[.slice A5 y.len c5] 29))) (hr6.alloc _) (by decide))
      have hown7 : w16.ownsRow W1.heap.size 29 1 (.slice A6 (x.n + 1) c6) (x.n + 1) ((x.l ++ [(⟨A5, y.len, c5, y.b⟩ : BSV)]).map BSV.val) := by rw [List.map_append]; exact hown6
      obtain ⟨p1, p2⟩ := HN1.out.put HU1.out x16 hown7 (fun z hz => by
        rcases List.mem_append.1 hz with hz | hz
        · exact ⟨(HN1.out.el z hz).1.ext x16.masks, (HN1.out.el z hz).2⟩
        · simp only [List.mem_singleton] at hz
          subst hz
          exact ⟨Bs.of_own (own_maskG hr16 HU1.out), hc5, (own_bounds hr5).2, hfewy⟩) (by omega)
      have HP1 := Lib.hid p1
      have HF2 := Lib.hid (HF1.out.trans p2)
      clear hown6 hown7 hg6 hat6 x16 p1 p2 hb16 d16 z16 hr16 hr5 hr6
      go_wp2_with fail
      go_ret
      exact (HE.out _ _).2 ⟨_, by rw [HC.out]; rfl, HP1.out, by rw [HP.out]; simp only [NetV.p, List.map_append, List.map_cons, List.map_nil], HF2.out⟩
    · go_simp
      refine hK.out _ _ (by first | (exact HS.out _ X16.out) | (exact HS.out _ X15.out) | (exact HS.out _ X14.out) | (exact HS.out _ U13.out) | (exact HS.out _ X13.out) | (exact HS.out _ ARU.out.drew) | (exact HS.out _ AUR.out.drew) | (exact HS.out _ AR.out.drew) | (exact HS.out _ AU.out.drew)) ?_
      clear hK K
      refine WT.ready (rs := [6]) (by kernel_rfl) (by simp) ?_
      refine RT.cons rfl (by rfl) (fun K hK => ?_) RT.nil
      refine step_app rowsT (by omega) _ rfl rfl (by simp [Act.eval]) E5.out.drew (by first | (simp [Act.eval]; rfl) | (simp [Act.eval]; done)) (HRD.out.ext ARU.out.drew) (bvs_cells _) (by unfold maxLen; omega) (by omega) (by simp <;> omega) ?_
      intro v3 w13 hown3 hg3 hat3
      have x13 : Ext W1 w13 := Below.app (ARU.out.drew) hg3 (by simp <;> omega) E5.out.drew (Nat.le_refl _)
      have hr3 : w13.ownsRow W1.heap.size 29 1 v3 x.n (x.l.map BSV.val) := own_to hown3 (Nat.le_refl _) (by omega) rfl
      have hb13 := HBY.out.ext x13
      have hs13 : W1.heap.size ≤ w13.heap.size := x13.size
      have u13 : Ext W1 (w13.alloc (.cells #[] 5)) := x13.alloc _
      have X13 := Lib.hid x13
      have U13 := Lib.hid u13
      have hb13u := HBY.out.ext u13
      have E7 := own_grown E4.out.drew hg3 (own_apart E4.out.drew E5.out.drew (by decide))
      clear hown3 hat3
      refine hK.out _ _ (by first | (exact HS.out _ X16.out) | (exact HS.out _ X15.out) | (exact HS.out _ X14.out) | (exact HS.out _ U13.out) | (exact HS.out _ X13.out) | (exact HS.out _ ARU.out.drew) | (exact HS.out _ AUR.out.drew) | (exact HS.out _ AR.out.drew) | (exact HS.out _ AU.out.drew)) ?_
      clear hK K
      try simp only [Act.put, List.setIfInBounds_toArray, List.set_cons_zero, List.set_cons_succ]
      refine WT.ready (rs := [15]) (by kernel_rfl) (by simp) ?_
      refine RT.cons rfl (by rfl) (fun K hK => ?_) RT.nil
      refine step_app bytesT (by omega) _ rfl rfl (by simp [Act.eval]) E7 (by first | (simp [Act.eval]; rfl) | (simp [Act.eval]; done)) hb13 (bvs_one _) (by unfold maxLen; omega) (by omega) hs13 ?_
      intro v5 w14 hown5 hg5 hat5
      have x14 : Ext W1 w14 := Below.app x13 hg5 (by have := x13.size; exact this) E7 (by first | exact hs13 | exact Nat.le_refl _)
      have hr5 : w14.ownsRow W1.heap.size 5 1 v5 y.len (y.b.map bv) := own_to hown5 (by first | exact hs13 | exact Nat.le_refl _) (by omega) rfl
      obtain ⟨A5, c5, rfl, hc5⟩ := own_form hr5
      have hr6 := own_grown (own_ext hr3 (by first | exact Ext.refl _ | exact (Ext.refl _).alloc _)) hg5 (own_apart (own_ext hr3 (by first | exact Ext.refl _ | exact (Ext.refl _).alloc _)) E7 (by decide))
      have x15 : Ext W1 (w14.alloc (.cells #[.slice A5 y.len c5] 29)) := x14.alloc _
      have X14 := Lib.hid x14
      have X15 := Lib.hid x15
      have hs15 : W1.heap.size ≤ (w14.alloc (.cells #[.slice A5 y.len c5] 29)).heap.size := x15.size
      clear hown5 hat5
      refine hK.out _ _ (by first | (exact HS.out _ X16.out) | (exact HS.out _ X15.out) | (exact HS.out _ X14.out) | (exact HS.out _ U13.out) | (exact HS.out _ X13.out) | (exact HS.out _ ARU.out.drew) | (exact HS.out _ AUR.out.drew) | (exact HS.out _ AR.out.drew) | (exact HS.out _ AU.out.drew)) ?_
      clear hK K
      try simp only [Act.put, List.setIfInBounds_toArray, List.set_cons_zero, List.set_cons_succ]
      refine WT.ready (rs := [16]) (by kernel_rfl) (by simp) ?_
      refine RT.cons rfl (by rfl) (fun K hK => ?_) RT.nil
      go_simp
      refine hK.out _ _ (by first | (exact HS.out _ X16.out) | (exact HS.out _ X15.out) | (exact HS.out _ X14.out) | (exact HS.out _ U13.out) | (exact HS.out _ X13.out) | (exact HS.out _ ARU.out.drew) | (exact HS.out _ AUR.out.drew) | (exact HS.out _ AR.out.drew) | (exact HS.out _ AU.out.drew)) ?_
      clear hK K
      refine WT.ready (rs := [17]) (by kernel_rfl) (by simp) ?_
      refine RT.cons rfl (by rfl) (fun K hK => ?_) RT.nil
      refine step_app rowsT (by omega) _ rfl rfl (by simp [Act.eval]) (hr6.alloc _) (by first | (simp [Act.eval]; rfl) | (simp [Act.eval]; done)) (rd_new1 _ _ _) (one1 rfl) (by unfold maxLen; omega) (by omega) hs15 ?_
      intro v6 w16 hown6 hg6 hat6
      have x16 : Ext W1 w16 := Below.app x15 hg6 hs15 (hr6.alloc _) (Nat.le_refl _)
      have X16 := Lib.hid x16
      obtain ⟨A6, c6, rfl, _⟩ := own_form hown6
      have hb16 := HBLK.out.ext x16
      have d16 := hb16.cell 0
      have z16 := hb16.frozen 0
      simp only [List.getElem?_cons_zero] at d16
      refine hK.out _ _ (by first | (exact HS.out _ X16.out) | (exact HS.out _ X15.out) | (exact HS.out _ X14.out) | (exact HS.out _ U13.out) | (exact HS.out _ X13.out) | (exact HS.out _ ARU.out.drew) | (exact HS.out _ AUR.out.drew) | (exact HS.out _ AR.out.drew) | (exact HS.out _ AU.out.drew)) ?_
      clear hK K
      try simp only [Act.put, List.setIfInBounds_toArray, List.set_cons_zero, List.set_cons_succ]
      refine WT.take (i := 18) (v := ?_) rfl (by kernel_rfl) (by kernel_rfl) (by kernel_rfl) (by rfl) (by kernel_rfl) (fun _ _ _ h => h) (Or.inl ⟨by rfl, ?_⟩) ?_
      rotate_left
      · intro w hSw
        (try dsimp only at hSw)
        go_simp
        try with_reducible rfl
      try simp only [Act.put, List.setIfInBounds_toArray, List.set_cons_zero, List.set_cons_succ]
      refine WT.take (i := 19) (v := ?_) rfl (by kernel_rfl) (by kernel_rfl) (by kernel_rfl) (by rfl) (by kernel_rfl) (fun _ _ _ h => h) (Or.inl ⟨by rfl, ?_⟩) ?_
      rotate_left
      · intro w hSw
        (try dsimp only at hSw)
        go_simp
        try with_reducible rfl
      try simp only [Act.put, List.setIfInBounds_toArray, List.set_cons_zero, List.set_cons_succ]
      refine WT.last rfl (by kernel_rfl) (by kernel_rfl) (fun K hK => ?_)
      go_simp
      refine hK.out _ _ ?_
      clear hK K
      have hr16 := own_grown (own_ext hr5 ((Ext.refl w14).alloc (.cells #[.slice A5 y.len c5] 29))) hg6 (own_apart (own_ext hr5 ((Ext.refl w14).alloc (.cells #[.slice A5 y.len c5] 29))) (hr6.alloc _) (by decide))
      have hown7 : w16.ownsRow W1.heap.size 29 1 (.slice A6 (x.n + 1) c6) (x.n + 1) ((x.l ++ [(⟨A5, y.len, c5, y.b⟩ : BSV)]).map BSV.val) := by rw [List.map_append]; exact hown6
      obtain ⟨p1, p2⟩ := HN1.out.put HU1.out x16 hown7 (fun z hz => by
        rcases List.mem_append.1 hz with hz | hz
        · exact ⟨(HN1.out.el z hz).1.ext x16.masks, (HN1.out.el z hz).2⟩
        · simp only [List.mem_singleton] at hz
          subst hz
          exact ⟨Bs.of_own (own_maskG hr16 HU1.out), hc5, (own_bounds hr5).2, hfewy⟩) (by omega)
      have HP1 := Lib.hid p1
      have HF2 := Lib.hid (HF1.out.trans p2)
      clear hown6 hown7 hg6 hat6 x16 p1 p2 hb16 d16 z16 hr16 hr5 hr6
      go_wp2_with fail
      go_ret
      exact (HE.out _ _).2 ⟨_, by rw [HC.out]; rfl, HP1.out, by rw [HP.out]; simp only [NetV.p, List.map_append, List.map_cons, List.map_nil], HF2.out⟩
  · go_simp
    refine hK.out _ _ (by first | (exact HS.out _ X16.out) | (exact HS.out _ X15.out) | (exact HS.out _ X14.out) | (exact HS.out _ U13.out) | (exact HS.out _ X13.out) | (exact HS.out _ ARU.out.drew) | (exact HS.out _ AUR.out.drew) | (exact HS.out _ AR.out.drew) | (exact HS.out _ AU.out.drew)) ?_
    clear hK K
    refine WT.ready (rs := [1]) (by kernel_rfl) (by simp) ?_
    refine RT.cons rfl (by rfl) (fun K hK => ?_) RT.nil
    go_simp
    refine hK.out _ _ (by first | (exact HS.out _ X16.out) | (exact HS.out _ X15.out) | (exact HS.out _ X14.out) | (exact HS.out _ U13.out) | (exact HS.out _ X13.out) | (exact HS.out _ ARU.out.drew) | (exact HS.out _ AUR.out.drew) | (exact HS.out _ AR.out.drew) | (exact HS.out _ AU.out.drew)) ?_
    clear hK K
    refine WT.ready (rs := [6]) (by kernel_rfl) (by simp) ?_
    refine RT.cons rfl (by rfl) (fun K hK => ?_) RT.nil
    refine step_app rowsT (by omega) _ rfl rfl (by simp [Act.eval]) E2.out.drew (by first | (simp [Act.eval]; rfl) | (simp [Act.eval]; done)) (HRD.out.ext AUR.out.drew) (bvs_cells _) (by unfold maxLen; omega) (by omega) (by simp <;> omega) ?_
    intro v3 w13 hown3 hg3 hat3
    have x13 : Ext W1 w13 := Below.app (AUR.out.drew) hg3 (by simp <;> omega) E2.out.drew (Nat.le_refl _)
    have hr3 : w13.ownsRow W1.heap.size 29 1 v3 x.n (x.l.map BSV.val) := own_to hown3 (Nat.le_refl _) (by omega) rfl
    have hb13 := HBY.out.ext x13
    have hs13 : W1.heap.size ≤ w13.heap.size := x13.size
    have u13 : Ext W1 (w13.alloc (.cells #[] 5)) := x13.alloc _
    have X13 := Lib.hid x13
    have U13 := Lib.hid u13
    have hb13u := HBY.out.ext u13
    have E7 := own_grown E3.out.drew hg3 (own_apart E3.out.drew E2.out.drew (by decide))
    clear hown3 hat3
    refine hK.out _ _ (by first | (exact HS.out _ X16.out) | (exact HS.out _ X15.out) | (exact HS.out _ X14.out) | (exact HS.out _ U13.out) | (exact HS.out _ X13.out) | (exact HS.out _ ARU.out.drew) | (exact HS.out _ AUR.out.drew) | (exact HS.out _ AR.out.drew) | (exact HS.out _ AU.out.drew)) ?_
    clear hK K
    try simp only [Act.put, List.setIfInBounds_toArray, List.set_cons_zero, List.set_cons_succ]
    refine WT.ready (rs := [15]) (by kernel_rfl) (by simp) ?_
    refine RT.cons rfl (by rfl) (fun K hK => ?_) RT.nil
    refine step_app bytesT (by omega) _ rfl rfl (by simp [Act.eval]) E7 (by first | (simp [Act.eval]; rfl) | (simp [Act.eval]; done)) hb13 (bvs_one _) (by unfold maxLen; omega) (by omega) hs13 ?_
    intro v5 w14 hown5 hg5 hat5
    have x14 : Ext W1 w14 := Below.app x13 hg5 (by have := x13.size; exact this) E7 (by first | exact hs13 | exact Nat.le_refl _)
    have hr5 : w14.ownsRow W1.heap.size 5 1 v5 y.len (y.b.map bv) := own_to hown5 (by first | exact hs13 | exact Nat.le_refl _) (by omega) rfl
    obtain ⟨A5, c5, rfl, hc5⟩ := own_form hr5
    have hr6 := own_grown (own_ext hr3 (by first | exact Ext.refl _ | exact (Ext.refl _).alloc _)) hg5 (own_apart (own_ext hr3 (by first | exact Ext.refl _ | exact (Ext.refl _).alloc _)) E7 (by decide))
    have x15 : Ext W1 (w14.alloc (.cells #[.slice A5 y.len c5] 29)) := x14.alloc _
    have X14 := Lib.hid x14
    have X15 := Lib.hid x15
    have hs15 : W1.heap.size ≤ (w14.alloc (.cells #[.slice A5 y.len c5] 29)).heap.size := x15.size
    clear hown5 hat5
    refine hK.out _ _ (by first | (exact HS.out _ X16.out) | (exact HS.out _ X15.out) | (exact HS.out _ X14.out) | (exact HS.out _ U13.out) | (exact HS.out _ X13.out) | (exact HS.out _ ARU.out.drew) | (exact HS.out _ AUR.out.drew) | (exact HS.out _ AR.out.drew) | (exact HS.out _ AU.out.drew)) ?_
    clear hK K
    try simp only [Act.put, List.setIfInBounds_toArray, List.set_cons_zero, List.set_cons_succ]
    refine WT.ready (rs := [16]) (by kernel_rfl) (by simp) ?_
    refine RT.cons rfl (by rfl) (fun K hK => ?_) RT.nil
    go_simp
    refine hK.out _ _ (by first | (exact HS.out _ X16.out) | (exact HS.out _ X15.out) | (exact HS.out _ X14.out) | (exact HS.out _ U13.out) | (exact HS.out _ X13.out) | (exact HS.out _ ARU.out.drew) | (exact HS.out _ AUR.out.drew) | (exact HS.out _ AR.out.drew) | (exact HS.out _ AU.out.drew)) ?_
    clear hK K
    refine WT.ready (rs := [17]) (by kernel_rfl) (by simp) ?_
    refine RT.cons rfl (by rfl) (fun K hK => ?_) RT.nil
    refine step_app rowsT (by omega) _ rfl rfl (by simp [Act.eval]) (hr6.alloc _) (by first | (simp [Act.eval]; rfl) | (simp [Act.eval]; done)) (rd_new1 _ _ _) (one1 rfl) (by unfold maxLen; omega) (by omega) hs15 ?_
    intro v6 w16 hown6 hg6 hat6
    have x16 : Ext W1 w16 := Below.app x15 hg6 hs15 (hr6.alloc _) (Nat.le_refl _)
    have X16 := Lib.hid x16
    obtain ⟨A6, c6, rfl, _⟩ := own_form hown6
    have hb16 := HBLK.out.ext x16
    have d16 := hb16.cell 0
    have z16 := hb16.frozen 0
    simp only [List.getElem?_cons_zero] at d16
    refine hK.out _ _ (by first | (exact HS.out _ X16.out) | (exact HS.out _ X15.out) | (exact HS.out _ X14.out) | (exact HS.out _ U13.out) | (exact HS.out _ X13.out) | (exact HS.out _ ARU.out.drew) | (exact HS.out _ AUR.out.drew) | (exact HS.out _ AR.out.drew) | (exact HS.out _ AU.out.drew)) ?_
    clear hK K
    try simp only [Act.put, List.setIfInBounds_toArray, List.set_cons_zero, List.set_cons_succ]
    refine WT.take (i := 18) (v := ?_) rfl (by kernel_rfl) (by kernel_rfl) (by kernel_rfl) (by rfl) (by kernel_rfl) (fun _ _ _ h => h) (Or.inl ⟨by rfl, ?_⟩) ?_
    rotate_left
    · intro w hSw
      (try dsimp only at hSw)
      go_simp
      try with_reducible rfl
    try simp only [Act.put, List.setIfInBounds_toArray, List.set_cons_zero, List.set_cons_succ]
    refine WT.take (i := 19) (v := ?_) rfl (by kernel_rfl) (by kernel_rfl) (by kernel_rfl) (by rfl) (by kernel_rfl) (fun _ _ _ h => h) (Or.inl ⟨by rfl, ?_⟩) ?_
    rotate_left
    · intro w hSw
      (try dsimp only at hSw)
      go_simp
      try with_reducible rfl
    try simp only [Act.put, List.setIfInBounds_toArray, List.set_cons_zero, List.set_cons_succ]
    refine WT.last rfl (by kernel_rfl) (by kernel_rfl) (fun K hK => ?_)
    go_simp
    refine hK.out _ _ ?_
    clear hK K
    have hr16 := own_grown (own_ext hr5 ((Ext.refl w14).alloc (.cells #[.slice A5 y.len c5] 29))) hg6 (own_apart (own_ext hr5 ((Ext.refl w14).alloc (.cells #[.slice A5 y.len c5] 29))) (hr6.alloc _) (by decide))
    have hown7 : w16.ownsRow W1.heap.size 29 1 (.slice A6 (x.n + 1) c6) (x.n + 1) ((x.l ++ [(⟨A5, y.len, c5, y.b⟩ : BSV)]).map BSV.val) := by rw [List.map_append]; exact hown6
    obtain ⟨p1, p2⟩ := HN1.out.put HU1.out x16 hown7 (fun z hz => by
      rcases List.mem_append.1 hz with hz | hz
      · exact ⟨(HN1.out.el z hz).1.ext x16.masks, (HN1.out.el z hz).2⟩
      · simp only [List.mem_singleton] at hz
        subst hz
        exact ⟨Bs.of_own (own_maskG hr16 HU1.out), hc5, (own_bounds hr5).2, hfewy⟩) (by omega)
    have HP1 := Lib.hid p1
    have HF2 := Lib.hid (HF1.out.trans p2)
    clear hown6 hown7 hg6 hat6 x16 p1 p2 hb16 d16 z16 hr16 hr5 hr6
    go_wp2_with fail
    go_ret
    exact (HE.out _ _).2 ⟨_, by rw [HC.out]; rfl, HP1.out, by rw [HP.out]; simp only [NetV.p, List.map_append, List.map_cons, List.map_nil], HF2.out⟩
end Go.Proofs.Ytcoaofaofmbfbaa
