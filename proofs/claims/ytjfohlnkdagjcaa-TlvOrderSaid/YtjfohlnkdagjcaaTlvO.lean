/- The walk of the law TlvOrder. -/
import Derived.Test.YtjfohlnkdagjcaaTlvS
import Derived.Test.YtjfohlnkdagjcaaOpenF
namespace Go.Proofs.Ytjfohlnkdagjcaa
open Go.RowKit

theorem fput_len_le2 {num wire n : Nat} {b : List UInt8} (hm : TagMay num wire) (hn : U64 n) (hb : b.length ≤ 16384) : (fput num wire n b).length ≤ 22 + b.length := by
  unfold fput
  rw [List.length_append]
  have h1 : (vput (8 * num + wire)).length ≤ 2 := by rw [tag_len hm]; split <;> omega
  have h2 : (vput n).length ≤ 10 := by rw [vput_len]; exact hn.size
  have h3 : (vput b.length).length ≤ 10 := by rw [vput_len]; exact U64.size (by unfold U64; omega)
  split
  · omega
  · rw [List.length_append]; omega
theorem fsize_le2 (f : FV) {w : World} (ha : aloneB f = true) (hk : f.Ok w) (hl : f.len ≤ 16384) : fsize f ≤ 22 + f.len := by
  obtain ⟨num, wire, h1, h2, hm⟩ := alone_tag ha
  unfold fsize
  rw [h1, h2]
  have := fput_len_le2 (num := num) (wire := wire) hm hk.u (b := f.b) (by rw [hk.bs.len]; omega)
  rw [hk.bs.len] at this
  exact this
theorem fmay_one (x : FV) {w : World} (hk : x.Ok w) (hl : x.len ≤ 300) : fmay [x] = if aloneB x = false then 1 else 0 := by
  unfold fmay
  rw [mayScan_cons]
  by_cases h : aloneB x = false
  · rw [if_pos h, if_pos h]
  · have := fsize_le2 x (by simpa using h) hk (by omega)
    rw [if_neg h, if_neg h, if_neg (by simp [fallsB]), if_neg (by omega), mayScan_nil, if_neg (by omega)]
theorem fmay_two (x y : FV) {w : World} (hx : x.Ok w) (hlx : x.len ≤ 300) (hy : y.Ok w) (hly : y.len ≤ 300) :
    fmay [x, y] = if aloneB x = false then 1 else if aloneB y = false then 1 else if risesB x y = false then 5 else 0 := by
  unfold fmay
  rw [mayScan_cons]
  by_cases h : aloneB x = false
  · rw [if_pos h, if_pos h]
  · have h1 := fsize_le2 x (by simpa using h) hx (by omega)
    rw [if_neg h, if_neg h, if_neg (by simp [fallsB]), if_neg (by omega), mayScan_cons]
    by_cases h2 : aloneB y = false
    · rw [if_pos h2, if_pos h2]
    · have h3 := fsize_le2 y (by simpa using h2) hy (by omega)
      rw [if_neg h2, if_neg h2]
      by_cases h4 : risesB x y = false
      · rw [if_pos (by simp [fallsB, h4]), if_pos h4]
      · rw [if_neg (by simpa [fallsB] using h4), if_neg h4, if_neg (by omega), mayScan_nil, if_neg (by omega)]
theorem cutF_len (k : Nat) (f : FV) : (cutF k f).len ≤ k := by
  unfold cutF; split
  · exact Nat.le_refl _
  · omega

/-- two fields of a literal row -/
theorem fs_two (w : World) (x y : FV) (hx : x.Ok w) (hy : y.Ok w) (k : Nat) (hk : k = w.heap.size) :
    Fs (w.alloc (.cells #[.int .i64 x.num, .int .i64 x.wire, .int .u64 x.n, .slice x.A x.len x.cap, .int .i64 y.num, .int .i64 y.wire, .int .u64 y.n, .slice y.A y.len y.cap] 42)) (some ⟨k, 0, none⟩) 2 [x, y] := by
  subst hk
  refine ⟨Rd.block (size := 4) w _ 42 2 rfl, ?_⟩
  intro f hf
  simp only [List.mem_cons, List.not_mem_nil, or_false] at hf
  rcases hf with rfl | rfl
  · exact hx.ext ((Ext.refl w).alloc _)
  · exact hy.ext ((Ext.refl w).alloc _)
theorem fs_one (w : World) (x : FV) (hx : x.Ok w) (k : Nat) (hk : k = w.heap.size) :
    Fs (w.alloc (.cells #[.int .i64 x.num, .int .i64 x.wire, .int .u64 x.n, .slice x.A x.len x.cap] 42)) (some ⟨k, 0, none⟩) 1 [x] := by
  subst hk
  refine ⟨Rd.block (size := 4) w _ 42 1 rfl, ?_⟩
  intro f hf
  simp only [List.mem_cons, List.not_mem_nil, or_false] at hf
  subst hf
  exact hx.ext ((Ext.refl w).alloc _)
def zeroF : FV := ⟨0, 0, 0, none, 0, 0, []⟩
theorem zeroF_ok (w : World) : zeroF.Ok w := ⟨Bs.nil_ _ _, by decide, by decide, by unfold U64; decide⟩
theorem few_two (a : FV) : fewL [zeroF, a] = [zeroF, cutF 300 a] := by simp [fewL, fewAt, cutF, zeroF]

/-- few of a literal row of a nought and a field: its second one -/
theorem few_at (a : FV) (w : World) (ha : a.Ok w) (k : Nat) (hk : k = w.heap.size) :
    Calls Try.prog 28 #[.slice (some ⟨k, 0, none⟩) 2 2] (w.alloc (.cells #[.int .i64 0, .int .i64 0, .int .u64 0, .slice none 0 0, .int .i64 a.num, .int .i64 a.wire, .int .u64 a.n, .slice a.A a.len a.cap] 42)) fun e w' =>
      ∃ g c, e = .returned (.slice (some ⟨g, 0, none⟩) 2 c) ∧ w'.cell? ⟨g, 4, none⟩ = some (.int .i64 (cutF 300 a).num) ∧ w'.cell? ⟨g, 5, none⟩ = some (.int .i64 (cutF 300 a).wire) ∧ w'.cell? ⟨g, 6, none⟩ = some (.int .u64 (cutF 300 a).n) ∧
        w'.cell? ⟨g, 7, none⟩ = some (.slice (cutF 300 a).A (cutF 300 a).len (cutF 300 a).cap) ∧ Ext w w' := by
  have hfs := fs_two w zeroF a (zeroF_ok w) ha k hk
  refine (law03_few _ 2 2 _ _ hfs (by omega) (by decide)).mono ?_
  rintro e w' ⟨v, rfl, hown, hx⟩
  rw [few_two] at hown
  rcases hown.2 with ⟨_, h0⟩ | ⟨g, cap, cur, rfl, hb, hg, hr⟩
  · simp at h0
  · have hc := fun j => hown.cellAt (g := g) j
    refine ⟨g, cap, rfl, ?_, ?_, ?_, ?_, ((Ext.refl w).alloc _).trans hx⟩
    · exact hc 4 (by decide)
    · exact hc 5 (by decide)
    · exact hc 6 (by decide)
    · exact hc 7 (by decide)

/-- why a field may be alone, or may not -/
theorem alone_cases (f : FV) : (aloneB f = false ∧ (f.num < 1 ∨ (1 ≤ f.num ∧ 1000 < f.num) ∨ (1 ≤ f.num ∧ f.num ≤ 1000 ∧ f.wire = 0 ∧ ((f.len : Int) == 0) = false) ∨ (1 ≤ f.num ∧ f.num ≤ 1000 ∧ f.wire = 2 ∧ ((f.n : Int) == 0) = false) ∨ (1 ≤ f.num ∧ f.num ≤ 1000 ∧ (f.wire == 0) = false ∧ (f.wire == 2) = false))) ∨
    (aloneB f = true ∧ 1 ≤ f.num ∧ f.num ≤ 1000 ∧ (f.wire = 0 ∧ f.len = 0 ∨ f.wire = 2 ∧ f.n = 0)) := by
  unfold aloneB
  by_cases h1 : f.num < 1
  · rw [if_pos h1]; exact .inl ⟨rfl, .inl h1⟩
  · rw [if_neg h1]
    by_cases h2 : 1000 < f.num
    · rw [if_pos h2]; exact .inl ⟨rfl, .inr (.inl ⟨by omega, h2⟩)⟩
    · rw [if_neg h2]
      by_cases h3 : f.wire = 0
      · rw [if_pos h3]
        rcases h4 : ((f.len : Int) == 0) with _ | _
        · exact .inl ⟨rfl, .inr (.inr (.inl ⟨by omega, by omega, h3, rfl⟩))⟩
        · exact .inr ⟨rfl, by omega, by omega, .inl ⟨h3, by have := eq_of_beq h4; omega⟩⟩
      · rw [if_neg h3]
        by_cases h4 : f.wire = 2
        · rw [if_pos h4]
          rcases h5 : ((f.n : Int) == 0) with _ | _
          · exact .inl ⟨rfl, .inr (.inr (.inr (.inl ⟨by omega, by omega, h4, rfl⟩)))⟩
          · exact .inr ⟨rfl, by omega, by omega, .inr ⟨h4, by have := eq_of_beq h5; omega⟩⟩
        · rw [if_neg h4]; exact .inl ⟨rfl, .inr (.inr (.inr (.inr ⟨by omega, by omega, beq_f h3, beq_f h4⟩)))⟩

set_option maxRecDepth 100000 in
set_option maxHeartbeats 6400000 in
theorem law_TlvOrder (a b : FV) (w : World) (ha : a.Ok w) (hb : b.Ok w) :
    Calls Try.prog 7 #[a.val, b.val] w fun e w' => e = .returned (.bool true) ∧ Ext w w' := by
  have hX := fun w' (h : Ext w w') => cutF_ok (k := 300) (ha.ext h)
  have hY := fun w' (h : Ext w w') => cutF_ok (k := 300) (hb.ext h)
  have HFa := Lib.hid (fun w' (h : Ext w w') k hk => few_at a w' (ha.ext h) k hk)
  have HFb := Lib.hid (fun w' (h : Ext w w') k hk => few_at b w' (hb.ext h) k hk)
  have hlx := cutF_len 300 a
  have hly := cutF_len 300 b
  generalize cutF 300 a = X at *
  generalize cutF 300 b = Y at *
  have HX := Lib.hid hX; clear hX
  have HY := Lib.hid hY; clear hY
  obtain ⟨anum, awire, an, aA, alen, acap, ab⟩ := a
  obtain ⟨bnum, bwire, bn, bA, blen, bcap, bb⟩ := b
  unfold FV.val
  dsimp only at HFa HFb ⊢
  clear ha hb
  go_enter Try.func7, Try.ntmps7
  go_wp2_with fail
  refine (law03_shown _).mono ?_
  rintro e w1 ⟨rfl, x1⟩
  have a0 : w1.cell? ⟨w.heap.size, 0, none⟩ = some (.int .i64 anum) := x1.cell (by simp)
  have a1 : w1.cell? ⟨w.heap.size, 1, none⟩ = some (.int .i64 awire) := x1.cell (by simp)
  have a2 : w1.cell? ⟨w.heap.size, 2, none⟩ = some (.int .u64 an) := x1.cell (by simp)
  have a3 : w1.cell? ⟨w.heap.size, 3, none⟩ = some (.slice aA alen acap) := x1.cell (by simp)
  have b0 : w1.cell? ⟨w.heap.size + 1, 0, none⟩ = some (.int .i64 bnum) := x1.cell (by simp)
  have b1 : w1.cell? ⟨w.heap.size + 1, 1, none⟩ = some (.int .i64 bwire) := x1.cell (by simp)
  have b2 : w1.cell? ⟨w.heap.size + 1, 2, none⟩ = some (.int .u64 bn) := x1.cell (by simp)
  have b3 : w1.cell? ⟨w.heap.size + 1, 3, none⟩ = some (.slice bA blen bcap) := x1.cell (by simp)
  have hx1 : Ext w w1 := (((Ext.refl w).alloc _).alloc _).trans x1
  clear x1
  go_wp2_with fail
  refine (HFa.out w1 hx1 _ rfl).mono ?_
  rintro e w2 ⟨g, c, rfl, p0, p1, p2, p3, x2⟩
  have b0' := x2.cell b0
  have b1' := x2.cell b1
  have b2' := x2.cell b2
  have b3' := x2.cell b3
  have hzb := World.block_lt_of_cell? _ _ b0'
  clear a0 a1 a2 a3 b0 b1 b2 b3
  have hx2 : Ext w w2 := hx1.trans x2
  clear x2
  go_wp2_with fail
  refine (HFb.out _ (hx2.alloc _) _ (by simp)).mono ?_
  rintro e w3 ⟨g', c', rfl, q0, q1, q2, q3, x3⟩
  have c0 : w3.cell? ⟨w2.heap.size, 0, none⟩ = some (.int .i64 X.num) := x3.cell (by simp)
  have c1 : w3.cell? ⟨w2.heap.size, 1, none⟩ = some (.int .i64 X.wire) := x3.cell (by simp)
  have c2 : w3.cell? ⟨w2.heap.size, 2, none⟩ = some (.int .u64 X.n) := x3.cell (by simp)
  have c3 : w3.cell? ⟨w2.heap.size, 3, none⟩ = some (.slice X.A X.len X.cap) := x3.cell (by simp)
  have hzc := World.block_lt_of_cell? _ _ c0
  have hx3 : Ext w w3 := (hx2.alloc _).trans x3
  clear b0' b1' b2' b3' p0 p1 p2 p3 hzb x3
  go_wp2_with fail
  have hE1 := fmay_one X (HX.out w (Ext.refl w)) hlx
  have m1 := tlv_May (some ⟨w3.heap.size + 1, 0, none⟩) 1 1 [X] _ (fs_one (w3.alloc (.cells #[.int .i64 Y.num, .int .i64 Y.wire, .int .u64 Y.n, .slice Y.A Y.len Y.cap] 42)) X (HX.out _ (hx3.alloc _)) (w3.heap.size + 1) (by simp)) (by omega)
  rw [hE1] at m1
  refine m1.mono ?_
  clear m1
  rintro e w4 ⟨rfl, x4⟩
  have y34 : Ext w3 w4 := (((Ext.refl w3).alloc _).alloc _).trans x4
  have c0' := y34.cell c0
  have c1' := y34.cell c1
  have c2' := y34.cell c2
  have c3' := y34.cell c3
  have d0 : w4.cell? ⟨w3.heap.size, 0, none⟩ = some (.int .i64 Y.num) := x4.cell (by simp)
  have d1 : w4.cell? ⟨w3.heap.size, 1, none⟩ = some (.int .i64 Y.wire) := x4.cell (by simp)
  have d2 : w4.cell? ⟨w3.heap.size, 2, none⟩ = some (.int .u64 Y.n) := x4.cell (by simp)
  have d3 : w4.cell? ⟨w3.heap.size, 3, none⟩ = some (.slice Y.A Y.len Y.cap) := x4.cell (by simp)
  have hx4 : Ext w w4 := hx3.trans y34
  clear x4 y34 c0 c1 c2 c3 q0 q1 q2 q3 hzc hE1
  have hE2 := fmay_one Y (HY.out w (Ext.refl w)) hly
  have m2 := tlv_May (some ⟨w4.heap.size, 0, none⟩) 1 1 [Y] _ (fs_one w4 Y (HY.out _ hx4) w4.heap.size rfl) (by omega)
  rw [hE2] at m2
  have hE3 := fmay_two X Y (HX.out w (Ext.refl w)) hlx (HY.out w (Ext.refl w)) hly
  have m3 := fun w' (h : Ext w w') k hk => tlv_May (some ⟨k, 0, none⟩) 2 2 [X, Y] _ (fs_two w' X Y (HX.out _ h) (HY.out _ h) k hk) (by omega)
  rw [hE3] at m3
  clear hE2 hE3 hlx hly HX HY HFa HFb
  have hcX := alone_cases X
  have hcY := alone_cases Y
  obtain ⟨num, wire, n, A, len, cap, b⟩ := X
  obtain ⟨num', wire', n', A', len', cap', b'⟩ := Y
  dsimp only at c0' c1' c2' c3' d0 d1 d2 d3 m2 m3 hcX hcY
  have hlt4 := World.block_lt_of_cell? _ _ d0
  rcases hcX with ⟨haX, hcX⟩ | ⟨haX, hcX⟩
  · rw [if_pos haX] at m3
    rw [if_pos haX]
    have M3 := Lib.hid m3; clear m3
    rcases hcY with ⟨haY, _⟩ | ⟨haY, _⟩
    · rw [if_pos haY] at m2
      clear haX haY
      have M2 := Lib.hid m2; clear m2
      rcases hcX with h1 | ⟨h1, h2⟩ | ⟨h1, h2, rfl, h3⟩ | ⟨h1, h2, rfl, h3⟩ | ⟨h1, h2, h3, h4⟩
      all_goals
        go_wp2_with fail
        refine M2.out.mono ?_
        clear M2
        rintro e w5 ⟨rfl, x5⟩
        have y45 : Ext w4 w5 := ((Ext.refl w4).alloc _).trans x5
        have e0 := y45.cell c0'
        have e1 := y45.cell c1'
        have e2 := y45.cell c2'
        have e3 := y45.cell c3'
        have f0 := y45.cell d0
        have f1 := y45.cell d1
        have f2 := y45.cell d2
        have f3 := y45.cell d3
        have hx5 : Ext w w5 := hx4.trans y45
        clear x5 y45 c0' c1' c2' c3' d0 d1 d2 d3
        go_wp2_with fail
        refine (M3.out w5 hx5 _ rfl).mono ?_
        rintro e w6 ⟨rfl, x6⟩
        go_wp2
        go_ret
        exact ⟨rfl, (hx5.alloc _).trans x6⟩
    · rw [if_neg (by rw [haY]; simp)] at m2
      clear haX haY
      have M2 := Lib.hid m2; clear m2
      rcases hcX with h1 | ⟨h1, h2⟩ | ⟨h1, h2, rfl, h3⟩ | ⟨h1, h2, rfl, h3⟩ | ⟨h1, h2, h3, h4⟩
      all_goals
        go_wp2_with fail
        refine M2.out.mono ?_
        clear M2
        rintro e w5 ⟨rfl, x5⟩
        have y45 : Ext w4 w5 := ((Ext.refl w4).alloc _).trans x5
        have e0 := y45.cell c0'
        have e1 := y45.cell c1'
        have e2 := y45.cell c2'
        have e3 := y45.cell c3'
        have f0 := y45.cell d0
        have f1 := y45.cell d1
        have f2 := y45.cell d2
        have f3 := y45.cell d3
        have hx5 : Ext w w5 := hx4.trans y45
        clear x5 y45 c0' c1' c2' c3' d0 d1 d2 d3
        go_wp2_with fail
        refine (M3.out w5 hx5 _ rfl).mono ?_
        rintro e w6 ⟨rfl, x6⟩
        go_wp2
        go_ret
        exact ⟨rfl, (hx5.alloc _).trans x6⟩
  · rw [if_neg (by rw [haX]; simp)] at m3
    rw [if_neg (by rw [haX]; simp)]
    rcases hcY with ⟨haY, _⟩ | ⟨haY, hcY⟩
    · rw [if_pos haY] at m2 m3
      have M3 := Lib.hid m3; clear m3
      have M2 := Lib.hid m2; clear m2
      clear haX haY
      obtain ⟨h1, h2, ⟨rfl, rfl⟩ | ⟨rfl, rfl⟩⟩ := hcX
      all_goals
        go_wp2_with fail
        refine M2.out.mono ?_
        clear M2
        rintro e w5 ⟨rfl, x5⟩
        have y45 : Ext w4 w5 := ((Ext.refl w4).alloc _).trans x5
        have e0 := y45.cell c0'
        have e1 := y45.cell c1'
        have e2 := y45.cell c2'
        have e3 := y45.cell c3'
        have f0 := y45.cell d0
        have f1 := y45.cell d1
        have f2 := y45.cell d2
        have f3 := y45.cell d3
        have hx5 : Ext w w5 := hx4.trans y45
        clear x5 y45 c0' c1' c2' c3' d0 d1 d2 d3
        go_wp2_with fail
        refine (M3.out w5 hx5 _ rfl).mono ?_
        rintro e w6 ⟨rfl, x6⟩
        go_wp2
        go_ret
        exact ⟨rfl, (hx5.alloc _).trans x6⟩
    · rw [if_neg (by rw [haY]; simp)] at m2 m3
      have M2 := Lib.hid m2; clear m2
      clear haX haY
      have hr : (num < num' ∧ risesB ⟨num, wire, n, A, len, cap, b⟩ ⟨num', wire', n', A', len', cap', b'⟩ = true) ∨ (num' < num ∧ risesB ⟨num, wire, n, A, len, cap, b⟩ ⟨num', wire', n', A', len', cap', b'⟩ = false) ∨
          (num' = num ∧ risesB ⟨num, wire, n, A, len, cap, b⟩ ⟨num', wire', n', A', len', cap', b'⟩ = (wire' == 2 && wire == 2)) := by
        unfold risesB
        dsimp only
        rcases Int.lt_trichotomy num num' with h | h | h
        · exact .inl ⟨h, by rw [if_neg (by omega)]; simpa using h⟩
        · exact .inr (.inr ⟨h.symm, by rw [if_pos h.symm]⟩)
        · exact .inr (.inl ⟨h, by rw [if_neg (by omega)]; simp; omega⟩)
      obtain ⟨h1, h2, ⟨rfl, rfl⟩ | ⟨rfl, rfl⟩⟩ := hcX
      all_goals
        obtain ⟨k1, k2, ⟨rfl, rfl⟩ | ⟨rfl, rfl⟩⟩ := hcY
        all_goals
          rcases hr with ⟨hn, hr⟩ | ⟨hn, hr⟩ | ⟨rfl, hr⟩
          all_goals
            rw [hr] at m3
            clear hr
            have M3 := Lib.hid m3; clear m3
            go_wp2_with fail
            refine M2.out.mono ?_
            clear M2
            rintro e w5 ⟨rfl, x5⟩
            have y45 : Ext w4 w5 := ((Ext.refl w4).alloc _).trans x5
            have e0 := y45.cell c0'
            have e1 := y45.cell c1'
            have e2 := y45.cell c2'
            have e3 := y45.cell c3'
            have f0 := y45.cell d0
            have f1 := y45.cell d1
            have f2 := y45.cell d2
            have f3 := y45.cell d3
            have hx5 : Ext w w5 := hx4.trans y45
            clear x5 y45 c0' c1' c2' c3' d0 d1 d2 d3
            go_wp2_with fail
            refine (M3.out w5 hx5 _ rfl).mono ?_
            rintro e w6 ⟨rfl, x6⟩
            have e0' := x6.cell (Ext.cell ((Ext.refl w5).alloc _) e0)
            have e1' := x6.cell (Ext.cell ((Ext.refl w5).alloc _) e1)
            have f0' := x6.cell (Ext.cell ((Ext.refl w5).alloc _) f0)
            have f1' := x6.cell (Ext.cell ((Ext.refl w5).alloc _) f1)
            go_wp2
            go_ret
            exact ⟨rfl, (hx5.alloc _).trans x6⟩
end Go.Proofs.Ytjfohlnkdagjcaa
